/- slices.ContainsFunc over bunches; plug.Add's closure. -/
import Derived.Test.YtpgjbocjhconoaaGreatK3
import Derived.Test.YtpgjbocjhconoaaGreatK2
namespace Go.Proofs.YtpgjbocjhconoaaGreat
open Go.RowKit Go.Maps
set_option linter.unusedSimpArgs false

end Go.Proofs.YtpgjbocjhconoaaGreat
