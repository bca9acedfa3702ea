/- slices.ContainsFunc over bunches; plug.Add's closure. -/
import Derived.Test.YtpgjbocjhconoaaK3
import Derived.Test.YtpgjbocjhconoaaK2
namespace Go.Proofs.Ytpgjbocjhconoaa
open Go.RowKit Go.Maps
set_option linter.unusedSimpArgs false

end Go.Proofs.Ytpgjbocjhconoaa
