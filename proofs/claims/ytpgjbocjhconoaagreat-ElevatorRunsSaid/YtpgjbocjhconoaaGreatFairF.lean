/- The law's made. -/
import Derived.Test.YtpgjbocjhconoaaGreatK8
namespace Go.Proofs.YtpgjbocjhconoaaGreat
open Go.RowKit
set_option linter.unusedSimpArgs false

end Go.Proofs.YtpgjbocjhconoaaGreat
