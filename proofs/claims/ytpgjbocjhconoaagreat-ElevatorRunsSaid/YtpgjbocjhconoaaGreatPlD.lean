/- plug.Add. -/
import Derived.Test.YtpgjbocjhconoaaGreatPlC
import Derived.Deep.DeepCutAuto
namespace Go.Proofs.YtpgjbocjhconoaaGreat
open Go.RowKit Go.Maps
set_option linter.unusedSimpArgs false

end Go.Proofs.YtpgjbocjhconoaaGreat
