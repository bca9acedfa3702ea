/- Arguments opened to cells: slices of entries, of bunches, with their members. -/
import Derived.Test.YtpgjbocjhconoaaGreatK3
import Derived.Deep.Slices
import Derived.Deep.Grids
namespace Go.Proofs.YtpgjbocjhconoaaGreat
open Go.RowKit Go.Deep

section
variable {H : Type} {enc : TypeId × Value → H} {P : Program} {w : World} {base : Nat} {spare : Nat → Bool} {held : Bool}
end

deriving instance Inhabited for Mem
deriving instance Inhabited for Bun
deriving instance Inhabited for BM
deriving instance Inhabited for Qd
deriving instance Inhabited for QM
end Go.Proofs.YtpgjbocjhconoaaGreat
