/- dock.Limits are valid. -/
import Derived.Test.YtbijfmpmgmfpgaaLim
namespace Go.Proofs.Ytbijfmpmgmfpgaa
open Go.RowKit

theorem lim_ok (n : Int) : limOk (1 + rnd n 6) (bound n) = true := by
  have l1 := rnd_lo n 6
  have l2 := rnd_hi n 6 (by omega)
  have l3 := rnd_lo (n / 16) 5
  have l4 := rnd_hi (n / 16) 5 (by omega)
  have h5 : rnd (n / 16) 5 = 0 ∨ rnd (n / 16) 5 = 1 ∨ rnd (n / 16) 5 = 2 ∨ rnd (n / 16) 5 = 3 ∨ rnd (n / 16) 5 = 4 := by omega
  rcases h5 with h5 | h5 | h5 | h5 | h5 <;> simp [limOk, bound, h5] <;> omega
end Go.Proofs.Ytbijfmpmgmfpgaa
