/- The reference's New; the law's weightsOf. -/
import Derived.Test.YtpgjbocjhconoaaGreatElE
import Derived.Test.YtpgjbocjhconoaaGreatK11
import Derived.Test.YtpgjbocjhconoaaGreatK8
import Derived.Test.YtpgjbocjhconoaaGreatRem
namespace Go.Proofs.YtpgjbocjhconoaaGreat
open Go.RowKit Go.Maps
set_option linter.unusedSimpArgs false

theorem refTick_any (n : Int) (w : World) : Calls Tryz.prog 51 #[.int .i64 n] w fun e w' => e = .returned (.bool (tickE n)) ∧ Bel w w' := by
  go_enter Tryz.func51, Tryz.ntmps51
  go_wp2
  all_goals
    go_ret
    exact ⟨ret_bool (by first | (simp [tickE, *]; done) | (simp [tickE, *]; omega) | (simp [tickE]; omega) | (rw [Bool.eq_iff_iff]; simp [tickE, *]; omega)), Bel.refl _⟩

end Go.Proofs.YtpgjbocjhconoaaGreat
