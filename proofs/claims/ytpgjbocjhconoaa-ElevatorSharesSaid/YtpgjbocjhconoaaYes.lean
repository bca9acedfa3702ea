/- The law's yes and left. -/
import Derived.Test.YtpgjbocjhconoaaK6
namespace Go.Proofs.Ytpgjbocjhconoaa
open Go.RowKit
set_option linter.unusedSimpArgs false

theorem Try.infoBool : (Try.prog.info? 4).map (fun i => (i.zero, i.size, i.bytes)) = some (some (.bool false), 1, 1) := by kernel_rfl
theorem bcells_len (l : List Bool) : (bcells l).length = l.length * 1 := by simp [bcells]
def yesL (n : Nat) : List Bool := List.replicate n true
theorem yesL_at {n k : Nat} (h : k < n) : (yesL n)[k]? = some true := by simp [yesL, h]

/-- How many entries a tenant has, and the largest one. -/
def cntQ (l : List Qd) (t : Int) : Nat := (l.filter fun q => q.b.ten = t).length
def mostQ (l : List Qd) (t : Int) : Int := l.foldl (fun m q => if q.b.ten = t then max m q.b.cnt else m) 0
theorem cntQ_snoc (l : List Qd) (q : Qd) (t : Int) : cntQ (l ++ [q]) t = cntQ l t + if q.b.ten = t then 1 else 0 := by
  unfold cntQ
  rw [List.filter_append]
  by_cases h : q.b.ten = t <;> simp [List.filter_cons, h]
theorem mostQ_snoc (l : List Qd) (q : Qd) (t : Int) : mostQ (l ++ [q]) t = if q.b.ten = t then max (mostQ l t) q.b.cnt else mostQ l t := by
  simp [mostQ]
theorem cntQ_le (l : List Qd) (t : Int) : cntQ l t ≤ l.length := by unfold cntQ; exact List.length_filter_le _ _

end Go.Proofs.Ytpgjbocjhconoaa
