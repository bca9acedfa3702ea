/- Arguments opened to cells: slices of buckets. -/
import Derived.Test.YtpgjbocjhconoaaOpenQ
import Derived.Test.YtpgjbocjhconoaaK7
namespace Go.Proofs.Ytpgjbocjhconoaa
open Go.RowKit Go.Deep

deriving instance Inhabited for Bk
set_option maxRecDepth 100000 in
theorem el_bkt {H : Type} {enc : TypeId × Value → H} {w : World} {base : Nat} {spare : Nat → Bool} {held : Bool} : ∀ n cs' y, DataW.trod enc Try.prog w base spare held n 60 cs' = some y → ∃ a : Bk, cs' = bkCells a ∧ True := by
  intro n cs' y h
  obtain ⟨xs, n', _, _, hl, hxs, hf⟩ := DataW.trod_struct Try.underlying60 h
  have c1 : Try.prog.cellsOf 60 = 4 := by kernel_rfl
  have ci : Try.prog.cellsOf 3 = 1 := by kernel_rfl
  rw [c1] at hl
  match cs', hl, xs, hxs with
  | [c0, c1, c2, c3], _, [x0, x1, x2, x3], _ =>
    have h0 := hf 0 _ rfl
    have h1 := hf 1 _ rfl
    have h2 := hf 2 _ rfl
    have h3 := hf 3 _ rfl
    simp [ci] at h0 h1 h2 h3
    obtain ⟨a, e0, _, _⟩ := DataW.trod_int Try.underlying3 h0
    obtain ⟨b, e1, _, _⟩ := DataW.trod_int Try.underlying3 h1
    obtain ⟨c, e2, _, _⟩ := DataW.trod_int Try.underlying3 h2
    obtain ⟨d, e3, _, _⟩ := DataW.trod_int Try.underlying3 h3
    simp at e0 e1 e2 e3
    exact ⟨⟨a, b, c, d⟩, by rw [e0, e1, e2, e3]; rfl, trivial⟩
end Go.Proofs.Ytpgjbocjhconoaa
