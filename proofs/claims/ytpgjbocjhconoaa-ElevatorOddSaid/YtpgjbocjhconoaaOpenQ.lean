/- Arguments opened to cells: slices of entries, of bunches, with their members. -/
import Derived.Test.YtpgjbocjhconoaaK3
import Derived.Deep.Slices
import Derived.Deep.Grids
namespace Go.Proofs.Ytpgjbocjhconoaa
open Go.RowKit Go.Deep

theorem flat_inv2 {α : Type} {f : α → List Value} {m : Nat} (hf : ∀ a, (f a).length = m) : ∀ {l : List α} {j : Nat} {u : Value}, (l.flatMap f)[j]? = some u → ∃ k r a, j = k * m + r ∧ l[k]? = some a ∧ (f a)[r]? = some u
  | [], j, u, h => by simp at h
  | q :: l, j, u, h => by
    rw [List.flatMap_cons] at h
    by_cases hj : j < m
    · rw [List.getElem?_append_left (by rw [hf]; exact hj)] at h
      exact ⟨0, j, q, by omega, rfl, h⟩
    · rw [List.getElem?_append_right (by rw [hf]; omega), hf] at h
      obtain ⟨k, r, a, h1, h2, h3⟩ := flat_inv2 hf h
      exact ⟨k + 1, r, a, by rw [Nat.succ_mul]; omega, by simpa using h2, h3⟩

section
variable {H : Type} {enc : TypeId × Value → H} {P : Program} {w : World} {base : Nat} {spare : Nat → Bool} {held : Bool}
/-- A slice whose elements read as some a each. -/
theorem rd_of_slice2 {α : Type} [Inhabited α] {p : α → Prop} {f : α → List Value} {m : Nat} {t e : TypeId} {fuel : Nat} {cs : List Value} {x : DataW H × List MemPlace} (ht : P.underlying t = some (.slice e)) (hm : P.cellsOf e = m) (hm0 : 0 < m) (hf : ∀ a, (f a).length = m)
    (hel : ∀ n cs' y, DataW.trod enc P w base spare held n e cs' = some y → ∃ a : α, cs' = f a ∧ p a) (h : DataW.trod enc P w base spare held fuel t cs = some x) :
    ∃ (v : Value) (l : List α), cs = [v] ∧ Rd w v m l.length (l.flatMap f) ∧ ∀ a ∈ l, p a := by
  rcases open_slice ht h with ⟨rfl, _⟩ | ⟨a, len, cap, mm, n, D, Pl, rfl, hb, hl, hc, hmm, rfl, hx⟩
  · exact ⟨_, [], rfl, Rd.nil w m, fun a ha => by cases ha⟩
  · have hle : len ≤ mm := by rw [hmm]; split <;> omega
    rw [hm] at hx
    obtain ⟨A, hA⟩ := choose_lt (α := α) (n := len) (p := fun i y => w.cells? base (a.add (i * m)) m = some (f y) ∧ p y) (fun i hi => by
      obtain ⟨cs', h1, h2⟩ := hx i (by omega)
      obtain ⟨y, rfl, hp⟩ := hel _ _ _ h2
      exact ⟨y, h1, hp⟩)
    have hAp : ∀ a ∈ (List.range len).map A, p a := fun a ha => by
      rw [List.mem_map] at ha
      obtain ⟨i, hi, rfl⟩ := ha
      exact (hA i (by simpa using hi)).2
    have hA : ∀ i, i < len → w.cells? base (a.add (i * m)) m = some (f (A i)) := fun i hi => (hA i hi).1
    refine ⟨_, (List.range len).map A, rfl, ?_, hAp⟩
    have hlen : ((List.range len).map A).length = len := by simp
    rw [hlen]
    refine ⟨by rw [flat_len hf, hlen], some a, cap, rfl, hl, hc, fun hn => ?_⟩
    have hcell : ∀ k r, k < len → r < m → w.cell? (a.add (k * m + r)) = (f (A k))[r]? := by
      intro k r hk hr
      rw [← add_add]
      exact (World.cells?_some (hA k hk)).2.2 r hr
    obtain ⟨b, off, spot⟩ := a
    have h0 := hcell 0 0 hn hm0
    have hspot : spot = none := by
      have h1 : (f (A 0))[0]? = some ((f (A 0))[0]'(by rw [hf]; exact hm0)) := List.getElem?_eq_getElem _
      rw [h1] at h0
      simpa [Addr.add] using World.cell?_spot h0
    subst hspot
    refine ⟨b, off, rfl, ?_, fun j u hu => ?_⟩
    · have h1 : (f (A 0))[0]? = some ((f (A 0))[0]'(by rw [hf]; exact hm0)) := List.getElem?_eq_getElem _
      rw [h1] at h0
      have := World.block_lt_of_cell? _ _ h0
      simpa [Addr.add] using this
    · obtain ⟨k, r, y, rfl, h2, h3⟩ := flat_inv2 hf hu
      rw [List.getElem?_map] at h2
      have hr : r < m := by have := (List.getElem?_eq_some_iff.1 h3).1; rwa [hf] at this
      cases hk : (List.range len)[k]? with
      | none => rw [hk] at h2; simp at h2
      | some k' =>
        rw [hk] at h2
        obtain ⟨g1, g2⟩ := List.getElem?_eq_some_iff.1 hk
        simp at g1 g2 h2
        subst g2
        subst h2
        have := hcell k r g1 hr
        rw [Addr.add_lit] at this
        rw [this]; exact h3
end

deriving instance Inhabited for Mem
deriving instance Inhabited for Bun
deriving instance Inhabited for BM
deriving instance Inhabited for Qd
deriving instance Inhabited for QM
theorem flat_bool2 (l : List Bool) : (l.flatMap fun b => [Value.bool b]) = bcells l := by
  induction l with
  | nil => rfl
  | cons b l ih => simp only [List.flatMap_cons, ih]; rfl
set_option maxRecDepth 100000 in
theorem el_bool2 {H : Type} {enc : TypeId × Value → H} {w : World} {base : Nat} {spare : Nat → Bool} {held : Bool} : ∀ n cs' y, DataW.trod enc Try.prog w base spare held n 4 cs' = some y → ∃ a : Bool, cs' = [.bool a] ∧ True := by
  intro n cs' y h
  obtain ⟨b, h1, _⟩ := DataW.trod_bool Try.underlying4 h
  exact ⟨b, h1, trivial⟩
set_option maxRecDepth 100000 in
theorem el_mem {H : Type} {enc : TypeId × Value → H} {w : World} {base : Nat} {spare : Nat → Bool} {held : Bool} : ∀ n cs' y, DataW.trod enc Try.prog w base spare held n 74 cs' = some y → ∃ a : Mem, cs' = a.cells ∧ IsInt a.id := by
  intro n cs' y h
  obtain ⟨xs, n', _, _, hl, hxs, hf⟩ := DataW.trod_struct Try.underlying74 h
  have c1 : Try.prog.cellsOf 74 = 3 := by kernel_rfl
  have ci : Try.prog.cellsOf 3 = 1 := by kernel_rfl
  rw [c1] at hl
  match cs', hl, xs, hxs with
  | [c0, c1, c2], _, [x0, x1, x2], _ =>
    have h0 := hf 0 _ rfl
    have h1 := hf 1 _ rfl
    have h2 := hf 2 _ rfl
    simp [ci] at h0 h1 h2
    obtain ⟨a, e0, _, w0⟩ := DataW.trod_int Try.underlying3 h0
    obtain ⟨b, e1, _, _⟩ := DataW.trod_int Try.underlying3 h1
    obtain ⟨c, e2, _, _⟩ := DataW.trod_int Try.underlying3 h2
    simp at e0 e1 e2
    exact ⟨⟨a, b, c⟩, by rw [e0, e1, e2]; rfl, int_bounds w0⟩
set_option maxRecDepth 100000 in
theorem el_bm {H : Type} {enc : TypeId × Value → H} {w : World} {base : Nat} {spare : Nat → Bool} {held : Bool} : ∀ n cs' y, DataW.trod enc Try.prog w base spare held n 42 cs' = some y → ∃ a : BM, cs' = a.b.cells ∧ Mems w a.b a.ms := by
  intro n cs' y h
  obtain ⟨xs, n', _, _, hl, hxs, hf⟩ := DataW.trod_struct Try.underlying42 h
  have c1 : Try.prog.cellsOf 42 = 9 := by kernel_rfl
  have ci : Try.prog.cellsOf 3 = 1 := by kernel_rfl
  have cs : Try.prog.cellsOf 9 = 1 := by kernel_rfl
  have cb : Try.prog.cellsOf 4 = 1 := by kernel_rfl
  have cm : Try.prog.cellsOf 40 = 1 := by kernel_rfl
  rw [c1] at hl
  match cs', hl, xs, hxs with
  | [c0, c1, c2, c3, c4, c5, c6, c7, c8], _, [x0, x1, x2, x3, x4, x5, x6, x7, x8], _ =>
    have h0 := hf 0 _ rfl
    have h1 := hf 1 _ rfl
    have h2 := hf 2 _ rfl
    have h3 := hf 3 _ rfl
    have h4 := hf 4 _ rfl
    have h5 := hf 5 _ rfl
    have h6 := hf 6 _ rfl
    have h7 := hf 7 _ rfl
    have h8 := hf 8 _ rfl
    simp [ci, cs, cb, cm] at h0 h1 h2 h3 h4 h5 h6 h7 h8
    obtain ⟨a0, e0, _, _⟩ := DataW.trod_int Try.underlying3 h0
    obtain ⟨a1, e1, _, _⟩ := DataW.trod_int Try.underlying3 h1
    obtain ⟨a2, e2, _, _⟩ := DataW.trod_int Try.underlying3 h2
    obtain ⟨a3, e3, _, _⟩ := DataW.trod_int Try.underlying3 h3
    obtain ⟨a4, e4, _, _⟩ := DataW.trod_int Try.underlying3 h4
    obtain ⟨a5, e5, _, g5⟩ := DataW.trod_string Try.underlying9 h5
    obtain ⟨a6, e6, _⟩ := DataW.trod_bool Try.underlying4 h6
    obtain ⟨a8, e8, _, _⟩ := DataW.trod_int Try.underlying3 h8
    obtain ⟨v7, ms, e7, hR7, hp7⟩ := rd_of_slice2 (α := Mem) (p := fun m => IsInt m.id) (f := Mem.cells) (m := 3) Try.underlying40 (by kernel_rfl) (by omega) (fun _ => rfl) el_mem h7
    obtain ⟨mA, mC, hv7, _, _⟩ := hR7.form
    subst hv7
    simp at e7
    simp at e0 e1 e2 e3 e4 e5 e6 e8
    exact ⟨⟨⟨a0, a1, a2, a3, a4, a5, a6, mA, ms.length, mC, a8⟩, ms⟩, by rw [e0, e1, e2, e3, e4, e5, e6, e7, e8]; rfl, ⟨rfl, hR7, hp7, g5⟩⟩
set_option maxRecDepth 100000 in
theorem el_qm {H : Type} {enc : TypeId × Value → H} {w : World} {base : Nat} {spare : Nat → Bool} {held : Bool} : ∀ n cs' y, DataW.trod enc Try.prog w base spare held n 56 cs' = some y → ∃ a : QM, cs' = a.q.cells ∧ Mems w a.q.b a.ms := by
  intro n cs' y h
  obtain ⟨xs, n', _, _, hl, hxs, hf⟩ := DataW.trod_struct Try.underlying56 h
  have c1 : Try.prog.cellsOf 56 = 12 := by kernel_rfl
  have ci : Try.prog.cellsOf 3 = 1 := by kernel_rfl
  have cb : Try.prog.cellsOf 42 = 9 := by kernel_rfl
  rw [c1] at hl
  match cs', hl, xs, hxs with
  | [c0, c1, c2, c3, c4, c5, c6, c7, c8, c9, c10, c11], _, [x0, x1, x2, x3], _ =>
    have h0 := hf 0 _ rfl
    have h1 := hf 1 _ rfl
    have h2 := hf 2 _ rfl
    have h3 := hf 3 _ rfl
    simp [ci, cb] at h0 h1 h2 h3
    obtain ⟨a1, e1, _, _⟩ := DataW.trod_int Try.underlying3 h1
    obtain ⟨a2, e2, _, _⟩ := DataW.trod_int Try.underlying3 h2
    obtain ⟨a3, e3, _, _⟩ := DataW.trod_int Try.underlying3 h3
    obtain ⟨b, e0, hb⟩ := el_bm _ _ _ h0
    simp at e1 e2 e3
    refine ⟨⟨⟨b.b, a1, a2, a3⟩, b.ms⟩, ?_, hb⟩
    have : [c0, c1, c2, c3, c4, c5, c6, c7, c8, c9, c10, c11] = [c0, c1, c2, c3, c4, c5, c6, c7, c8] ++ [c9, c10, c11] := rfl
    rw [this, e0, e1, e2, e3]; rfl
theorem ql_of {w : World} {v : Value} {l : List QM} (h : Rd w v 12 l.length (l.flatMap fun x => x.q.cells)) (hm : ∀ x ∈ l, Mems w x.q.b x.ms) : QL w v l := by
  refine ⟨?_, hm⟩
  have : qmc l = l.flatMap fun x => x.q.cells := by unfold qmc qcells; rw [List.flatMap_map]
  rw [this]; exact h
theorem bl_of {w : World} {v : Value} {l : List BM} (h : Rd w v 9 l.length (l.flatMap fun x => x.b.cells)) (hm : ∀ x ∈ l, Mems w x.b x.ms) : BL w v l := ⟨h, hm⟩
end Go.Proofs.Ytpgjbocjhconoaa
