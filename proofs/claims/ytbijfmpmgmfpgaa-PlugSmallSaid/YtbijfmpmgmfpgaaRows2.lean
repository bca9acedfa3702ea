/- Rows of structs: cells of a list, by its elements; bunches and queue entries. -/
import Derived.Test.YtbijfmpmgmfpgaaOwn
import Derived.Test.YtbijfmpmgmfpgaaSch
namespace Go.Proofs.Ytbijfmpmgmfpgaa
open Go.RowKit

theorem flat_len {α : Type} {f : α → List Value} {m : Nat} (hf : ∀ a, (f a).length = m) (l : List α) : (l.flatMap f).length = l.length * m := by
  induction l with
  | nil => simp
  | cons p l ih => simp only [List.flatMap_cons, List.length_append, List.length_cons, hf, ih, Nat.succ_mul]; omega
theorem flat_at {α : Type} {f : α → List Value} {m : Nat} (hf : ∀ a, (f a).length = m) : ∀ {l : List α} {k : Nat} {a : α} {j : Nat} {u : Value}, l[k]? = some a → (f a)[j]? = some u → (l.flatMap f)[k * m + j]? = some u
  | [], k, a, j, u, h, _ => by simp at h
  | q :: l, 0, a, j, u, h, hu => by
    simp at h; subst h
    have hj := (List.getElem?_eq_some_iff.1 hu).1
    rw [List.flatMap_cons, Nat.zero_mul, Nat.zero_add, List.getElem?_append_left hj]; exact hu
  | q :: l, k + 1, a, j, u, h, hu => by
    have ih := flat_at hf (l := l) (k := k) (by simpa using h) hu
    rw [List.flatMap_cons, List.getElem?_append_right (by rw [hf, Nat.succ_mul]; omega), hf, show (k + 1) * m + j - m = k * m + j by rw [Nat.succ_mul]; omega]
    exact ih
theorem flat_one {α : Type} {f : α → List Value} (h : ∀ a, ∀ u ∈ f a, u.oneCell' = true) (l : List α) : ∀ u ∈ l.flatMap f, u.oneCell' = true := by
  intro u hu
  rw [List.mem_flatMap] at hu
  obtain ⟨a, _, ha⟩ := hu
  exact h a u ha

/-- A bunch, its members as a slice value. -/
structure Bun where
  id : Int
  ten : Int
  knd : Int
  sec : Int
  cnt : Int
  dat : ByteArray
  fua : Bool
  mA : Option Addr
  mL : Nat
  mC : Nat
  tim : Int
def Bun.cells (b : Bun) : List Value := [.int .i64 b.id, .int .i64 b.ten, .int .i64 b.knd, .int .i64 b.sec, .int .i64 b.cnt, .string b.dat, .bool b.fua, .slice b.mA b.mL b.mC, .int .i64 b.tim]
/-- An entry of a scheduler. -/
structure Qd where
  b : Bun
  due : Int
  sta : Int
  tri : Int
def Qd.cells (q : Qd) : List Value := [.int .i64 q.b.id, .int .i64 q.b.ten, .int .i64 q.b.knd, .int .i64 q.b.sec, .int .i64 q.b.cnt, .string q.b.dat, .bool q.b.fua, .slice q.b.mA q.b.mL q.b.mC, .int .i64 q.b.tim, .int .i64 q.due, .int .i64 q.sta, .int .i64 q.tri]
theorem Qd.cells_len (q : Qd) : q.cells.length = 12 := rfl
def qcells (l : List Qd) : List Value := l.flatMap Qd.cells
theorem qcells_len (l : List Qd) : (qcells l).length = l.length * 12 := flat_len Qd.cells_len l
theorem qcells_app (l m : List Qd) : qcells (l ++ m) = qcells l ++ qcells m := by simp [qcells]
theorem qcells_at {l : List Qd} {k : Nat} {q : Qd} {j : Nat} {u : Value} (h : l[k]? = some q) (hu : q.cells[j]? = some u) : (qcells l)[k * 12 + j]? = some u := flat_at Qd.cells_len h hu

/-- A row that reads: the cell j of element i. -/
theorem Rd.at {w : World} {v : Value} {size n : Nat} {xs : List Value} (h : Rd w v size n xs) (hn : 0 < n) : ∃ b o c, v = .slice (some ⟨b, o, none⟩) n c ∧ b < w.heap.size ∧ ∀ j u, xs[j]? = some u → w.cell? ⟨b, o + j, none⟩ = some u := by
  obtain ⟨_, A, c, hv, _, _, hr⟩ := h
  obtain ⟨b, o, rfl, hb, hc⟩ := hr hn
  exact ⟨b, o, c, hv, hb, hc⟩
theorem Rd.form {w : World} {v : Value} {size n : Nat} {xs : List Value} (h : Rd w v size n xs) : ∃ A c, v = .slice A n c ∧ n ≤ c ∧ c ≤ maxLen := by
  obtain ⟨_, A, c, hv, h1, h2, _⟩ := h
  exact ⟨A, c, hv, h1, h2⟩
theorem Rd.far {w : World} {v : Value} {size n : Nat} {xs : List Value} (h : Rd w v size n xs) {p : Addr} (hp : v.ownBlock ≠ some p.block) (u : Value) : Rd (w.setCell p u) v size n xs := by
  obtain ⟨h1, A, c, hv, h2, h3, hr⟩ := h
  refine ⟨h1, A, c, hv, h2, h3, fun hn => ?_⟩
  obtain ⟨b, o, hA, hb, hc⟩ := hr hn
  subst hv; subst hA
  refine ⟨b, o, rfl, by simpa [World.setCell] using hb, fun j u hu => ?_⟩
  have hne : p.block ≠ b := fun e => hp (by simp [Value.ownBlock, e])
  exact (World.cell?_setCell_other _ _ _ _ (fun e => hne (by rw [e]))).trans (hc j u hu)
theorem Rd.grown {w w' : World} {v : Value} {size n : Nat} {xs : List Value} {row : Option Nat} (h : Rd w v size n xs) (hg : w.grownBy w' row) (hne : ∀ b, v.ownBlock = some b → row ≠ some b) : Rd w' v size n xs := by
  obtain ⟨h1, A, c, hv, h2, h3, hr⟩ := h
  refine ⟨h1, A, c, hv, h2, h3, fun hn => ?_⟩
  obtain ⟨b, o, hA, hb, hc⟩ := hr hn
  subst hv; subst hA
  exact ⟨b, o, rfl, Nat.lt_of_lt_of_le hb hg.size, fun j u hu => (hg.cell_far ⟨b, o + j, none⟩ hb (Ne.symm (hne b rfl))).trans (hc j u hu)⟩
theorem Rd.alloc {w : World} {v : Value} {size n : Nat} {xs : List Value} (h : Rd w v size n xs) (o : Obj) : Rd (w.alloc o) v size n xs := h.bel ((Bel.refl w).alloc o)
theorem AtF.grown {w w' : World} {B : Nat} {cs : List Value} {row : Option Nat} (h : AtF w B cs) (hg : w.grownBy w' row) (hne : some B ≠ row) : AtF w' B cs :=
  ⟨⟨Nat.lt_of_lt_of_le h.1.1 hg.size, fun j u hu => (hg.cell_far ⟨B, j, none⟩ h.1.1 hne).trans (h.1.2 j u hu)⟩, fun j => (hg.frozen_far ⟨B, j, none⟩ h.1.1 hne).trans (h.2 j)⟩
theorem own_far {w : World} {base : Nat} {e : TypeId} {size : Nat} {v : Value} {n : Nat} {xs : List Value} (h : w.ownsRow base e size v n xs) {p : Addr} (hp : v.ownBlock ≠ some p.block) (u : Value) : (w.setCell p u).ownsRow base e size v n xs := by
  refine ⟨h.1, ?_⟩
  rcases h.2 with h2 | ⟨g, cap, cur, hv, hg, hh, r⟩
  · exact Or.inl h2
  · refine Or.inr ⟨g, cap, cur, hv, hg, ?_, r⟩
    subst hv
    have hne : p.block ≠ g := fun e => hp (by simp [Value.ownBlock, e])
    simp only [World.setCell, Array.getElem?_modify]; rw [if_neg hne]; exact hh
theorem own_ne {w : World} {base : Nat} {e : TypeId} {size : Nat} {v : Value} {n : Nat} {xs : List Value} (h : w.ownsRow base e size v n xs) {k : Nat} (hk : k < base ∨ w.heap.size ≤ k) : v.ownBlock ≠ some k := fun he => by have := h.lt k he; omega
theorem own_other {w : World} {base : Nat} {e : TypeId} {size : Nat} {v : Value} {n : Nat} {xs : List Value} (h : w.ownsRow base e size v n xs) {p : Addr} (hp : p.block < base) (u : Value) : (w.setCell p u).ownsRow base e size v n xs := own_far h (own_ne h (.inl hp)) u
theorem own_slice {w : World} {base : Nat} {e : TypeId} {size : Nat} {v : Value} {n : Nat} {xs : List Value} (h : w.ownsRow base e size v n xs) : ∃ A c, v = .slice A n c := by
  obtain ⟨_, A, c, hv, _⟩ := Rd.own h
  exact ⟨A, c, hv⟩
theorem heap_new_at {w : World} {o : Obj} {k : Nat} (h : w.heap.size = k) : (w.alloc o).heap[k]? = some o := by subst h; exact heap_alloc_new w o
/-- Two rows of the call's own, the one made behind the other. -/
theorem own_apart {w w' : World} {base base' : Nat} {e e' : TypeId} {size size' n n' : Nat} {v v' : Value} {xs xs' : List Value} (h : w.ownsRow base e size v n xs) (h' : w'.ownsRow base' e' size' v' n' xs') (hb : w.heap.size ≤ base') : ∀ b, v'.ownBlock = some b → v.ownBlock ≠ some b := by
  intro b h1 h2
  have := h.lt b h2
  have := h'.lt b h1
  omega
theorem Rd.own_lt {w : World} {v : Value} {size n : Nat} {xs : List Value} (h : Rd w v size n xs) (hn : 0 < n) {k : Nat} (hk : v.ownBlock = some k) : k < w.heap.size := by
  obtain ⟨b, o, c, rfl, hb, _⟩ := h.at hn
  simp [Value.ownBlock] at hk
  omega
/-- The cells cs lie one behind the other from ⟨b, o⟩ on. -/
structure InRow (w : World) (b o : Nat) (cs : List Value) : Prop where
  all : ∀ j u, cs[j]? = some u → w.cell? ⟨b, o + j, none⟩ = some u
theorem InRow.cell {w : World} {b o : Nat} {cs : List Value} (h : InRow w b o cs) (j : Nat) {u : Value} (hu : cs[j]? = some u) : w.cell? ⟨b, o + j, none⟩ = some u := h.all j u hu
theorem InRow.bel {w w' : World} {b o : Nat} {cs : List Value} (h : InRow w b o cs) (hb : Bel w w') (hl : b < w.heap.size) : InRow w' b o cs := ⟨fun j u hu => by rw [hb.cellAt b _ hl]; exact h.all j u hu⟩
/-- Element k of a row of structs. -/
theorem row_at {α : Type} {f : α → List Value} {m : Nat} (hf : ∀ a, (f a).length = m) {w : World} {b o k : Nat} {l : List α} {a : α} (h : ∀ j u, (l.flatMap f)[j]? = some u → w.cell? ⟨b, o + j, none⟩ = some u) (hk : l[k]? = some a) : InRow w b (o + k * m) (f a) :=
  ⟨fun j u hu => by rw [Nat.add_assoc]; exact h _ _ (flat_at hf hk hu)⟩
def bcells (l : List Bool) : List Value := l.map .bool
theorem bcells_at {l : List Bool} {k : Nat} {b : Bool} (h : l[k]? = some b) : (bcells l)[k]? = some (.bool b) := by simp [bcells, h]
end Go.Proofs.Ytbijfmpmgmfpgaa
