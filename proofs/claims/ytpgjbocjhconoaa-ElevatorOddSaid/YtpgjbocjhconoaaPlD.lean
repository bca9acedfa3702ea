/- plug.Add. -/
import Derived.Test.YtpgjbocjhconoaaPlC
import Derived.Deep.DeepCutAuto
namespace Go.Proofs.Ytpgjbocjhconoaa
open Go.RowKit Go.Maps
set_option linter.unusedSimpArgs false

/-- Whether b is to be joined to element i. -/
def goodI (M B : Int) (b : Bu) (P : List Bu) (i : Nat) : Bool :=
  match P[i]? with
  | none => false
  | some a => canU M B a b != 0 && !((P.drop (i + 1)).any fun x => confU x b)
def addAt (M B : Int) (b : Bu) (P : List Bu) : Option Nat := (List.range P.length).find? (goodI M B b P)
def addP (M B : Int) (P : List Bu) (b : Bu) : List Bu × Bool :=
  if okU b = true ∧ limOk M B = true then
    match addAt M B b P with
    | some i => (match P[i]? with
      | some a => P.set i (joinU a b (canU M B a b))
      | none => P, true)
    | none => if 16 ≤ P.length then (P, false) else (P ++ [b], true)
  else (P, false)
theorem addAt_some {M B : Int} {b : Bu} {P : List Bu} {i : Nat} (h : goodI M B b P i = true) (hb : ∀ j < i, goodI M B b P j = false) : addAt M B b P = some i := by
  unfold addAt
  rw [List.find?_range_eq_some]
  have : i < P.length := by
    unfold goodI at h
    split at h
    · cases h
    · rename_i x hx; exact (List.getElem?_eq_some_iff.1 hx).1
  exact ⟨h, List.mem_range.2 this, fun j hj => by rw [hb j hj]; rfl⟩
theorem addAt_none {M B : Int} {b : Bu} {P : List Bu} (hb : ∀ j < P.length, goodI M B b P j = false) : addAt M B b P = none := by
  unfold addAt
  rw [List.find?_eq_none]
  intro j hj
  rw [hb j (List.mem_range.1 hj)]; simp
theorem addP_no {M B : Int} {b : Bu} {P : List Bu} (h : okU b = false ∨ limOk M B = false) : addP M B P b = (P, false) := by
  unfold addP
  rw [if_neg]
  rintro ⟨h1, h2⟩
  rcases h with h | h
  · rw [h] at h1; cases h1
  · rw [h] at h2; cases h2
theorem addP_join {M B : Int} {b a : Bu} {P : List Bu} {i : Nat} (h1 : okU b = true) (h2 : limOk M B = true) (ha : P[i]? = some a) (h3 : canU M B a b ≠ 0) (h4 : ((P.drop (i + 1)).any fun x => confU x b) = false) (hb : ∀ j < i, goodI M B b P j = false) : addP M B P b = (P.set i (joinU a b (canU M B a b)), true) := by
  unfold addP
  rw [if_pos ⟨h1, h2⟩, addAt_some (i := i) (by unfold goodI; simp only [ha]; rw [h4]; simpa using h3) hb]
  simp only [ha]
theorem addP_snoc {M B : Int} {b : Bu} {P : List Bu} (h1 : okU b = true) (h2 : limOk M B = true) (hb : ∀ j < P.length, goodI M B b P j = false) (hl : P.length < 16) : addP M B P b = (P ++ [b], true) := by
  unfold addP
  rw [if_pos ⟨h1, h2⟩, addAt_none hb]
  simp only
  rw [if_neg (by omega)]
theorem addP_full {M B : Int} {b : Bu} {P : List Bu} (h1 : okU b = true) (h2 : limOk M B = true) (hb : ∀ j < P.length, goodI M B b P j = false) (hl : 16 ≤ P.length) : addP M B P b = (P, false) := by
  unfold addP
  rw [if_pos ⟨h1, h2⟩, addAt_none hb]
  simp only
  rw [if_pos hl]
theorem goodI_no {M B : Int} {b a : Bu} {P : List Bu} {i : Nat} (ha : P[i]? = some a) (h : canU M B a b = 0 ∨ ((P.drop (i + 1)).any fun x => confU x b) = true) : goodI M B b P i = false := by
  unfold goodI
  simp only [ha]
  rcases h with h | h <;> simp [h]
theorem bmc_drop (L : List BM) (k : Nat) : bmc (L.drop k) = (bmc L).drop (k * 9) := by
  induction k generalizing L with
  | zero => simp
  | succ k ih =>
    cases L with
    | nil => simp [bmc]
    | cons x L =>
      rw [List.drop_succ_cons, ih]
      have : bmc (x :: L) = x.b.cells ++ bmc L := by simp [bmc]
      rw [this, Nat.succ_mul, Nat.add_comm (k * 9), List.drop_append]
      have h9 : x.b.cells.length = 9 := x.b.cells_len
      rw [@List.drop_eq_nil_of_le _ x.b.cells _ (by omega), List.nil_append, h9, show 9 + k * 9 - 9 = k * 9 by omega]
theorem BL.drop {w : World} {g o n c : Nat} {L : List BM} (h : BL w (.slice (some ⟨g, o, none⟩) n c) L) (k : Nat) (hk : k ≤ L.length) : BL w (.slice (some ⟨g, o + k * 9, none⟩) (n - k) (c - k)) (L.drop k) := by
  obtain ⟨h1, A, c', hv, hc, hm, hr⟩ := h.rd
  injection hv with e1 e2 e3
  subst e1 e2 e3
  refine ⟨⟨by rw [bmc_len], _, _, by rw [List.length_drop], by rw [List.length_drop]; omega, by omega, fun h0 => ?_⟩, fun x hx => h.mem x (List.mem_of_mem_drop hx)⟩
  obtain ⟨b, o', hA, hb, hcell⟩ := hr (by rw [List.length_drop] at h0; omega)
  injection hA with hA
  injection hA with e4 e5
  subst e4 e5
  refine ⟨_, _, rfl, hb, fun j u hu => ?_⟩
  rw [bmc_drop, List.getElem?_drop] at hu
  rw [Nat.add_assoc]
  exact hcell _ u hu
theorem BN.set {w : World} {base g cap : Nat} {L : List BM} {k : Nat} {x y : BM} (h : BN w base (.slice (some ⟨g, 0, none⟩) L.length cap) L) (hk : L[k]? = some x) (hy : Mems w y.b y.ms) (hs : ∀ q, (Value.slice y.b.mA y.b.mL y.b.mC).ownBlock = some q → g < q ∧ base ≤ q) :
    BN (Proofs.Ytpgjbocjhconoaa.setRow w g (k * 9) y.b.cells) base (.slice (some ⟨g, 0, none⟩) (L.set k y).length cap) (L.set k y) := by
  refine ⟨h.bo.set hk hy (fun _ q hq => by have := (hs q hq).1; omega), fun j z hj hz h0 q hq => ?_⟩
  rw [List.getElem?_set] at hz
  split at hz
  · split at hz
    · cases hz; exact (hs q hq).2
    · cases hz
  · exact h.fr j z (List.getElem?_eq_some_iff.1 hz).1 hz h0 q hq
theorem bmc_snocP (L : List BM) (x : BM) : bmc (L ++ [x]) = bmc L ++ x.b.cells := by simp [bmc]
/-- Behind an append of one bunch. -/
theorem BN.snoc {w1 w3 : World} {base wz : Nat} {v v' : Value} {L : List BM} {x : BM} {o : Obj} (h : BN w1 base v L) (hm : Mems w1 x.b x.ms) (hx : ∀ k, (Value.slice x.b.mA x.b.mL x.b.mC).ownBlock = some k → wz ≤ k) (hb : base ≤ wz) (hv : ∀ k, v.ownBlock = some k → k < wz)
    (hown : w3.ownsRow base 42 9 v' (L.length + 1) (bmc L ++ x.b.cells)) (hg : (w1.alloc o).grownBy w3 v.ownBlock) (hl : v'.ownBlock = v.ownBlock ∨ v'.ownBlock = some (w1.alloc o).heap.size) : BN w3 base v' (L ++ [x]) := by
  have key : ∀ y : BM, Mems w1 y.b y.ms → (0 < y.ms.length → ∀ k, (Value.slice y.b.mA y.b.mL y.b.mC).ownBlock = some k → v.ownBlock ≠ some k) → Mems w3 y.b y.ms ∧ (0 < y.ms.length → ∀ k, (Value.slice y.b.mA y.b.mL y.b.mC).ownBlock = some k → v'.ownBlock ≠ some k) := by
    intro y hy hs
    refine ⟨⟨hy.len, ?_, hy.ids, hy.dl⟩, fun h0 k hk => ?_⟩
    · by_cases h0 : 0 < y.ms.length
      · exact (hy.rd.alloc _).grown hg (fun b hb' => hs h0 b hb')
      · exact hy.rd.empty h0 _
    · rcases hl with e | e
      · rw [e]; exact hs h0 k hk
      · rw [e]
        intro e2
        have h3 := hy.rd.own_lt h0 (k := k) hk
        simp at e2; omega
  have all : ∀ y ∈ L ++ [x], Mems w3 y.b y.ms ∧ (0 < y.ms.length → ∀ k, (Value.slice y.b.mA y.b.mL y.b.mC).ownBlock = some k → v'.ownBlock ≠ some k) := by
    intro y hy
    rw [List.mem_append, List.mem_singleton] at hy
    rcases hy with hy | rfl
    · exact key y (h.bo.mem y hy) (h.bo.sep y hy)
    · exact key y hm (fun _ k hk e => by have h1 := hx k hk; have h2 := hv k e; omega)
  refine ⟨⟨by rw [List.length_append, bmc_snocP]; exact hown, fun y hy => (all y hy).1, fun y hy => (all y hy).2⟩, fun j y hj hy h0 k hk => ?_⟩
  rw [List.getElem?_append] at hy
  split at hy
  · rename_i hlt; exact h.fr j y hlt hy h0 k hk
  · have : y = x := by
      have := List.mem_of_getElem? hy
      simpa using this
    subst this
    exact Nat.le_trans hb (hx k hk)

end Go.Proofs.Ytpgjbocjhconoaa
