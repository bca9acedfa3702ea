/- The plain law of FairScales: doubled weights, halved times. -/
import Derived.Test.YtpgjbocjhconoaaOrd
namespace Go.Proofs.Ytpgjbocjhconoaa
open Go.RowKit

def dbl (q : Qd) : Qd := ⟨q.b, q.due, 2 * q.sta, q.tri⟩
theorem lessQ_dbl (a b : Qd) : lessQ (dbl a) (dbl b) = lessQ a b := by
  rw [Bool.eq_iff_iff, lessQ_iff, lessQ_iff]; simp only [dbl]; omega
theorem lessAt_dbl (l : List Qd) (i j : Nat) : lessAt (l.map dbl) i j = lessAt l i j := by
  unfold lessAt
  rw [List.getElem?_map, List.getElem?_map]
  cases l[i]? <;> cases l[j]? <;> simp [lessQ_dbl]
theorem pickN_dbl (l : List Qd) (may : List Bool) : ∀ k, pickN (l.map dbl) may k = pickN l may k
  | 0 => rfl
  | k + 1 => by
    unfold pickN
    rw [pickN_dbl l may k]
    simp only [lessAt_dbl]

/-- Flows with doubled weights and halved times. -/
def SclR (fa fb : List (Int × Int)) : Prop := ∀ (k : Nat) (x y : Int), fb[k]? = some (x, y) → ∃ u : Int, x = 2 * u ∧ 1 ≤ u ∧ u ≤ 4 ∧ fa[k]? = some (u, 2 * y)
theorem scl_div {u c : Int} (h1 : 1 ≤ u) (h2 : u ≤ 4) : c * 840 / u = 2 * (c * 840 / (2 * u)) := by
  have : u = 1 ∨ u = 2 ∨ u = 3 ∨ u = 4 := by omega
  rcases this with rfl | rfl | rfl | rfl <;> omega
theorem scl_step {fa fb : List (Int × Int)} {B : Int} (ha : Fok B fa) (hb : Fok B fb) (h0 : 0 ≤ B) (hB : B + 6720 ≤ 1125899906842624) (h : SclR fa fb) (z : Int) :
    SclR (stStep fa z) (stStep fb z) ∧ ∀ i, stEnt fa i z = dbl (stEnt fb i z) := by
  obtain ⟨x, y, hx, x1, x2, y1, y2⟩ := hb.get (stT_lt z)
  obtain ⟨u, rfl, u1, u2, hu⟩ := h _ _ _ hx
  have hc := stC_bd z
  have sa := (ha.stamp (V := 0) hu (by omega) h0 hB hc.1 (by omega)).1
  have sb := (hb.stamp (V := 0) hx (by omega) h0 hB hc.1 (by omega)).1
  have hd := scl_div (c := stC z) u1 u2
  constructor
  · intro k x' y' hk
    unfold stStep at hk ⊢
    rw [sa]
    rw [sb] at hk
    simp only at hk ⊢
    by_cases e : stT z = k
    · subst e
      rw [List.getElem?_set_self (List.getElem?_eq_some_iff.1 hx).1] at hk
      rw [List.getElem?_set_self (List.getElem?_eq_some_iff.1 hu).1]
      cases hk
      exact ⟨u, rfl, u1, u2, by rw [hd]; congr 2; omega⟩
    · rw [List.getElem?_set_ne e] at hk ⊢
      exact h _ _ _ hk
  · intro i
    unfold stEnt dbl
    rw [sa, sb]
    simp only [Qd.mk.injEq, true_and]
    refine ⟨by omega, trivial⟩
theorem scl_all : ∀ (zs : List Int) (fa fb : List (Int × Int)) (i : Nat) (B : Int), Fok B fa → Fok B fb → 0 ≤ B → B + 6720 * (zs.length : Int) ≤ 1125899906842624 → SclR fa fb →
    stQ fa i zs = (stQ fb i zs).map dbl
  | [], _, _, _, _, _, _, _, _, _ => by simp [stQ]
  | z :: zs, fa, fb, i, B, ha, hb, h0, hB, h => by
    simp only [List.length_cons] at hB
    have hs := scl_step ha hb h0 (by omega) h z
    simp only [stQ, List.map_cons, hs.2]
    rw [scl_all zs (stStep fa z) (stStep fb z) (i + 1) (B + 6720) (stStep_ok ha h0 (by omega) z) (stStep_ok hb h0 (by omega) z) (by omega) (by omega) hs.1]
theorem scl_new {a b c : Int} (ha : 1 ≤ a ∧ a ≤ 4) (hb : 1 ≤ b ∧ b ≤ 4) (hc : 1 ≤ c ∧ c ≤ 4) : Fok 0 (newF [a, b, c]) ∧ Fok 0 (newF [2 * a, 2 * b, 2 * c]) ∧ SclR (newF [a, b, c]) (newF [2 * a, 2 * b, 2 * c]) ∧
    fairOk 0 (newF [a, b, c]) = true ∧ fairOk 0 (newF [2 * a, 2 * b, 2 * c]) = true := by
  have f1 : Fok 0 (newF [a, b, c]) := ⟨rfl, fun k x y hk => by
    match k with
    | 0 => simp [newF] at hk; omega
    | 1 => simp [newF] at hk; omega
    | 2 => simp [newF] at hk; omega
    | k + 3 => simp [newF] at hk⟩
  have f2 : Fok 0 (newF [2 * a, 2 * b, 2 * c]) := ⟨rfl, fun k x y hk => by
    match k with
    | 0 => simp [newF] at hk; omega
    | 1 => simp [newF] at hk; omega
    | 2 => simp [newF] at hk; omega
    | k + 3 => simp [newF] at hk⟩
  refine ⟨f1, f2, fun k x y hk => ?_, f1.fair (by omega) (by omega) (by omega), f2.fair (by omega) (by omega) (by omega)⟩
  match k with
  | 0 => simp [newF] at hk; exact ⟨a, by omega, by omega, by omega, by simp [newF]; omega⟩
  | 1 => simp [newF] at hk; exact ⟨b, by omega, by omega, by omega, by simp [newF]; omega⟩
  | 2 => simp [newF] at hk; exact ⟨c, by omega, by omega, by omega, by simp [newF]; omega⟩
  | k + 3 => simp [newF] at hk
theorem stQ_hi : ∀ (zs : List Int) (fs : List (Int × Int)) (i : Nat) (B : Int), Fok B fs → 0 ≤ B → B + 6720 * (zs.length : Int) ≤ 1125899906842624 →
    ∀ x ∈ stQ fs i zs, x.sta ≤ B + 6720 * (zs.length : Int)
  | [], _, _, _, _, _, _ => by simp [stQ]
  | z :: zs, fs, i, B, h, h0, hB => by
    simp only [List.length_cons] at hB
    obtain ⟨u, y, hx, u1, u2, y1, y2⟩ := h.get (stT_lt z)
    have hc := stC_bd z
    have hs := h.stamp (V := 0) hx (by omega) h0 (by omega) hc.1 (by omega)
    intro x hm
    simp only [stQ, List.mem_cons] at hm
    rcases hm with rfl | hm
    · simp only [stEnt, hs.1, List.length_cons]; omega
    · have ih := stQ_hi zs (stStep fs z) (i + 1) (B + 6720) (stStep_ok h h0 (by omega) z) (by omega) (by omega) x hm
      simp only [List.length_cons]; omega
/-- Starts that are small. -/
def StaOk (l : List Qd) : Prop := ∀ x ∈ l, 0 ≤ x.sta ∧ x.sta ≤ 201600
theorem StaOk.start {fs : List (Int × Int)} (h : Fok 0 fs) (zs : List Int) (hl : zs.length ≤ 30) : StaOk (stQ fs 0 zs) := fun x hx => by
  have h1 := stQ_mem zs fs 0 0 h (by omega) (by omega) x hx
  have h2 := stQ_hi zs fs 0 0 h (by omega) (by omega) x hx
  omega
theorem StaOk.erase {l : List Qd} (h : StaOk l) (k : Nat) : StaOk (l.eraseIdx k) := fun x hx => h x ((List.eraseIdx_sublist ..).subset hx)
theorem erase_map (l : List Qd) (k : Nat) : (l.map dbl).eraseIdx k = (l.eraseIdx k).map dbl := by
  simp only [List.eraseIdx_eq_take_drop_succ, List.map_append, List.map_take, List.map_drop]
end Go.Proofs.Ytpgjbocjhconoaa
