/- The plain laws of the fair queue: what is picked; the order of stamped entries. -/
import Derived.Test.YtpgjbocjhconoaaFairG
import Derived.Test.YtpgjbocjhconoaaYes
namespace Go.Proofs.Ytpgjbocjhconoaa
open Go.RowKit

theorem lessQ_iff {a b : Qd} : lessQ a b = true ↔ a.sta < b.sta ∨ (a.sta = b.sta ∧ a.b.ten < b.b.ten) := by simp [lessQ]
theorem lessQ_no {a b : Qd} : lessQ a b = false ↔ ¬ (a.sta < b.sta ∨ (a.sta = b.sta ∧ a.b.ten < b.b.ten)) := by
  rw [← lessQ_iff]; simp

theorem pick_spec (l : List Qd) : ∀ k, 0 < k → k ≤ l.length → ∃ b, pickN l (yesL l.length) k = some b ∧ b < k ∧
    ∀ j x y, j < k → l[j]? = some x → l[b]? = some y → (j < b → lessQ y x = true) ∧ (b ≤ j → lessQ x y = false)
  | 0, h, _ => absurd h (by omega)
  | k + 1, _, hk => by
    have hm : (yesL l.length)[k]? = some true := yesL_at (by omega)
    have hyk : l[k]? = some l[k] := List.getElem?_eq_getElem (by omega)
    unfold pickN
    rw [if_pos hm]
    by_cases h0 : k = 0
    · subst h0
      refine ⟨0, rfl, by omega, ?_⟩
      intro j x y hj hx hy
      obtain rfl : j = 0 := by omega
      rw [hx] at hy
      cases hy
      exact ⟨fun h => absurd h (by omega), fun _ => lessQ_no.2 (by omega)⟩
    · obtain ⟨b, hb, hbk, hspec⟩ := pick_spec l k (by omega) (by omega)
      rw [hb]
      have hyb : l[b]? = some l[b] := List.getElem?_eq_getElem (by omega)
      have hla : lessAt l k b = lessQ l[k] l[b] := by unfold lessAt; rw [hyk, hyb]
      simp only [hla]
      cases hz : lessQ l[k] l[b]
      · refine ⟨b, rfl, by omega, ?_⟩
        intro j x y hj hx hy
        by_cases hjk : j = k
        · subst hjk
          rw [hyk] at hx; rw [hyb] at hy
          cases hx; cases hy
          exact ⟨fun h => absurd h (by omega), fun _ => hz⟩
        · exact hspec j x y (by omega) hx hy
      · refine ⟨k, rfl, by omega, ?_⟩
        intro j x y hj hx hy
        rw [hyk] at hy
        cases hy
        by_cases hjk : j = k
        · subst hjk
          rw [hyk] at hx
          cases hx
          exact ⟨fun h => absurd h (by omega), fun _ => lessQ_no.2 (by omega)⟩
        · have h1 := hspec j x _ (by omega) hx hyb
          refine ⟨fun _ => ?_, fun h => absurd h (by omega)⟩
          have h2 := lessQ_iff.1 hz
          by_cases hjb : j < b
          · have h3 := lessQ_iff.1 (h1.1 hjb)
            exact lessQ_iff.2 (by omega)
          · have h3 := lessQ_no.1 (h1.2 (by omega))
            exact lessQ_iff.2 (by omega)
/-- The entry that is picked. -/
theorem pick_all {l : List Qd} (h : 0 < l.length) : ∃ b q, pickN l (yesL l.length) l.length = some b ∧ b < l.length ∧ l[b]? = some q ∧
    ∀ j x, l[j]? = some x → (j < b → lessQ q x = true) ∧ (b ≤ j → lessQ x q = false) := by
  obtain ⟨b, h1, h2, h3⟩ := pick_spec l l.length h (Nat.le_refl _)
  exact ⟨b, l[b], h1, h2, List.getElem?_eq_getElem h2, fun j x hx => h3 j x _ (List.getElem?_eq_some_iff.1 hx).1 hx (List.getElem?_eq_getElem h2)⟩
theorem pick_least {l : List Qd} {b : Nat} {q : Qd} (h : ∀ j x, l[j]? = some x → (j < b → lessQ q x = true) ∧ (b ≤ j → lessQ x q = false)) {x : Qd} (hx : x ∈ l) : q.sta ≤ x.sta := by
  obtain ⟨j, hj⟩ := List.getElem?_of_mem hx
  have h1 := h j x hj
  by_cases hjb : j < b
  · have := lessQ_iff.1 (h1.1 hjb); omega
  · have := lessQ_no.1 (h1.2 (by omega)); omega

/-- Stamped entries: their identities rise, and the starts of one tenant never fall. -/
def OrdR (x y : Qd) : Prop := x.b.id < y.b.id ∧ (x.b.ten = y.b.ten → x.sta ≤ y.sta)
theorem stQ_mem : ∀ (zs : List Int) (fs : List (Int × Int)) (i : Nat) (B : Int), Fok B fs → 0 ≤ B → B + 6720 * (zs.length : Int) ≤ 1125899906842624 →
    ∀ x ∈ stQ fs i zs, (i : Int) ≤ x.b.id ∧ 0 ≤ x.b.ten ∧ x.b.ten < 3 ∧ 0 ≤ x.sta ∧ ∀ u y, fs[x.b.ten.toNat]? = some (u, y) → y ≤ x.sta
  | [], _, _, _, _, _, _ => by simp [stQ]
  | z :: zs, fs, i, B, h, h0, hB => by
    simp only [List.length_cons] at hB
    obtain ⟨u, y, hx, u1, u2, y1, y2⟩ := h.get (stT_lt z)
    have hc := stC_bd z
    have hs := h.stamp (V := 0) hx (by omega) h0 (by omega) hc.1 (by omega)
    have ht := stT_lt z
    intro x hm
    simp only [stQ, List.mem_cons] at hm
    rcases hm with rfl | hm
    · refine ⟨Int.le_refl _, by simp [stEnt], by simp [stEnt]; omega, ?_, ?_⟩
      · simp only [stEnt, hs.1]; omega
      · intro u' y' hu
        simp only [stEnt, Int.toNat_natCast] at hu
        rw [hx] at hu
        cases hu
        simp only [stEnt, hs.1]; omega
    · have hst : stStep fs z = fs.set (stT z) (u, max 0 y + stC z * 840 / u) := by unfold stStep; rw [hs.1]
      have ih := stQ_mem zs (stStep fs z) (i + 1) (B + 6720) (by rw [hst]; exact hs.2) (by omega) (by omega) x hm
      refine ⟨by omega, ih.2.1, ih.2.2.1, ih.2.2.2.1, ?_⟩
      intro u' y' hu
      have hd : 0 ≤ stC z * 840 / u := Int.ediv_nonneg (by omega) (by omega)
      by_cases e : stT z = x.b.ten.toNat
      · have := ih.2.2.2.2 u (max 0 y + stC z * 840 / u) (by rw [hst, ← e]; exact List.getElem?_set_self (by rw [h.1]; exact ht))
        rw [← e, hx] at hu
        cases hu
        omega
      · exact ih.2.2.2.2 u' y' (by rw [hst, List.getElem?_set_ne e]; exact hu)
theorem stQ_ord : ∀ (zs : List Int) (fs : List (Int × Int)) (i : Nat) (B : Int), Fok B fs → 0 ≤ B → B + 6720 * (zs.length : Int) ≤ 1125899906842624 → (stQ fs i zs).Pairwise OrdR
  | [], _, _, _, _, _, _ => by simp [stQ]
  | z :: zs, fs, i, B, h, h0, hB => by
    simp only [List.length_cons] at hB
    obtain ⟨u, y, hx, u1, u2, y1, y2⟩ := h.get (stT_lt z)
    have hc := stC_bd z
    have hs := h.stamp (V := 0) hx (by omega) h0 (by omega) hc.1 (by omega)
    have ht := stT_lt z
    have hst : stStep fs z = fs.set (stT z) (u, max 0 y + stC z * 840 / u) := by unfold stStep; rw [hs.1]
    have hd : 0 ≤ stC z * 840 / u := Int.ediv_nonneg (by omega) (by omega)
    have hok : Fok (B + 6720) (stStep fs z) := by rw [hst]; exact hs.2
    simp only [stQ, List.pairwise_cons]
    refine ⟨fun x hm => ?_, stQ_ord zs (stStep fs z) (i + 1) (B + 6720) hok (by omega) (by omega)⟩
    have hm2 := stQ_mem zs (stStep fs z) (i + 1) (B + 6720) hok (by omega) (by omega) x hm
    refine ⟨by simp only [stEnt]; omega, fun e => ?_⟩
    have e2 : stT z = x.b.ten.toNat := by simp only [stEnt] at e; omega
    have := hm2.2.2.2.2 u (max 0 y + stC z * 840 / u) (by rw [hst, ← e2]; exact List.getElem?_set_self (by rw [h.1]; exact ht))
    simp only [stEnt, hs.1]
    omega

def OrdI (l : List Qd) (a : List Int) (s : Int) : Prop :=
  l.Pairwise OrdR ∧ ∀ x ∈ l, 0 ≤ x.b.ten ∧ x.b.ten < 3 ∧ s ≤ x.sta ∧ ∀ v, a[x.b.ten.toNat]? = some v → v < x.b.id
theorem OrdI.start {fs : List (Int × Int)} (h : Fok 0 fs) (zs : List Int) (hl : zs.length ≤ 30) : OrdI (stQ fs 0 zs) [-1, -1, -1] 0 := by
  refine ⟨stQ_ord zs fs 0 0 h (by omega) (by omega), fun x hx => ?_⟩
  have := stQ_mem zs fs 0 0 h (by omega) (by omega) x hx
  refine ⟨this.2.1, this.2.2.1, this.2.2.2.1, fun v hv => ?_⟩
  have hv2 : v = -1 := by
    have := List.mem_of_getElem? hv
    simpa using this
  omega
theorem OrdI.step {l : List Qd} {a : List Int} {s : Int} {b : Nat} {q : Qd} (h : OrdI l a s) (hq : l[b]? = some q)
    (hp : ∀ j x, l[j]? = some x → (j < b → lessQ q x = true) ∧ (b ≤ j → lessQ x q = false)) : OrdI (l.eraseIdx b) (a.set q.b.ten.toNat q.b.id) q.sta := by
  refine ⟨h.1.sublist (List.eraseIdx_sublist ..), fun x hx => ?_⟩
  rw [List.mem_eraseIdx_iff_getElem?] at hx
  obtain ⟨j, hjb, hj⟩ := hx
  have hxm := List.mem_of_getElem? hj
  have h1 := h.2 x hxm
  have h2 := h.2 q (List.mem_of_getElem? hq)
  refine ⟨h1.1, h1.2.1, pick_least hp hxm, fun v hv => ?_⟩
  by_cases e : q.b.ten.toNat = x.b.ten.toNat
  · have e2 : x.b.ten = q.b.ten := by omega
    rw [← e] at hv
    have hva : v = q.b.id := by
      rw [List.getElem?_set] at hv
      simp only [if_true] at hv
      split at hv
      · cases hv; rfl
      · cases hv
    subst hva
    have hlx := List.getElem?_eq_some_iff.1 hj
    have hlq := List.getElem?_eq_some_iff.1 hq
    obtain ⟨g1, g2⟩ := hlx
    obtain ⟨g3, g4⟩ := hlq
    rcases Nat.lt_or_gt_of_ne hjb with hlt | hlt
    · have h5 := (List.pairwise_iff_getElem.1 h.1) j b g1 g3 hlt
      rw [g2, g4] at h5
      have h6 := lessQ_iff.1 ((hp j x hj).1 hlt)
      have := h5.2 e2
      omega
    · have h5 := (List.pairwise_iff_getElem.1 h.1) b j g3 g1 hlt
      rw [g2, g4] at h5
      exact h5.1
  · rw [List.getElem?_set_ne e] at hv
    exact h1.2.2.2 v hv
end Go.Proofs.Ytpgjbocjhconoaa
