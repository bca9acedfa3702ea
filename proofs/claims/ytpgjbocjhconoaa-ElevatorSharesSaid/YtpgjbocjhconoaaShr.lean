/- The plain law of FairShares. -/
import Derived.Test.YtpgjbocjhconoaaScl
namespace Go.Proofs.Ytpgjbocjhconoaa
open Go.RowKit

def upd (P : Int → Int) (t v : Int) : Int → Int := fun u => if u = t then v else P u
theorem upd_self (P : Int → Int) (t v : Int) : upd P t v t = v := by simp [upd]
theorem upd_ne (P : Int → Int) {t u : Int} (v : Int) (h : u ≠ t) : upd P t v u = P u := by simp [upd, h]
theorem upd_comm (P : Int → Int) {t u : Int} (v v' : Int) (h : u ≠ t) : upd (upd P t v) u v' = upd (upd P u v') t v := by
  funext x; unfold upd; by_cases h1 : x = u
  · subst h1; simp [h]
  · simp [h1]
/-- The starts of each tenant follow one another. -/
def ChL (k : Int → Int) : (Int → Int) → List Qd → Prop
  | _, [] => True
  | P, x :: l => x.sta = P x.b.ten ∧ ChL k (upd P x.b.ten (P x.b.ten + k x.b.ten * x.b.cnt)) l
theorem ChL.remove {k : Int → Int} : ∀ {l : List Qd} {P : Int → Int} {b : Nat} {q : Qd}, ChL k P l → l[b]? = some q → (∀ j x, j < b → l[j]? = some x → x.b.ten ≠ q.b.ten) →
    q.sta = P q.b.ten ∧ ChL k (upd P q.b.ten (P q.b.ten + k q.b.ten * q.b.cnt)) (l.eraseIdx b)
  | [], _, _, _, _, hq, _ => by simp at hq
  | x :: l, P, 0, q, h, hq, _ => by
    simp at hq; subst hq
    exact ⟨h.1, h.2⟩
  | x :: l, P, b + 1, q, h, hq, hj => by
    have hne : x.b.ten ≠ q.b.ten := hj 0 x (by omega) rfl
    have ih := ChL.remove h.2 (by simpa using hq) (fun j y hlt hy => hj (j + 1) y (by omega) (by simpa using hy))
    rw [upd_ne _ _ (Ne.symm hne)] at ih
    refine ⟨ih.1, ?_⟩
    rw [List.eraseIdx_cons_succ]
    refine ⟨by rw [upd_ne _ _ hne]; exact h.1, ?_⟩
    rw [upd_ne _ _ hne, upd_comm _ _ _ hne]
    exact ih.2
/-- A tenant that waits has an entry at its own time. -/
theorem ChL.first {k : Int → Int} : ∀ {l : List Qd} {P : Int → Int} {t : Int}, ChL k P l → (∃ x ∈ l, x.b.ten = t) → ∃ y ∈ l, y.b.ten = t ∧ y.sta = P t
  | [], _, _, _, h => by simp at h
  | x :: l, P, t, h, hx => by
    by_cases e : x.b.ten = t
    · exact ⟨x, by simp, e, by rw [← e]; exact h.1⟩
    · obtain ⟨y, hy, hyt⟩ := hx
      have hy2 : y ∈ l := by
        rcases List.mem_cons.1 hy with rfl | h2
        · exact absurd hyt e
        · exact h2
      obtain ⟨z, hz, hzt, hzs⟩ := ChL.first h.2 ⟨y, hy2, hyt⟩
      exact ⟨z, by simp [hz], hzt, by rw [hzs, upd_ne _ _ (Ne.symm e)]⟩

theorem stQ_cnt : ∀ (zs : List Int) (fs : List (Int × Int)) (i : Nat), ∀ x ∈ stQ fs i zs, 1 ≤ x.b.cnt ∧ x.b.cnt ≤ 5
  | [], _, _ => by simp [stQ]
  | z :: zs, fs, i => by
    intro x hm
    simp only [stQ, List.mem_cons] at hm
    rcases hm with rfl | hm
    · have := stC_bd z
      simpa [stEnt] using this
    · exact stQ_cnt zs _ _ x hm
theorem mostQ_ge : ∀ (l : List Qd) (t : Int), ∀ x ∈ l, x.b.ten = t → x.b.cnt ≤ mostQ l t := by
  intro l t
  have gen : ∀ (l : List Qd) (m : Int), m ≤ l.foldl (fun m q => if q.b.ten = t then max m q.b.cnt else m) m ∧ ∀ x ∈ l, x.b.ten = t → x.b.cnt ≤ l.foldl (fun m q => if q.b.ten = t then max m q.b.cnt else m) m := by
    intro l
    induction l with
    | nil => intro m; simp
    | cons y l ih =>
      intro m
      simp only [List.foldl_cons]
      have h1 := ih (if y.b.ten = t then max m y.b.cnt else m)
      refine ⟨Int.le_trans ?_ h1.1, fun x hx hxt => ?_⟩
      · split <;> omega
      · rcases List.mem_cons.1 hx with rfl | hx
        · refine Int.le_trans ?_ h1.1
          rw [if_pos hxt]; omega
        · exact h1.2 x hx hxt
  exact (gen l 0).2
theorem mostQ_hi (l : List Qd) (t : Int) (h : ∀ x ∈ l, x.b.cnt ≤ 5) : 0 ≤ mostQ l t ∧ mostQ l t ≤ 5 := by
  have gen : ∀ (l : List Qd) (m : Int), 0 ≤ m → m ≤ 5 → (∀ x ∈ l, x.b.cnt ≤ 5) → 0 ≤ l.foldl (fun m q => if q.b.ten = t then max m q.b.cnt else m) m ∧ l.foldl (fun m q => if q.b.ten = t then max m q.b.cnt else m) m ≤ 5 := by
    intro l
    induction l with
    | nil => intro m h0 h5 _; simp; omega
    | cons y l ih =>
      intro m h0 h5 hl
      simp only [List.foldl_cons]
      have hy := hl y (by simp)
      refine ih _ ?_ ?_ (fun x hx => hl x (by simp [hx]))
      · split <;> omega
      · split <;> omega
  exact gen l 0 (by omega) (by omega) h
theorem cnt_zero {l : List Qd} {t : Int} : (0 < cntQ l t) ↔ ∃ x ∈ l, x.b.ten = t := by
  unfold cntQ
  rw [List.length_pos_iff_exists_mem]
  simp [List.mem_filter]

/-- 840 by the weight of a flow. -/
def kOf (fs : List (Int × Int)) (t : Int) : Int := 840 / (fs.getD t.toNat (1, 0)).1
def pOf (fs : List (Int × Int)) (t : Int) : Int := (fs.getD t.toNat (1, 0)).2
theorem w_div {w : Int} (h1 : 1 ≤ w) (h2 : w ≤ 8) (c : Int) : c * 840 / w = (840 / w) * c := by
  have : w = 1 ∨ w = 2 ∨ w = 3 ∨ w = 4 ∨ w = 5 ∨ w = 6 ∨ w = 7 ∨ w = 8 := by omega
  rcases this with rfl | rfl | rfl | rfl | rfl | rfl | rfl | rfl <;> omega
theorem kOf_pos {fs : List (Int × Int)} {B : Int} (h : Fok B fs) {t : Int} : 0 ≤ kOf fs t ∧ kOf fs t ≤ 840 := by
  unfold kOf
  by_cases ht : t.toNat < 3
  · obtain ⟨x, y, hx, x1, x2, _⟩ := h.get ht
    have e : fs.getD t.toNat (1, 0) = (x, y) := by rw [List.getD_eq_getElem?_getD, hx]; rfl
    rw [e]
    exact ⟨Int.ediv_nonneg (by omega) (by omega), Int.ediv_le_self _ (by omega)⟩
  · have e : fs.getD t.toNat (1, 0) = (1, 0) := by rw [List.getD_eq_getElem?_getD, List.getElem?_eq_none (by rw [h.1]; omega)]; rfl
    rw [e]; decide
theorem stQ_chain : ∀ (zs : List Int) (fs : List (Int × Int)) (i : Nat) (B : Int) (P : Int → Int) (k : Int → Int), Fok B fs → 0 ≤ B → B + 6720 * (zs.length : Int) ≤ 1125899906842624 →
    (∀ t : Nat, t < 3 → k t = kOf fs t ∧ P t = pOf fs t) → ChL k P (stQ fs i zs)
  | [], _, _, _, _, _, _, _, _, _ => by simp [stQ, ChL]
  | z :: zs, fs, i, B, P, k, h, h0, hB, hk => by
    simp only [List.length_cons] at hB
    obtain ⟨x, y, hx, x1, x2, y1, y2⟩ := h.get (stT_lt z)
    have hc := stC_bd z
    have hs := h.stamp (V := 0) hx (by omega) h0 (by omega) hc.1 (by omega)
    have hst : stStep fs z = fs.set (stT z) (x, max 0 y + stC z * 840 / x) := by unfold stStep; rw [hs.1]
    have e : fs.getD (stT z) (1, 0) = (x, y) := by rw [List.getD_eq_getElem?_getD, hx]; rfl
    have hkt := hk (stT z) (stT_lt z)
    unfold kOf pOf at hkt
    rw [Int.toNat_natCast, e] at hkt
    simp only at hkt
    have hm : max 0 y = y := by omega
    simp only [stQ]
    refine ⟨by simp only [stEnt, hs.1, hkt.2, hm], ?_⟩
    refine stQ_chain zs (stStep fs z) (i + 1) (B + 6720) _ k (by rw [hst]; exact hs.2) (by omega) (by omega) ?_
    intro t ht
    have hk2 := hk t ht
    by_cases e2 : t = stT z
    · subst e2
      unfold kOf pOf
      rw [hst, Int.toNat_natCast]
      have e3 : (fs.set (stT z) (x, max 0 y + stC z * 840 / x)).getD (stT z) (1, 0) = (x, max 0 y + stC z * 840 / x) := by
        rw [List.getD_eq_getElem?_getD, List.getElem?_set_self (by rw [h.1]; exact ht)]; rfl
      rw [e3]
      refine ⟨hkt.1, ?_⟩
      simp only [stEnt, upd_self, hkt.2, hkt.1]
      rw [hm, w_div x1 x2]
    · have e3 : (stStep fs z).getD t (1, 0) = fs.getD t (1, 0) := by
        rw [hst, List.getD_eq_getElem?_getD, List.getD_eq_getElem?_getD, List.getElem?_set_ne (Ne.symm e2)]
      unfold kOf pOf at hk2 ⊢
      rw [Int.toNat_natCast] at hk2 ⊢
      rw [e3]
      refine ⟨hk2.1, ?_⟩
      rw [upd_ne _ _ (by simp only [stEnt]; omega)]
      exact hk2.2

theorem kOf_step {fs : List (Int × Int)} {B : Int} (h : Fok B fs) (h0 : 0 ≤ B) (hB : B + 6720 ≤ 1125899906842624) (z : Int) (t : Nat) (ht : t < 3) : kOf (stStep fs z) t = kOf fs t := by
  obtain ⟨x, y, hx, x1, x2, y1, y2⟩ := h.get (stT_lt z)
  have hc := stC_bd z
  have hs := h.stamp (V := 0) hx (by omega) h0 (by omega) hc.1 (by omega)
  have hst : stStep fs z = fs.set (stT z) (x, max 0 y + stC z * 840 / x) := by unfold stStep; rw [hs.1]
  unfold kOf
  rw [hst, Int.toNat_natCast]
  by_cases e2 : stT z = t
  · subst e2
    have e3 : (fs.set (stT z) (x, max 0 y + stC z * 840 / x)).getD (stT z) (1, 0) = (x, max 0 y + stC z * 840 / x) := by
      rw [List.getD_eq_getElem?_getD, List.getElem?_set_self (by rw [h.1]; exact ht)]; rfl
    have e : fs.getD (stT z) (1, 0) = (x, y) := by rw [List.getD_eq_getElem?_getD, hx]; rfl
    rw [e3, e]
  · rw [List.getD_eq_getElem?_getD, List.getD_eq_getElem?_getD, List.getElem?_set_ne e2]
theorem kOf_stN : ∀ (zs : List Int) (fs : List (Int × Int)) (B : Int), Fok B fs → 0 ≤ B → B + 6720 * (zs.length : Int) ≤ 1125899906842624 → ∀ t : Nat, t < 3 → kOf (stN fs zs) t = kOf fs t
  | [], _, _, _, _, _, _, _ => rfl
  | z :: zs, fs, B, h, h0, hB, t, ht => by
    simp only [List.length_cons] at hB
    have e : stN fs (z :: zs) = stN (stStep fs z) zs := rfl
    rw [e, kOf_stN zs (stStep fs z) (B + 6720) (stStep_ok h h0 (by omega) z) (by omega) (by omega) t ht, kOf_step h h0 (by omega) z t ht]
theorem kOf_get {fs : List (Int × Int)} {t : Nat} {x y : Int} (h : fs[t]? = some (x, y)) : kOf fs t = 840 / x := by
  unfold kOf; rw [Int.toNat_natCast, List.getD_eq_getElem?_getD, h]; rfl
/-- What holds as long as entries are picked. -/
def ShI (k : Int → Int) (m : Int → Int) (P : Int → Int) (l : List Qd) : Prop :=
  ChL k P l ∧ l.Pairwise OrdR ∧ (∀ x ∈ l, 0 ≤ x.b.ten ∧ x.b.ten < 3 ∧ 1 ≤ x.b.cnt ∧ x.b.cnt ≤ 5 ∧ x.b.cnt ≤ m x.b.ten) ∧ ∀ a b, (∃ x ∈ l, x.b.ten = b) → P a ≤ P b + k a * m a
theorem ShI.step {k m P : Int → Int} {l : List Qd} {b : Nat} {q : Qd} (hk : ∀ t, 0 ≤ k t) (hm : ∀ t, 0 ≤ m t) (h : ShI k m P l) (hq : l[b]? = some q)
    (hp : ∀ j x, l[j]? = some x → (j < b → lessQ q x = true) ∧ (b ≤ j → lessQ x q = false)) :
    q.sta = P q.b.ten ∧ ShI k m (upd P q.b.ten (P q.b.ten + k q.b.ten * q.b.cnt)) (l.eraseIdx b) := by
  obtain ⟨hc, ho, hx, hb⟩ := h
  have hqm := List.mem_of_getElem? hq
  have hqx := hx q hqm
  have hfirst : ∀ j x, j < b → l[j]? = some x → x.b.ten ≠ q.b.ten := by
    intro j x hj hjx e
    obtain ⟨g1, g2⟩ := List.getElem?_eq_some_iff.1 hjx
    obtain ⟨g3, g4⟩ := List.getElem?_eq_some_iff.1 hq
    have h5 := (List.pairwise_iff_getElem.1 ho) j b g1 g3 hj
    rw [g2, g4] at h5
    have h6 := lessQ_iff.1 ((hp j x hjx).1 hj)
    have := h5.2 e
    omega
  have hr := hc.remove hq hfirst
  have hsub : ∀ x ∈ l.eraseIdx b, x ∈ l := fun x hx => (List.eraseIdx_sublist ..).subset hx
  refine ⟨hr.1, hr.2, ho.sublist (List.eraseIdx_sublist ..), fun x hxm => hx x (hsub x hxm), ?_⟩
  intro a c hex
  have hkc : 0 ≤ k q.b.ten * q.b.cnt := Int.mul_nonneg (hk _) (by omega)
  have hkm : k q.b.ten * q.b.cnt ≤ k q.b.ten * m q.b.ten := Int.mul_le_mul_of_nonneg_left hqx.2.2.2.2 (hk _)
  have hka : 0 ≤ k a * m a := Int.mul_nonneg (hk _) (hm _)
  have hexl : ∃ x ∈ l, x.b.ten = c := by obtain ⟨x, h1, h2⟩ := hex; exact ⟨x, hsub x h1, h2⟩
  by_cases ea : a = q.b.ten
  · subst ea
    rw [upd_self]
    by_cases ec : c = q.b.ten
    · subst ec; rw [upd_self]; omega
    · rw [upd_ne _ _ ec]
      obtain ⟨y, hy, hyt, hys⟩ := hc.first hexl
      have := pick_least hp hy
      omega
  · rw [upd_ne _ _ ea]
    have h1 := hb a c hexl
    by_cases ec : c = q.b.ten
    · subst ec; rw [upd_self]; omega
    · rw [upd_ne _ _ ec]; exact h1
theorem ShI.start {fs : List (Int × Int)} (h : Fok 0 fs) (hz : ∀ t : Nat, t < 3 → pOf fs t = 0) (zs : List Int) (hl : zs.length ≤ 30) : ShI (kOf fs) (mostQ (stQ fs 0 zs)) (fun _ => 0) (stQ fs 0 zs) := by
  have hm := stQ_mem zs fs 0 0 h (by omega) (by omega)
  have hc := stQ_cnt zs fs 0
  refine ⟨stQ_chain zs fs 0 0 _ _ h (by omega) (by omega) (fun t ht => ⟨rfl, (hz t ht).symm⟩), stQ_ord zs fs 0 0 h (by omega) (by omega), ?_, ?_⟩
  · intro x hx
    have h1 := hm x hx
    have h2 := hc x hx
    exact ⟨h1.2.1, h1.2.2.1, h2.1, h2.2, mostQ_ge _ _ x hx rfl⟩
  · intro a b _
    have := Int.mul_nonneg (kOf_pos h (t := a)).1 (mostQ_hi (stQ fs 0 zs) a (fun x hx => (hc x hx).2)).1
    simpa using this
end Go.Proofs.Ytpgjbocjhconoaa
