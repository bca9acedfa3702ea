/- The law's stamped. -/
import Derived.Test.YtpgjbocjhconoaaFairF
namespace Go.Proofs.Ytpgjbocjhconoaa
open Go.RowKit
set_option linter.unusedSimpArgs false

/-- Flows of three tenants that are valid, no finish above B. -/
def Fok (B : Int) (fs : List (Int × Int)) : Prop := fs.length = 3 ∧ ∀ (k : Nat) (x y : Int), fs[k]? = some (x, y) → 1 ≤ x ∧ x ≤ 8 ∧ 0 ≤ y ∧ y ≤ B
theorem Fok.fair {B V : Int} {fs : List (Int × Int)} (h : Fok B fs) (hB : B ≤ 1125899906842624) (h0 : 0 ≤ V) (hV : V ≤ 1125899906842624) : fairOk V fs = true := by
  unfold fairOk
  rw [h.1, timeB_iff.2 ⟨h0, hV⟩, Bool.and_eq_true, List.all_eq_true]
  refine ⟨rfl, ?_⟩
  rintro ⟨x, y⟩ hp
  obtain ⟨k, hk⟩ := List.getElem?_of_mem hp
  have := h.2 k x y hk
  exact flowOk_iff.2 (by omega)
theorem Fok.get {B : Int} {fs : List (Int × Int)} (h : Fok B fs) {t : Nat} (ht : t < 3) : ∃ x y, fs[t]? = some (x, y) ∧ 1 ≤ x ∧ x ≤ 8 ∧ 0 ≤ y ∧ y ≤ B := by
  have hl : t < fs.length := by rw [h.1]; exact ht
  obtain ⟨⟨x, y⟩, hx⟩ : ∃ p, fs[t]? = some p := ⟨fs[t], List.getElem?_eq_getElem hl⟩
  exact ⟨x, y, hx, h.2 t x y hx⟩
/-- What a stamp does. -/
theorem Fok.stamp {B V c : Int} {fs : List (Int × Int)} (h : Fok B fs) {t : Nat} {x y : Int} (hx : fs[t]? = some (x, y)) (h0 : 0 ≤ V) (hV : V ≤ B) (hB : B + 6720 ≤ 1125899906842624) (c1 : 1 ≤ c) (c2 : c ≤ 8) :
    stampB V fs t c = (fs.set t (x, max V y + c * 840 / x), max V y, true) ∧ Fok (B + 6720) (fs.set t (x, max V y + c * 840 / x)) := by
  have hb := h.2 t x y hx
  have ht := (List.getElem?_eq_some_iff.1 hx).1
  have hd1 : 0 ≤ c * 840 / x := Int.ediv_nonneg (by omega) (by omega)
  have hd2 : c * 840 / x ≤ 6720 := Int.le_trans (Int.ediv_le_self _ (by omega)) (by omega)
  refine ⟨?_, by simpa using h.1, ?_⟩
  · unfold stampB advB
    have e1 : fs.getD (t : Int).toNat (0, 0) = (x, y) := by rw [Int.toNat_natCast, List.getD_eq_getElem?_getD, hx]; rfl
    rw [if_pos ⟨h.fair (by omega) h0 (by omega), by omega, by omega, by omega, by omega⟩, e1]
    simp only [Int.toNat_natCast]
    rw [if_pos (timeB_iff.2 ⟨by omega, by omega⟩)]
  · intro k a b hk
    by_cases e : t = k
    · subst e
      rw [List.getElem?_set_self ht] at hk
      cases hk
      omega
    · rw [List.getElem?_set_ne e] at hk
      have := h.2 k a b hk
      omega

def stT (z : Int) : Nat := (rnd z 3).toNat
def stC (z : Int) : Int := 1 + rnd (z / 4) 5
theorem stT_lt (z : Int) : stT z < 3 := by have := rnd_lo z 3; have := rnd_hi z 3 (by omega); unfold stT; omega
theorem stT_eq (z : Int) : (stT z : Int) = rnd z 3 := by have := rnd_lo z 3; unfold stT; omega
theorem stC_bd (z : Int) : 1 ≤ stC z ∧ stC z ≤ 5 := by have := rnd_lo (z / 4) 5; have := rnd_hi (z / 4) 5 (by omega); unfold stC; omega
/-- One stamp at the virtual time 0. -/
def stStep (fs : List (Int × Int)) (z : Int) : List (Int × Int) := (stampB 0 fs (stT z) (stC z)).1
def stN (fs : List (Int × Int)) (zs : List Int) : List (Int × Int) := zs.foldl stStep fs
def stEnt (fs : List (Int × Int)) (i : Nat) (z : Int) : Qd := ⟨⟨i, stT z, 0, 0, stC z, ⟨#[]⟩, false, none, 0, 0, 0⟩, 0, (stampB 0 fs (stT z) (stC z)).2.1, 0⟩
/-- The entries of the first zs. -/
def stQ (fs : List (Int × Int)) : Nat → List Int → List Qd
  | _, [] => []
  | i, z :: zs => stEnt fs i z :: stQ (stStep fs z) (i + 1) zs
theorem stQ_len : ∀ (fs : List (Int × Int)) (i : Nat) (zs : List Int), (stQ fs i zs).length = zs.length
  | _, _, [] => rfl
  | fs, i, z :: zs => by simp [stQ, stQ_len]
theorem stQ_snoc : ∀ (fs : List (Int × Int)) (i : Nat) (zs : List Int) (z : Int), stQ fs i (zs ++ [z]) = stQ fs i zs ++ [stEnt (stN fs zs) (i + zs.length) z]
  | fs, i, [], z => by simp [stQ, stN]
  | fs, i, y :: zs, z => by
    simp only [stQ, List.cons_append, stQ_snoc (stStep fs y) (i + 1) zs z]
    simp [stN, Nat.add_assoc, Nat.add_comm 1]
theorem stN_snoc (fs : List (Int × Int)) (zs : List Int) (z : Int) : stN fs (zs ++ [z]) = stStep (stN fs zs) z := by simp [stN]
theorem Fok.mono {B B' : Int} {fs : List (Int × Int)} (h : Fok B fs) (hb : B ≤ B') : Fok B' fs := ⟨h.1, fun k x y hk => by have := h.2 k x y hk; omega⟩
theorem stStep_ok {B : Int} {fs : List (Int × Int)} (h : Fok B fs) (h0 : 0 ≤ B) (hB : B + 6720 ≤ 1125899906842624) (z : Int) : Fok (B + 6720) (stStep fs z) := by
  obtain ⟨x, y, hx, _⟩ := h.get (stT_lt z)
  have hc := stC_bd z
  have := h.stamp (V := 0) hx (by omega) h0 hB hc.1 (by omega)
  unfold stStep
  rw [this.1]
  exact this.2
theorem stN_ok : ∀ (zs : List Int) {B : Int} {fs : List (Int × Int)}, Fok B fs → 0 ≤ B → B + 6720 * (zs.length : Int) ≤ 1125899906842624 → Fok (B + 6720 * (zs.length : Int)) (stN fs zs)
  | [], B, fs, h, _, _ => by simpa [stN] using h
  | z :: zs, B, fs, h, h0, hB => by
    simp only [List.length_cons] at hB ⊢
    have h1 := stStep_ok h h0 (by omega) z
    have h2 := stN_ok zs h1 (by omega) (by omega)
    have e : stN fs (z :: zs) = stN (stStep fs z) zs := rfl
    rw [e]
    exact h2.mono (by omega)
theorem stamp_ok {B : Int} {fs : List (Int × Int)} (h : Fok B fs) (h0 : 0 ≤ B) (hB : B + 6720 ≤ 1125899906842624) (z : Int) : (stampB 0 fs (stT z) (stC z)).2.2 = true := by
  obtain ⟨x, y, hx, _⟩ := h.get (stT_lt z)
  have hc := stC_bd z
  rw [(h.stamp (V := 0) hx (by omega) h0 hB hc.1 (by omega)).1]
theorem stStep_len {B : Int} {fs : List (Int × Int)} (h : Fok B fs) (h0 : 0 ≤ B) (hB : B + 6720 ≤ 1125899906842624) (z : Int) : (stStep fs z).length = 3 := (stStep_ok h h0 hB z).1


theorem Try.infoQueued : (Try.prog.info? 56).map (fun i => (i.zero, i.size, i.bytes)) = some (some (.agg #[.int .i64 0, .int .i64 0, .int .i64 0, .int .i64 0, .int .i64 0, .string ⟨#[]⟩, .bool false, .slice none 0 0, .int .i64 0, .int .i64 0, .int .i64 0, .int .i64 0]), 12, 120) := by kernel_rfl

end Go.Proofs.Ytpgjbocjhconoaa
