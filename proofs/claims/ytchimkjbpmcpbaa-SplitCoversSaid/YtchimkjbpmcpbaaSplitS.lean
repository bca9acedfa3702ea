/- The contracts of the law's own helpers: same, least, and of dock.Limits; awake. -/
import Derived.Test.YtchimkjbpmcpbaaSplitR
namespace Go.Proofs.Ytchimkjbpmcpbaa
open Go.RowKit

theorem spanS : Try.prog.underlying 35 = some (.struct (Try.prog.fieldsOf 35)) := by kernel_rfl
theorem spanH : Try.prog.stoodInHeld 35 = false := by kernel_rfl
theorem spanG : Try.prog.eqGuardType Try.prog.depth 35 = false := by kernel_rfl
attribute [local go_sem] spanG
@[local go_sem] theorem eq_span (a b c d : Int) (w : World) : (Op.equalIn 10000 35 (.agg #[.int .i64 a, .int .i64 b]) (.agg #[.int .i64 c, .int .i64 d])).run Try.prog w = .ok (a == c && b == d) w := by
  rw [show (10000 : Nat) = 9999 + 1 from rfl, run_equalIn_agg w 9999 35 _ _ spanS spanH]
  simp only [Program.fieldsOf, Try.underlying35]
  simp [go_sem, Try.underlying3]
  by_cases h1 : a = c <;> by_cases h2 : b = d <;> simp [h1, h2]
set_option maxHeartbeats 1000000 in
theorem same_any (la lb : List (Int × Int)) (va vb : Value) (w : World) (ha : Rd w va 2 la.length (spanCells la)) (hb : Rd w vb 2 lb.length (spanCells lb)) :
    Calls Try.prog 22 #[va, vb] w fun e w' => e = .returned (.bool (decide (la = lb))) ∧ Bel w w' := by
  obtain ⟨_, A, ca, rfl, hca, hma, hra⟩ := ha
  obtain ⟨_, B, cb, rfl, hcb, hmb, hrb⟩ := hb
  unfold maxLen at hma hmb
  have HA := Lib.hid hra
  have HB := Lib.hid hrb
  clear hra hrb
  obtain ⟨na, Hna⟩ : ∃ n, Hid (n = la.length) := ⟨_, rfl⟩
  obtain ⟨nb, Hnb⟩ : ∃ n, Hid (n = lb.length) := ⟨_, rfl⟩
  rw [← Hna.out] at HA hca ⊢
  rw [← Hnb.out] at HB hcb ⊢
  by_cases hl : na = nb
  · subst hl
    go_enter Try.func22, Try.ntmps22
    go_wp2
    go_loopw [5] (fun iv wr => ∃ k : Nat, k ≤ na ∧ iv = .int .i64 k ∧ Hid (la.take k = lb.take k) ∧ Bel w wr) (fun iv _ => na - (intOf iv).toNat)
    case atStart => exact ⟨0, by omega, rfl, rfl, Bel.refl _⟩
    case round =>
      obtain ⟨k, hk, rfl, HT, hbr⟩ := hrel
      by_cases hlt : k < na
      · obtain ⟨ba, oa, rfl, hla, hcella⟩ := HA.out (by omega)
        obtain ⟨bb, ob, rfl, hlb, hcellb⟩ := HB.out (by omega)
        obtain ⟨⟨a0, a1⟩, hpa⟩ : ∃ p, la[k]? = some p := ⟨_, List.getElem?_eq_getElem (by rw [← Hna.out]; omega)⟩
        obtain ⟨⟨b0, b1⟩, hpb⟩ : ∃ p, lb[k]? = some p := ⟨_, List.getElem?_eq_getElem (by rw [← Hnb.out]; omega)⟩
        have ga0 : wr.cell? ⟨ba, oa + k * 2, none⟩ = some (.int .i64 a0) := by rw [hbr.cellAt _ _ hla]; exact hcella _ _ (spanCells_at0 _ _ _ hpa)
        have ga1 : wr.cell? ⟨ba, oa + k * 2 + 1, none⟩ = some (.int .i64 a1) := by rw [hbr.cellAt _ _ hla]; exact hcella _ _ (spanCells_at1 _ _ _ hpa)
        have gb0 : wr.cell? ⟨bb, ob + k * 2, none⟩ = some (.int .i64 b0) := by rw [hbr.cellAt _ _ hlb]; exact hcellb _ _ (spanCells_at0 _ _ _ hpb)
        have gb1 : wr.cell? ⟨bb, ob + k * 2 + 1, none⟩ = some (.int .i64 b1) := by rw [hbr.cellAt _ _ hlb]; exact hcellb _ _ (spanCells_at1 _ _ _ hpb)
        have Hpa := Lib.hid hpa
        have Hpb := Lib.hid hpb
        clear hpa hpb hcella hcellb
        have hi0 : (0 : Int) ≤ (k : Int) := by omega
        have hi1 : (k : Int) < (na : Int) := by omega
        by_cases hE : a0 = b0 ∧ a1 = b1
        · obtain ⟨rfl, rfl⟩ := hE
          go_wp2
          go_quiet (fail)
          go_wp2
          go_roundw
          case rel => exact ⟨k + 1, by omega, by go_num, by show _ = _; rw [List.take_add_one, List.take_add_one, HT.out, Hpa.out, Hpb.out], (by repeat (first | (with_reducible exact Bel.refl _) | (with_reducible assumption) | (with_reducible refine Bel.drewN ?_ _) | (with_reducible refine Bel.drew ?_) | (with_reducible refine Bel.alloc ?_ _) | (with_reducible refine Bel.setNew ?_ ?_ _) | (with_reducible refine Bel.trans ?_ (by assumption)) | (simp; done) | (simp; omega)))⟩
          case measure => simp [intOf]; omega
        · have HE := Lib.hid hE
          clear hE
          by_cases h0 : a0 = b0
          · subst h0
            have h1 : (a1 == b1) = false := by simpa using fun h1 => HE.out ⟨rfl, h1⟩
            go_wp2
            go_quiet (fail)
            go_wp2
            go_ret
            refine ⟨ret_bool ?_, (by repeat (first | (with_reducible exact Bel.refl _) | (with_reducible assumption) | (with_reducible refine Bel.drewN ?_ _) | (with_reducible refine Bel.drew ?_) | (with_reducible refine Bel.alloc ?_ _) | (with_reducible refine Bel.setNew ?_ ?_ _) | (with_reducible refine Bel.trans ?_ (by assumption)) | (simp; done) | (simp; omega)))⟩
            symm
            rw [decide_eq_false_iff_not]
            rintro rfl
            have := Hpa.out.symm.trans Hpb.out
            simp at this
            have h2 := HE.out
            simp [this] at h2
          · have h1 : (a0 == b0) = false := by simpa using h0
            clear h0
            go_wp2
            go_quiet (fail)
            go_wp2
            go_ret
            refine ⟨ret_bool ?_, (by repeat (first | (with_reducible exact Bel.refl _) | (with_reducible assumption) | (with_reducible refine Bel.drewN ?_ _) | (with_reducible refine Bel.drew ?_) | (with_reducible refine Bel.alloc ?_ _) | (with_reducible refine Bel.setNew ?_ ?_ _) | (with_reducible refine Bel.trans ?_ (by assumption)) | (simp; done) | (simp; omega)))⟩
            symm
            rw [decide_eq_false_iff_not]
            rintro rfl
            have := Hpa.out.symm.trans Hpb.out
            simp at this
            exact HE.out this
      · go_wp2
        go_ret
        refine ⟨ret_bool ?_, (by repeat (first | (with_reducible exact Bel.refl _) | (with_reducible assumption) | (with_reducible refine Bel.drewN ?_ _) | (with_reducible refine Bel.drew ?_) | (with_reducible refine Bel.alloc ?_ _) | (with_reducible refine Bel.setNew ?_ ?_ _) | (with_reducible refine Bel.trans ?_ (by assumption)) | (simp; done) | (simp; omega)))⟩
        have e1 := HT.out
        rw [List.take_of_length_le (by rw [← Hna.out]; omega), List.take_of_length_le (by rw [← Hnb.out]; omega)] at e1
        simp [e1]
  · have hl' : ((na : Int) == (nb : Int)) = false := by simp; omega
    have hl'' : ((na : Int) != (nb : Int)) = true := by simp; omega
    have HL := Lib.hid hl
    clear hl
    go_enter Try.func22, Try.ntmps22
    go_wp2
    go_ret
    refine ⟨ret_bool ?_, (by repeat (first | (with_reducible exact Bel.refl _) | (with_reducible assumption) | (with_reducible refine Bel.drewN ?_ _) | (with_reducible refine Bel.drew ?_) | (with_reducible refine Bel.alloc ?_ _) | (with_reducible refine Bel.setNew ?_ ?_ _) | (with_reducible refine Bel.trans ?_ (by assumption)) | (simp; done) | (simp; omega)))⟩
    symm
    rw [decide_eq_false_iff_not]
    rintro rfl
    exact HL.out (Hna.out.trans Hnb.out.symm)

def bound (n : Int) : Int := [0, 0, 2, 4, 8].getD (rnd (n / 16) 5).toNat 0

set_option maxHeartbeats 1000000 in
theorem limits_any (n : Int) (w : World) :
    Calls Try.prog 13 #[.int .i64 n] w fun e w' => e = .returned (.agg #[.int .i64 (1 + rnd n 6), .int .i64 (bound n)]) ∧ Bel w w' := by
  have l1 := rnd_lo n 6
  have l2 := rnd_hi n 6 (by omega)
  have l3 := rnd_lo (n / 16) 5
  have l4 := rnd_hi (n / 16) 5 (by omega)
  have h5 : rnd (n / 16) 5 = 0 ∨ rnd (n / 16) 5 = 1 ∨ rnd (n / 16) 5 = 2 ∨ rnd (n / 16) 5 = 3 ∨ rnd (n / 16) 5 = 4 := by omega
  clear l3 l4
  rcases h5 with h5 | h5 | h5 | h5 | h5
  all_goals
    have HR := Lib.hid h5
    clear h5
    go_enter Try.func13, Try.ntmps13
    go_wp2_with fail
    refine (round_any _ _ _ (by omega)).mono ?_; rintro e w1 ⟨rfl, rfl⟩
    go_wp2_with fail
    refine (round_any _ _ _ (by omega)).mono ?_; rw [HR.out]; rintro e w1 ⟨rfl, rfl⟩
    go_wp2
    exact bodyPost_ret (v := .agg #[.int .i64 (1 + rnd n 6), .int .i64 (bound n)]) (by simp [results, Try.results13, go_sem, bound, HR.out]) rfl ⟨rfl, (by repeat (first | (with_reducible exact Bel.refl _) | (with_reducible assumption) | (with_reducible refine Bel.drewN ?_ _) | (with_reducible refine Bel.drew ?_) | (with_reducible refine Bel.alloc ?_ _) | (with_reducible refine Bel.setNew ?_ ?_ _) | (with_reducible refine Bel.trans ?_ (by assumption)) | (simp; done) | (simp; omega)))⟩
end Go.Proofs.Ytchimkjbpmcpbaa
