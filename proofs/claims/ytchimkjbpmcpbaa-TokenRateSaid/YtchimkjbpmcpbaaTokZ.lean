/- The walks of TokenRefills and TokenSplits. -/
import Derived.Test.YtchimkjbpmcpbaaTokQ
namespace Go.Proofs.Ytchimkjbpmcpbaa
open Go.RowKit
attribute [local go_sem] bkG eq_bk eq_bk_self

set_option maxHeartbeats 2000000 in
theorem tokenRefills_walk (n a b : Int) (w : World) (_ : IsInt n) (_ : IsInt a) (_ : IsInt b) :
    Calls Try.prog 11 #[.int .i64 n, .int .i64 a, .int .i64 b] w fun e w' => e = .returned (.bool true) ∧ Bel w w' := by
  have hok := madeB_ok n
  obtain ⟨m, Hm⟩ : ∃ m, Hid (m = madeB n) := ⟨_, rfl⟩
  rw [← Hm.out] at hok
  obtain ⟨r, u, l, t⟩ := m
  have s1 := rnd_lo a 200
  have s2 := rnd_hi a 200 (by omega)
  have s3 := rnd_lo b 200
  have s4 := rnd_hi b 200 (by omega)
  obtain ⟨p, Hp⟩ : ∃ p, Hid (p = rnd a 200) := ⟨_, rfl⟩
  obtain ⟨q, Hq⟩ : ∃ q, Hid (q = rnd b 200) := ⟨_, rfl⟩
  rw [← Hp.out] at s1 s2
  rw [← Hq.out] at s3 s4
  have htw := refill_twice (p := p) (q := q) hok (tickB_iff.2 ⟨by omega, by omega⟩) (tickB_iff.2 ⟨by omega, by omega⟩)
  have hmo := refill_more (p := max p q) hok
  have hf := refill_ok (now := max p q) hok
  have hb2 := bkOk_iff.1 hok
  have hrb := refill_burst ⟨r, u, l, t⟩ (max p q)
  have hrr := refill_rate ⟨r, u, l, t⟩ (max p q)
  obtain ⟨x, Hx⟩ : ∃ x, Hid (x = refill ⟨r, u, l, t⟩ p) := ⟨_, rfl⟩
  obtain ⟨y, Hy⟩ : ∃ y, Hid (y = refill ⟨r, u, l, t⟩ (max p q)) := ⟨_, rfl⟩
  rw [← Hx.out, ← Hy.out] at htw
  rw [← Hy.out] at hmo hf hrb hrr
  obtain ⟨x0, x1, x2, x3⟩ := x
  obtain ⟨y0, y1, y2, y3⟩ := y
  simp only at hmo hf hrb hrr
  subst hrb hrr
  have Htw := Lib.hid htw
  clear htw
  obtain ⟨f1, f2, _, _⟩ := hf
  obtain ⟨⟨_, _, b3, b4, _, _⟩, _, _⟩ := hb2
  go_enter Try.func11, Try.ntmps11
  go_wp2_with fail
  refine (madeTok_any n _).mono ?_; rw [← Hm.out]; unfold bv; rintro e w0 ⟨rfl, hb0⟩
  go_wp2_with fail
  refine (round_any a 200 _ (by omega)).mono ?_; rw [← Hp.out]; rintro e w1 ⟨rfl, rfl⟩
  go_wp2_with fail
  refine (round_any b 200 _ (by omega)).mono ?_; rw [← Hq.out]; rintro e w1 ⟨rfl, rfl⟩
  go_wp2_with fail
  refine (tokRefill_any y0 y1 l t p _).mono ?_; rw [← Hx.out]; unfold bv; rintro e w1 ⟨rfl, hb1⟩
  have hA := (At.new w0 37 [.int .i64 y0, .int .i64 y1, .int .i64 l, .int .i64 t]).bel hb1
  go_wp2_with fail
  refine (tokRefill_any x0 x1 x2 x3 q _).mono ?_; rw [Htw.out]; unfold bv; rintro e w2 ⟨rfl, hb2⟩
  have hA2 := (hA.bel hb2).bel ((Bel.refl _).alloc (.cells #[.int .i64 y0, .int .i64 y1, .int .i64 y2, .int .i64 y3] 37))
  have hB2 := At.new w2 37 [.int .i64 y0, .int .i64 y1, .int .i64 y2, .int .i64 y3]
  go_wp2_with fail
  have hbw : Bel w (w2.alloc (.cells #[.int .i64 y0, .int .i64 y1, .int .i64 y2, .int .i64 y3] 37)) := (by repeat (first | (with_reducible exact Bel.refl _) | (with_reducible assumption) | (with_reducible refine Bel.drewN ?_ _) | (with_reducible refine Bel.drew ?_) | (with_reducible refine Bel.alloc ?_ _) | (with_reducible refine Bel.setNew ?_ ?_ _) | (with_reducible refine Bel.trans ?_ (by assumption)) | (focus (simp; done)) | (focus (simp; omega))))
  clear hA hb0 hb1 hb2
  generalize (w2.alloc (.cells #[.int .i64 y0, .int .i64 y1, .int .i64 y2, .int .i64 y3] 37)) = wx at *
  have qa0 := fun d os => cell_regrown (hA2.2 0 _ rfl) d os
  have qa1 := fun d os => cell_regrown (hA2.2 1 _ rfl) d os
  have qa2 := fun d os => cell_regrown (hA2.2 2 _ rfl) d os
  have qa3 := fun d os => cell_regrown (hA2.2 3 _ rfl) d os
  have qb0 := fun d os => cell_regrown (hB2.2 0 _ rfl) d os
  have qb1 := fun d os => cell_regrown (hB2.2 1 _ rfl) d os
  have qb2 := fun d os => cell_regrown (hB2.2 2 _ rfl) d os
  have qb3 := fun d os => cell_regrown (hB2.2 3 _ rfl) d os
  refine wp_region_lex [5, 23] 26 (by kernel_rfl) (by kernel_rfl) ?_
  simp only [List.take_succ_cons, List.take_zero, List.drop_succ_cons, List.drop_zero]
  refine lex_seg 5 _ _ _ _ (by kernel_rfl) ?_
  simp only [List.take_succ_cons, List.take_zero, List.drop_succ_cons, List.drop_zero]
  try simp only [Act.put, List.setIfInBounds_toArray, List.set_cons_succ, List.set_cons_zero]
  repeat (go_big_quiet_step (fail))
  refine wpQuiet_nil ?_
  refine lex_call 30 rfl rfl (by simp [go_sem]; rfl) ?_
  rw [show (if p < q then q else p) = max p q by split <;> omega]
  refine (tokRefill_any y0 y1 l t (max p q) _).mono ?_; rw [← Hy.out]; unfold bv; rintro e w5 ⟨rfl, hb5⟩
  refine ⟨_, rfl, hb5, ?_⟩
  refine lex_seg 17 _ _ _ _ (by kernel_rfl) ?_
  simp only [List.take_succ_cons, List.take_zero, List.drop_succ_cons, List.drop_zero]
  try simp only [Act.put, List.setIfInBounds_toArray, List.set_cons_succ, List.set_cons_zero]
  repeat (go_big_quiet_step (fail))
  refine wpQuiet_nil ?_
  refine lex_call 32 rfl rfl (by simp [go_sem]; rfl) ?_
  refine (awakeTok_any _).mono ?_; rintro e w9 ⟨rfl, hb9⟩
  refine ⟨_, rfl, hb9, ?_⟩
  refine lex_seg 2 _ _ _ _ (by kernel_rfl) ?_
  simp only [List.take_succ_cons, List.take_zero, List.drop_succ_cons, List.drop_zero]
  try simp only [Act.put, List.setIfInBounds_toArray, List.set_cons_succ, List.set_cons_zero]
  repeat (go_big_quiet_step (fail))
  refine wpQuiet_nil ?_
  refine lex_nil ?_
  clear qa0 qa1 qa2 qa3 qb0 qb1 qb2 qb3
  go_wp2
  go_ret
  exact ⟨rfl, (by repeat (first | (with_reducible exact Bel.refl _) | (with_reducible assumption) | (with_reducible refine Bel.drewN ?_ _) | (with_reducible refine Bel.drew ?_) | (with_reducible refine Bel.alloc ?_ _) | (with_reducible refine Bel.setNew ?_ ?_ _) | (with_reducible refine Bel.trans ?_ (by assumption)) | (focus (simp; done)) | (focus (simp; omega))))⟩

theorem take_no {r u l t now c : Int} (h : (takeB ⟨r, u, l, t⟩ now c).2 = false) : (takeB ⟨r, u, l, t⟩ now c).1 = ⟨r, u, l, t⟩ := by
  unfold takeB at *
  split at h
  · rename_i h1
    rw [if_pos h1]
    split at h
    · cases h
    · rename_i h2
      rw [if_neg h2]
      split at h
      · rename_i h3; rw [if_pos h3]
      · cases h
  · rename_i h1; rw [if_neg h1]
theorem take_got {r u l t now c : Int} (h : (takeB ⟨r, u, l, t⟩ now c).2 = true) (h0 : r ≠ 0) : (takeB ⟨r, u, l, t⟩ now c).1 = ⟨r, u, (refill ⟨r, u, l, t⟩ now).level - 1000 * c, (refill ⟨r, u, l, t⟩ now).last⟩ := by
  obtain ⟨hr, h2⟩ := take_yes.1 h
  have h3 : ¬ (refill ⟨r, u, l, t⟩ now).level < 1000 * c := by omega
  simp [takeB, hr, h0, h3]

theorem take_split {r u l t now p q : Int} (hb : bkOk ⟨r, u, l, t⟩ = true) (ht : tickB now = true) (p1 : 0 ≤ p) (p2 : p ≤ 4) (q1 : 0 ≤ q) (q2 : q ≤ 4) :
    (takeB ⟨r, u, l, t⟩ now (p + q)).2 = ((takeB ⟨r, u, l, t⟩ now p).2 && (takeB (takeB ⟨r, u, l, t⟩ now p).1 now q).2) ∧
    ((takeB ⟨r, u, l, t⟩ now (p + q)).2 = true → (takeB (takeB ⟨r, u, l, t⟩ now p).1 now q).1.level = (takeB ⟨r, u, l, t⟩ now (p + q)).1.level) := by
  have hb2 := bkOk_iff.1 hb
  have hrp : rightB ⟨r, u, l, t⟩ now p = true := right_iff.2 ⟨hb, ht, by omega, by omega⟩
  have hrq : rightB ⟨r, u, l, t⟩ now q = true := right_iff.2 ⟨hb, ht, by omega, by omega⟩
  have hrs : rightB ⟨r, u, l, t⟩ now (p + q) = true := right_iff.2 ⟨hb, ht, by omega, by omega⟩
  by_cases h0 : r = 0
  · subst h0
    have e1 : takeB ⟨0, u, l, t⟩ now p = (⟨0, u, l, t⟩, true) := by simp [takeB, hrp]
    have e2 : takeB ⟨0, u, l, t⟩ now q = (⟨0, u, l, t⟩, true) := by simp [takeB, hrq]
    have e3 : takeB ⟨0, u, l, t⟩ now (p + q) = (⟨0, u, l, t⟩, true) := by simp [takeB, hrs]
    rw [e1]
    simp only
    rw [e2, e3]
    simp
  · have f := refill_ok (now := now) hb
    cases hp : (takeB ⟨r, u, l, t⟩ now p).2
    · have h1 : (takeB ⟨r, u, l, t⟩ now (p + q)).2 = false := by
        rw [Bool.eq_false_iff] at hp ⊢
        intro h2
        obtain ⟨_, h3⟩ := take_yes.1 h2
        exact hp (take_yes.2 ⟨hrp, .inr (by omega)⟩)
      rw [h1]
      simp
    · have hg := take_got hp h0
      obtain ⟨_, hl⟩ := take_yes.1 hp
      rw [hg]
      have hb' : bkOk ⟨r, u, (refill ⟨r, u, l, t⟩ now).level - 1000 * p, (refill ⟨r, u, l, t⟩ now).last⟩ = true := bkOk_iff.2 ⟨⟨hb2.1.1, hb2.1.2.1, hb2.1.2.2.1, hb2.1.2.2.2.1, by omega, by omega⟩, f.2.2⟩
      have hT : now ≤ (refill ⟨r, u, l, t⟩ now).last := by
        rw [refill_last]
        split
        · omega
        · rename_i hc
          simp only [hb, ht, Bool.true_and, decide_eq_true_eq] at hc
          omega
      have hL : (refill ⟨r, u, (refill ⟨r, u, l, t⟩ now).level - 1000 * p, (refill ⟨r, u, l, t⟩ now).last⟩ now).level = (refill ⟨r, u, l, t⟩ now).level - 1000 * p := by
        rw [refill_level, if_neg]
        simp only [Bool.and_eq_true, decide_eq_true_eq]
        omega
      have hr' : rightB ⟨r, u, (refill ⟨r, u, l, t⟩ now).level - 1000 * p, (refill ⟨r, u, l, t⟩ now).last⟩ now q = true := right_iff.2 ⟨hb', ht, by omega, by omega⟩
      by_cases hs : 1000 * (p + q) ≤ (refill ⟨r, u, l, t⟩ now).level
      · have h1 : (takeB ⟨r, u, l, t⟩ now (p + q)).2 = true := take_yes.2 ⟨hrs, .inr hs⟩
        have h2 : (takeB ⟨r, u, (refill ⟨r, u, l, t⟩ now).level - 1000 * p, (refill ⟨r, u, l, t⟩ now).last⟩ now q).2 = true := take_yes.2 ⟨hr', .inr (by rw [hL]; omega)⟩
        rw [h1, h2, take_got h1 h0, take_got h2 h0, hL]
        simp only [Bool.and_self, true_and]
        intro _
        omega
      · have h1 : (takeB ⟨r, u, l, t⟩ now (p + q)).2 = false := by
          rw [Bool.eq_false_iff]
          intro h9
          have := (take_yes.1 h9).2
          omega
        have h2 : (takeB ⟨r, u, (refill ⟨r, u, l, t⟩ now).level - 1000 * p, (refill ⟨r, u, l, t⟩ now).last⟩ now q).2 = false := by
          rw [Bool.eq_false_iff]
          intro h9
          have := (take_yes.1 h9).2
          rw [hL] at this
          omega
        rw [h1, h2]
        simp

end Go.Proofs.Ytchimkjbpmcpbaa
