/- The reference's Split cuts as split.Split does: its contract, in the words of splitL. -/
import Derived.Test.YtchimkjbpmcpbaaSplitL
import Derived.Test.YtchimkjbpmcpbaaLex
namespace Go.Proofs.Ytchimkjbpmcpbaa
open Go.RowKit

theorem spanCells_len (l : List (Int × Int)) : (spanCells l).length = l.length * 2 := by
  induction l with
  | nil => rfl
  | cons p l ih => simp only [spanCells, List.flatMap_cons, List.length_append, List.length_cons, List.length_nil] at ih ⊢; omega
theorem spanCells_app (l m : List (Int × Int)) : spanCells (l ++ m) = spanCells l ++ spanCells m := by simp [spanCells]
theorem spanCells_at0 : ∀ (l : List (Int × Int)) (k : Nat) (p : Int × Int), l[k]? = some p → (spanCells l)[k * 2]? = some (.int .i64 p.1)
  | [], k, p, h => by simp at h
  | q :: l, 0, p, h => by simp at h; subst h; simp [spanCells]
  | q :: l, k + 1, p, h => by
    have := spanCells_at0 l k p (by simpa using h)
    rw [show (k + 1) * 2 = k * 2 + 2 by omega]
    simpa [spanCells] using this
theorem spanCells_at1 : ∀ (l : List (Int × Int)) (k : Nat) (p : Int × Int), l[k]? = some p → (spanCells l)[k * 2 + 1]? = some (.int .i64 p.2)
  | [], k, p, h => by simp at h
  | q :: l, 0, p, h => by simp at h; subst h; simp [spanCells]
  | q :: l, k + 1, p, h => by
    have := spanCells_at1 l k p (by simpa using h)
    rw [show (k + 1) * 2 + 1 = k * 2 + 1 + 2 by omega]
    simpa [spanCells] using this

theorem ediv_shift {B s c : Int} (hB : 0 < B) : (s / B = (s + c - 1) / B) ↔ (0 ≤ s % B + c - 1 ∧ s % B + c - 1 < B) := by
  have h1 := Int.mul_ediv_add_emod s B
  have h2 := Int.emod_nonneg s (show B ≠ 0 by omega)
  have h3 := Int.emod_lt_of_pos s hB
  have h4 : s + c - 1 = (s % B + c - 1) + B * (s / B) := by omega
  rw [h4, Int.add_mul_ediv_left _ _ (show B ≠ 0 by omega)]
  constructor
  · intro h
    have h5 : (s % B + c - 1) / B = 0 := by omega
    have h6 := Int.mul_ediv_add_emod (s % B + c - 1) B
    have h7 := Int.emod_nonneg (s % B + c - 1) (show B ≠ 0 by omega)
    have h8 := Int.emod_lt_of_pos (s % B + c - 1) hB
    rw [h5] at h6
    omega
  · rintro ⟨h5, h6⟩
    rw [Int.ediv_eq_zero_of_lt h5 h6]
    omega

theorem rfits_eq (M B s c : Int) : rfits M B s c = fits M B s c := by
  unfold rfits fits
  cases h : limOk M B
  · simp
  · obtain ⟨a1, a2, a3, a4⟩ : 1 ≤ M ∧ M ≤ 128 ∧ 0 ≤ B ∧ B ≤ 128 := by simpa [limOk] using h
    rw [Bool.eq_iff_iff]
    simp only [Bool.true_and, Bool.and_eq_true, decide_eq_true_eq]
    unfold room
    by_cases h0 : B = 0
    · simp [h0]
    · rw [if_neg h0, ediv_shift (by omega)]
      have h2 := Int.emod_nonneg s h0
      have h3 := Int.emod_lt_of_pos s (show 0 < B by omega)
      simp only [h0, false_or]
      omega

/-- The greedy cut of one sector more. -/
theorem splitGo_step {M B : Int} (h : limOk M B = true) : ∀ (n : Nat) (s c : Int), 1 ≤ c → c ≤ n →
    ∃ init a k, splitGo M B n s c = init ++ [(a, k)] ∧ a + k = s + c ∧ 1 ≤ k ∧ s ≤ a ∧
      splitGo M B (n + 1) s (c + 1) = if k + 1 ≤ room M B a then init ++ [(a, k + 1)] else init ++ [(a, k), (a + k, 1)]
  | 0, s, c, h1, h2 => by omega
  | n + 1, s, c, h1, h2 => by
    have r1 := room_pos (s := s) h
    by_cases hc : c ≤ room M B s
    · refine ⟨[], s, c, ?_, by omega, h1, by omega, ?_⟩
      · rw [splitGo, if_neg (by omega), show min c (room M B s) = c by omega, show c - c = 0 by omega]
        cases n <;> simp [splitGo]
      · rw [splitGo, if_neg (by omega)]
        by_cases hr : c + 1 ≤ room M B s
        · rw [if_pos hr, show min (c + 1) (room M B s) = c + 1 by omega, show c + 1 - (c + 1) = 0 by omega]
          simp [splitGo]
        · have r2 := room_pos (s := s + c) h
          rw [if_neg hr, show min (c + 1) (room M B s) = c by omega, show c + 1 - c = 1 by omega, splitGo, if_neg (by omega), show min 1 (room M B (s + c)) = 1 by omega, show (1 : Int) - 1 = 0 by omega]
          cases n <;> simp [splitGo]
    · obtain ⟨init, a, k, e1, e2, e3, e4, e5⟩ := splitGo_step h n (s + room M B s) (c - room M B s) (by omega) (by omega)
      refine ⟨(s, room M B s) :: init, a, k, ?_, by omega, e3, by omega, ?_⟩
      · rw [splitGo, if_neg (by omega), show min c (room M B s) = room M B s by omega, e1]
        rfl
      · rw [splitGo, if_neg (by omega), show min (c + 1) (room M B s) = room M B s by omega, show c + 1 - room M B s = c - room M B s + 1 by omega, e5]
        split <;> rfl
theorem splitGo_one {M B : Int} (h : limOk M B = true) (s : Int) : splitGo M B 1 s 1 = [(s, 1)] := by
  have r1 := room_pos (s := s) h
  rw [splitGo, if_neg (by omega), show min 1 (room M B s) = 1 by omega]
  simp [splitGo]

set_option maxHeartbeats 2000000 in
theorem refSplit_any (M B s c : Int) (w : World) :
    Calls Try.prog 23 #[.agg #[.int .i64 M, .int .i64 B], .int .i64 s, .int .i64 c] w fun e w' =>
      ∃ v, e = .returned v ∧ w'.ownsRow w.heap.size 35 2 v (splitL M B s c).length (spanCells (splitL M B s c)) ∧ Bel w w' := by
  have H1 := Lib.hid (refLimits_any M B)
  cases h : limOk M B
  · have HF := Lib.hid (show splitL M B s c = [] by simp [splitL, h])
    go_enter Try.func23, Try.ntmps23
    go_wp2_with (go_at_call 19; refine (H1.out _).mono ?_; rw [h]; rintro e w1 ⟨rfl, hb1⟩; have hc1 := hb1.cellAt)
    go_ret
    exact ⟨_, rfl, by rw [HF.out]; exact World.ownsRow_nil _ _ _ _, (by repeat (first | (with_reducible exact Bel.refl _) | (with_reducible assumption) | (with_reducible refine Bel.drewN ?_ _) | (with_reducible refine Bel.drew ?_) | (with_reducible refine Bel.alloc ?_ _) | (with_reducible refine Bel.setNew ?_ ?_ _) | (with_reducible refine Bel.trans ?_ (by assumption)) | (simp; done) | (simp; omega)))⟩
  · by_cases h1 : 0 ≤ s ∧ 1 ≤ c ∧ s ≤ 128 ∧ c ≤ 128 - s
    · have HF := Lib.hid (show splitL M B s c = splitGo M B c.toNat s c by simp [splitL, h, h1])
      obtain ⟨s1, c1, s2, c2⟩ := h1
      obtain ⟨i0, hi, hz0, hz1, hz2⟩ := info_parts Try.infoSpan
      go_enter Try.func23, Try.ntmps23
      go_wp2_with (go_at_call 19; refine (H1.out _).mono ?_; rw [h]; rintro e w1 ⟨rfl, hb1⟩; have hc1 := hb1.cellAt)
      all_goals try (exfalso; omega)
      have hk0 : w1.cell? ⟨w.heap.size, 0, none⟩ = some (.int .i64 M) := by rw [hc1 _ _ (by simp)]; simp [go_sem]
      have hk1 : w1.cell? ⟨w.heap.size, 1, none⟩ = some (.int .i64 B) := by rw [hc1 _ _ (by simp)]; simp [go_sem]
      have hsz : w.heap.size < w1.heap.size := by have := hb1.size; simp at this; omega
      have hbw : Bel w w1 := (by repeat (first | (with_reducible exact Bel.refl _) | (with_reducible assumption) | (with_reducible refine Bel.drewN ?_ _) | (with_reducible refine Bel.drew ?_) | (with_reducible refine Bel.alloc ?_ _) | (with_reducible refine Bel.setNew ?_ ?_ _) | (with_reducible refine Bel.trans ?_ (by assumption)) | (simp; done) | (simp; omega)))
      clear hb1 hc1 H1
      go_loopw [7, 8] (fun ov iv wr => ∃ (n : Nat) (init : List (Int × Int)) (a k : Int) (g cap : Nat), iv = .int .i64 n ∧ 1 ≤ n ∧ (n : Int) ≤ c ∧ ov = .slice (some ⟨g, 0, none⟩) (init.length + 1) cap ∧ init.length + 1 ≤ n ∧ Hid (a + k = s + n) ∧ 1 ≤ k ∧ k ≤ 128 ∧ s ≤ a ∧ a ≤ 128 ∧
          Hid (splitGo M B n s n = init ++ [(a, k)]) ∧ wr.ownsRow w1.heap.size 35 2 (.slice (some ⟨g, 0, none⟩) (init.length + 1) cap) (init.length + 1) (spanCells (init ++ [(a, k)])) ∧ Bel w1 wr) (fun _ iv _ => c.toNat - (intOf iv).toNat)
      case atStart =>
        refine ⟨1, [], s, 1, w1.heap.size, 1, rfl, by omega, by omega, rfl, by simp, rfl, by omega, by omega, by omega, by omega, splitGo_one h s, ?_, (by repeat (first | (with_reducible exact Bel.refl _) | (with_reducible assumption) | (with_reducible refine Bel.drewN ?_ _) | (with_reducible refine Bel.drew ?_) | (with_reducible refine Bel.alloc ?_ _) | (with_reducible refine Bel.setNew ?_ ?_ _) | (with_reducible refine Bel.trans ?_ (by assumption)) | (simp; done) | (simp; omega)))⟩
        simpa [spanCells] using World.ownsRow_lit (base := w1.heap.size) (e := 35) (size := 2) w1 #[.int .i64 s, .int .i64 1] 1 (Nat.le_refl _) (by unfold maxLen; omega) (by simp)
      case round =>
        obtain ⟨n, init, a, k, g, cap, rfl, p1, p2, rfl, p3, HA, p4, p5, p6, p7, HE, hown, hbr⟩ := hrel
        have hr0 : wr.cell? ⟨w.heap.size, 0, none⟩ = some (.int .i64 M) := by rw [hbr.cellAt _ _ hsz]; exact hk0
        have hr1 : wr.cell? ⟨w.heap.size, 1, none⟩ = some (.int .i64 B) := by rw [hbr.cellAt _ _ hsz]; exact hk1
        obtain ⟨m, hm⟩ : ∃ m, m = init.length := ⟨_, rfl⟩
        have ha0 : wr.cell? ⟨g, m * 2, none⟩ = some (.int .i64 a) := by rw [hown.cellAt _ (by omega)]; exact spanCells_at0 _ m (a, k) (by simp [hm])
        have ha1 : wr.cell? ⟨g, m * 2 + 1, none⟩ = some (.int .i64 k) := by rw [hown.cellAt _ (by omega)]; exact spanCells_at1 _ m (a, k) (by simp [hm])
        rw [← hm] at hown p3 ⊢
        have Hm := Lib.hid hm
        clear hm
        have HFit := Lib.hid (fun w => refFits_any M B a (k + 1) w)
        by_cases hlt : (n : Int) < c
        · have hb0 : (0 : Int) ≤ (m : Int) := by omega
          have hb1 : (m : Int) < (m : Int) + 1 := by omega
          have q0 := fun d os => cell_regrown hr0 d os
          have q1 := fun d os => cell_regrown hr1 d os
          have q2 := fun d os => cell_regrown ha0 d os
          have q3 := fun d os => cell_regrown ha1 d os
          have hstep : ∃ X : List (Int × Int), Hid (splitGo M B (n + 1) s (n + 1) = X) ∧ Hid (X = if rfits M B a (k + 1) then init ++ [(a, k + 1)] else init ++ [(a, k), (a + k, 1)]) := by
            refine ⟨_, rfl, ?_⟩
            obtain ⟨init', a', k', e1, e2, e3, e4, e5⟩ := splitGo_step h n s n (by omega) (Int.le_refl _)
            have e6 := HE.out.symm.trans e1
            obtain ⟨rfl, e7⟩ := List.append_inj' e6 rfl
            simp only [List.cons.injEq, Prod.mk.injEq, and_true] at e7
            obtain ⟨rfl, rfl⟩ := e7
            show _ = _
            rw [e5, rfits_eq]
            have e8 : fits M B a (k + 1) = decide (k + 1 ≤ room M B a) := by simp only [fits, h, Bool.true_and]; rw [Bool.eq_iff_iff]; simp; omega
            rw [e8]
            simp
          obtain ⟨X, HX, HX2⟩ := hstep
          cases hf : rfits M B a (k + 1)
          · go_wp2
            refine wp_region_lex [12] 13 (by kernel_rfl) (by kernel_rfl) ?_
            simp only [List.take_succ_cons, List.take_zero, List.drop_succ_cons, List.drop_zero]
            refine lex_seg 12 _ _ _ _ (by kernel_rfl) ?_
            simp only [List.take_succ_cons, List.take_zero, List.drop_succ_cons, List.drop_zero]
            try simp only [Act.put, List.setIfInBounds_toArray, List.set_cons_succ, List.set_cons_zero]
            repeat (go_big_quiet_step (fail))
            refine wpQuiet_nil ?_
            refine lex_call 21 rfl rfl (by simp [go_sem]; rfl) ?_
            refine (HFit.out _).mono ?_; rw [hf]; rintro e w2 ⟨rfl, hb2⟩
            refine ⟨_, rfl, hb2, lex_nil ?_⟩
            clear q0 q1 q2 q3
            have hs2 := hb2.size
            go_wp2_with (at_builtin; go_must (refine wpList_append_own_at _ rfl (.tmp 63) (.tmp 68) 26 rfl w1.heap.size 35 i0 _ 2 16 Try.underlying26 hi hz0 hz1 hz2 rfl (by omega) (.slice (some ⟨g, 0, none⟩) (m + 1) cap) _ _ rfl ((own_keep (own_keep hown (Bel.drew (Bel.refl _))) hb2).alloc _) ⟨w2.heap.size, 0, none⟩ 1 1 _ rfl rfl (cells_new _ [_, _] _) (by simp [Value.oneCell']) (by unfold maxLen; omega) (by omega) (by have := hbr.size; simp at *; omega) ?_); intro v' w3 hown' hg' _ _)
            go_roundw
            case rel =>
              obtain ⟨g', cap', hv', _, _⟩ := hown'.form (by omega)
              subst hv'
              refine ⟨n + 1, init ++ [(a, k)], a + k, 1, g', cap', by go_num, by omega, by omega, by simp [Hm.out], by simp; have := Hm.out; omega, ?_, by omega, by omega, by omega, by have := HA.out; omega, ?_, ?_, bel_own (Bel.trans hbr (Bel.trans (Bel.drew (Bel.refl _)) (Bel.trans hb2 ((Bel.refl _).alloc _)))) ((own_keep (own_keep hown (Bel.drew (Bel.refl _))) hb2).alloc _) hg' (Nat.le_refl _)⟩
              · have := HA.out; show _ = _; omega
              · have e1 := HX2.out; rw [hf] at e1
                have e2 := HX.out
                show _ = _
                rw [show ((n + 1 : Nat) : Int) = (n : Int) + 1 by omega, e2, e1]
                simp
              · have e3 : a + k = s + n := HA.out
                simpa [spanCells, Hm.out, e3] using hown'
            case measure => simp [intOf]; omega
          · go_wp2
            refine wp_region_lex [12] 13 (by kernel_rfl) (by kernel_rfl) ?_
            simp only [List.take_succ_cons, List.take_zero, List.drop_succ_cons, List.drop_zero]
            refine lex_seg 12 _ _ _ _ (by kernel_rfl) ?_
            simp only [List.take_succ_cons, List.take_zero, List.drop_succ_cons, List.drop_zero]
            try simp only [Act.put, List.setIfInBounds_toArray, List.set_cons_succ, List.set_cons_zero]
            repeat (go_big_quiet_step (fail))
            refine wpQuiet_nil ?_
            refine lex_call 21 rfl rfl (by simp [go_sem]; rfl) ?_
            refine (HFit.out _).mono ?_; rw [hf]; rintro e w2 ⟨rfl, hb2⟩
            refine ⟨_, rfl, hb2, lex_nil ?_⟩
            clear q0 q1 q2 q3
            have hs2 := hb2.size
            have hown2 := own_keep (own_keep hown (Bel.drew (Bel.refl _))) hb2
            have hc2 : w2.cell? ⟨g, m * 2 + 1, none⟩ = some (.int .i64 k) := by rw [hown2.cellAt _ (by omega)]; exact spanCells_at1 _ m (a, k) (by simp [Hm.out])
            have hf2 : w2.frozen? ⟨g, m * 2 + 1, none⟩ = false := hown2.frozenAt _
            have hg1 := (hown2.lt g (by simp [Value.ownBlock])).1
            go_wp2
            go_roundw
            case rel =>
              refine ⟨n + 1, init, a, k + 1, g, cap, by go_num, by omega, by omega, by simp [Hm.out], by have := Hm.out; omega, ?_, by omega, ?_, by omega, by omega, ?_, ?_, (by repeat (first | (with_reducible exact Bel.refl _) | (with_reducible assumption) | (with_reducible refine Bel.drewN ?_ _) | (with_reducible refine Bel.drew ?_) | (with_reducible refine Bel.alloc ?_ _) | (with_reducible refine Bel.setNew ?_ ?_ _) | (with_reducible refine Bel.trans ?_ (by assumption)) | (simp; done) | (simp; omega)))⟩
              · have := HA.out; show _ = _; omega
              · have e9 := hf
                rw [rfits_eq] at e9
                simp [fits] at e9
                have := room_le (s := a) h
                omega
              · have e1 := HX2.out; rw [hf] at e1
                have e2 := HX.out
                show _ = _
                rw [show ((n + 1 : Nat) : Int) = (n : Int) + 1 by omega, e2, e1]
                simp
              · have h9 := (hown2.stored (m * 2 + 1) (.int .i64 (k + 1))).1
                rw [← Hm.out]
                rw [show m * 2 + 1 = (spanCells init).length + 1 by rw [spanCells_len, Hm.out], spanCells_snoc, List.set_append_right _ _ (by omega)] at h9
                simpa [spanCells_app, spanCells, Hm.out, ← spanCells_len] using h9
            case measure => simp [intOf]; omega
        · go_wp2
          go_ret
          refine ⟨_, rfl, ?_, (by repeat (first | (with_reducible exact Bel.refl _) | (with_reducible assumption) | (with_reducible refine Bel.drewN ?_ _) | (with_reducible refine Bel.drew ?_) | (with_reducible refine Bel.alloc ?_ _) | (with_reducible refine Bel.setNew ?_ ?_ _) | (with_reducible refine Bel.trans ?_ (by assumption)) | (simp; done) | (simp; omega)))⟩
          have e1 : c = n := by omega
          rw [HF.out, e1, Int.toNat_natCast, HE.out]
          simpa [Hm.out] using own_mono hown (Nat.le_of_lt hsz)
    · have HF := Lib.hid (show splitL M B s c = [] by simp only [splitL]; rw [if_neg]; simp; omega)
      go_enter Try.func23, Try.ntmps23
      go_wp2_with (go_at_call 19; refine (H1.out _).mono ?_; rw [h]; rintro e w1 ⟨rfl, hb1⟩; have hc1 := hb1.cellAt)
      all_goals
        first
        | (exfalso; omega)
        | (go_ret; exact ⟨_, rfl, by rw [HF.out]; exact World.ownsRow_nil _ _ _ _, (by repeat (first | (with_reducible exact Bel.refl _) | (with_reducible assumption) | (with_reducible refine Bel.drewN ?_ _) | (with_reducible refine Bel.drew ?_) | (with_reducible refine Bel.alloc ?_ _) | (with_reducible refine Bel.setNew ?_ ?_ _) | (with_reducible refine Bel.trans ?_ (by assumption)) | (simp; done) | (simp; omega)))⟩)
end Go.Proofs.Ytchimkjbpmcpbaa
