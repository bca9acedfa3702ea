/- The walk of DeadlineExact. -/
import Derived.Test.YtdffpnogfinehaaRPd
import Derived.Test.YtdffpnogfinehaaAwk
import Derived.Test.YtdffpnogfinehaaDue
import Derived.Test.YtdffpnogfinehaaFew
import Derived.Test.YtdffpnogfinehaaOpenQ
namespace Go.Proofs.Ytdffpnogfinehaa
open Go.RowKit Go.Maps
set_option linter.unusedSimpArgs false

set_option maxRecDepth 100000 in
set_option maxHeartbeats 8000000 in
theorem deadlineExact_walk (er ew : Int) (v : Value) (L : List QM) (bv : Value) (B : List BM) (mv : Value) (may : List Bool) (i head now : Int) (w : World) (_ : IsInt er) (_ : IsInt ew) (hv : QL w v L) (hb : BL w bv B) (hm : Rd w mv 1 may.length (bcells may)) (_ : IsInt i) (_ : IsInt head) (_ : IsInt now) :
    Calls Try.prog 7 #[.agg #[.int .i64 er, .int .i64 ew], v, bv, mv, .int .i64 i, .int .i64 head, .int .i64 now] w fun e w' => e = .returned (.bool true) ∧ Bel w w' := by
  obtain ⟨A, c, rfl, hc1, hc2⟩ := hv.form
  obtain ⟨A', c', rfl, hc1', hc2'⟩ := hb.form
  obtain ⟨A3, c3, rfl, hc3, hc4⟩ := hm.form
  unfold maxLen at hc2
  have HFEW := Lib.hid (fun w' (h : Bel w w') => few_any L B _ _ w' (hv.bel h) (hb.bel h))
  have HBK := Lib.hid (fun w' (h : Bel w w') => dlBlocked_any L i B _ _ w' (hv.bel h) (hb.bel h))
  have HRB := Lib.hid (fun w' (h : Bel w w') => refBlocked_any L i B _ _ w' (hv.bel h) (hb.bel h))
  have HUR := Lib.hid (fun w' (h : Bel w w') (hl : L.length ≤ 1000) => dlUrgent_any L i _ w' (hv.bel h) hl)
  have HRU := Lib.hid (fun w' (h : Bel w w') (hl : L.length ≤ 1000) => refUrgent_any L i _ w' (hv.bel h) hl)
  have HPK := Lib.hid (fun w' (h : Bel w w') (hl : L.length ≤ 1000) => dlPickAll_any L may head now _ _ w' (hv.bel h) (hm.bel h) hl)
  have HPR := Lib.hid (fun w' (h : Bel w w') (hl : L.length ≤ 1000) => refPickDue_any L may head now _ _ w' (hv.bel h) (hm.bel h) hl)
  have HAT := Lib.hid (fun k x (hk : L[k]? = some x) => hv.at hk)
  obtain ⟨R, HR⟩ : ∃ R, Hid (R = pickD L may head now L.length) := ⟨_, rfl⟩
  obtain ⟨bb, Hbb⟩ : ∃ b, Hid (b = blk L i B) := ⟨_, rfl⟩
  obtain ⟨uu, Huu⟩ : ∃ b, Hid (b = urg L i) := ⟨_, rfl⟩
  rw [← HR.out] at HPK HPR
  rw [← Hbb.out] at HBK HRB
  rw [← Huu.out] at HUR HRU
  obtain ⟨n, hn⟩ : ∃ n, n = L.length := ⟨_, rfl⟩
  obtain ⟨n', hn'⟩ : ∃ n, n = B.length := ⟨_, rfl⟩
  obtain ⟨m, hm'⟩ : ∃ n, n = may.length := ⟨_, rfl⟩
  have HN := Lib.hid hn
  rw [← hn] at hc1 HFEW HBK HRB HUR HRU HPK HPR HAT ⊢
  rw [← hn'] at HFEW HBK HRB ⊢
  rw [← hm'] at HPK HPR ⊢
  clear hn hn' hm' hv hb hm
  go_enter Try.func7, Try.ntmps7
  go_wp2_with fail
  refine (HFEW.out _ (by repeat (first | (with_reducible exact Bel.refl _) | (with_reducible assumption) | (with_reducible refine Bel.drewN ?_ _) | (with_reducible refine Bel.drew ?_) | (with_reducible refine Bel.alloc ?_ _) | (with_reducible refine Bel.setNew ?_ ?_ _) | (with_reducible refine Bel.trans ?_ (by assumption)) | (focus (simp; done)) | (focus (simp; omega))))).mono ?_; rintro e w1 ⟨f, rfl, hf, hb1⟩
  have hE := (AtF.new w 44 [.int .i64 er, .int .i64 ew]).bel hb1
  have hb1w : Bel w w1 := (by repeat (first | (with_reducible exact Bel.refl _) | (with_reducible assumption) | (with_reducible refine Bel.drewN ?_ _) | (with_reducible refine Bel.drew ?_) | (with_reducible refine Bel.alloc ?_ _) | (with_reducible refine Bel.setNew ?_ ?_ _) | (with_reducible refine Bel.trans ?_ (by assumption)) | (focus (simp; done)) | (focus (simp; omega))))
  have HF := Lib.hid hf
  clear hb1 hf
  generalize w.heap.size = E at *
  cases f
  · go_wp2
    go_ret
    exact ⟨rfl, hb1w⟩
  · obtain ⟨hn10, _⟩ := HF.out rfl
    have hn1000 : n ≤ 1000 := by omega
    by_cases hmm : (20 : Int) < (m : Int)
    · go_wp2
      go_ret
      exact ⟨rfl, hb1w⟩
    · by_cases h0 : 0 < n
      · obtain ⟨y, hy⟩ : ∃ y, L[0]? = some y := ⟨L[0]'(by have := HN.out; omega), List.getElem?_eq_getElem _⟩
        obtain ⟨b, o, c9, hX⟩ := HAT.out 0 y hy
        have hf := hX.form
        simp only [Value.slice.injEq] at hf
        obtain ⟨rfl, _, rfl⟩ := hf
        have hX := hX.bel hb1w
        have hrow := hX.row
        have hlb := hX.lt
        rw [Nat.zero_mul, Nat.add_zero] at hrow
        have q0 := (hrow).cell 0 rfl
        have q1 := (hrow).cell 1 rfl
        have q2 := (hrow).cell 2 rfl
        have q3 := (hrow).cell 3 rfl
        have q4 := (hrow).cell 4 rfl
        have q5 := (hrow).cell 5 rfl
        have q6 := (hrow).cell 6 rfl
        have q7 := (hrow).cell 7 rfl
        have q8 := (hrow).cell 8 rfl
        rw [Nat.add_zero] at q0
        have n1 : (0 : Int) < (n : Int) := by omega
        clear hy hX hrow
        obtain ⟨Y, HY⟩ : ∃ Y, Hid (Y = y.q.b) := ⟨_, rfl⟩
        rw [← HY.out] at q0 q1 q2 q3 q4 q5 q6 q7 q8
        go_wp2_with fail
        refine (HPK.out _ (by repeat (first | (with_reducible exact Bel.refl _) | (with_reducible assumption) | (with_reducible refine Bel.drewN ?_ _) | (with_reducible refine Bel.drew ?_) | (with_reducible refine Bel.alloc ?_ _) | (with_reducible refine Bel.setNew ?_ ?_ _) | (with_reducible refine Bel.trans ?_ (by assumption)) | (focus (simp; done)) | (focus (simp; omega)))) hn1000).mono ?_; rintro e w2 ⟨rfl, hb2⟩
        have hB0 : AtF w2 w1.heap.size [.int .i64 (Y).id, .int .i64 (Y).ten, .int .i64 (Y).knd, .int .i64 (Y).sec, .int .i64 (Y).cnt, .string (Y).dat, .bool (Y).fua, .slice (Y).mA (Y).mL (Y).mC, .int .i64 (Y).tim] := by
          refine AtF.bel ?_ hb2
          exact AtF.new _ _ _
        have hE2 : AtF w2 E [.int .i64 er, .int .i64 ew] := (hE.alloc _).bel hb2
        have hbw2 : Bel w w2 := (by repeat (first | (with_reducible exact Bel.refl _) | (with_reducible assumption) | (with_reducible refine Bel.drewN ?_ _) | (with_reducible refine Bel.drew ?_) | (with_reducible refine Bel.alloc ?_ _) | (with_reducible refine Bel.setNew ?_ ?_ _) | (with_reducible refine Bel.trans ?_ (by assumption)) | (focus (simp; done)) | (focus (simp; omega))))
        clear hb2
        go_wp2_with fail
        refine (HPR.out _ hbw2 hn1000).mono ?_; rintro e w3 ⟨rfl, hb3⟩
        have hB3 := hB0.bel hb3
        have hE3 := hE2.bel hb3
        have hbw3 := hbw2.trans hb3
        clear hb3
        go_wp2_with fail
        have e0 := hE3.1.2 0 _ rfl
        have e1 := hE3.1.2 1 _ rfl
        have p0 := (hB3).1.2 0 _ rfl
        have p1 := (hB3).1.2 1 _ rfl
        have p2 := (hB3).1.2 2 _ rfl
        have p3 := (hB3).1.2 3 _ rfl
        have p4 := (hB3).1.2 4 _ rfl
        have p5 := (hB3).1.2 5 _ rfl
        have p6 := (hB3).1.2 6 _ rfl
        have p7 := (hB3).1.2 7 _ rfl
        have p8 := (hB3).1.2 8 _ rfl
        have re0 := fun d os => cell_regrown e0 d os
        have re1 := fun d os => cell_regrown e1 d os
        have s0 := fun d os => cell_regrown p0 d os
        have s1 := fun d os => cell_regrown p1 d os
        have s2 := fun d os => cell_regrown p2 d os
        have s3 := fun d os => cell_regrown p3 d os
        have s4 := fun d os => cell_regrown p4 d os
        have s5 := fun d os => cell_regrown p5 d os
        have s6 := fun d os => cell_regrown p6 d os
        have s7 := fun d os => cell_regrown p7 d os
        have s8 := fun d os => cell_regrown p8 d os
        obtain ⟨z, Hz⟩ : ∃ z, Hid (z = dueB er ew Y) := ⟨_, rfl⟩
        refine wp_region_lex [2, 5, 11, 15, 21, 24, 38] 40 (by kernel_rfl) (by kernel_rfl) ?_
        simp only [List.take_succ_cons, List.take_zero, List.drop_succ_cons, List.drop_zero]
        with_reducible refine lex_seg 2 _ _ _ _ (by kernel_rfl) ?_
        simp only [List.take_succ_cons, List.take_zero, List.drop_succ_cons, List.drop_zero]
        try simp only [Act.put, List.setIfInBounds_toArray, List.set_cons_succ, List.set_cons_zero]
        repeat (go_big_quiet_step (fail))
        with_reducible refine wpQuiet_nil ?_
        refine lex_call 20 rfl rfl (by simp [go_sem]; rfl) ?_
        refine (dlDue_any er ew Y _).mono ?_; rw [← Hz.out]; rintro e w4 ⟨rfl, hb4⟩
        refine ⟨_, rfl, hb4, ?_⟩
        with_reducible refine lex_seg 2 _ _ _ _ (by kernel_rfl) ?_
        simp only [List.take_succ_cons, List.take_zero, List.drop_succ_cons, List.drop_zero]
        try simp only [Act.put, List.setIfInBounds_toArray, List.set_cons_succ, List.set_cons_zero]
        repeat (go_big_quiet_step (fail))
        with_reducible refine wpQuiet_nil ?_
        refine lex_call 21 rfl rfl (by simp [go_sem]; rfl) ?_
        refine (refDue_any er ew Y _).mono ?_; rw [← Hz.out]; rintro e w5 ⟨rfl, hb5⟩
        refine ⟨_, rfl, hb5, ?_⟩
        with_reducible refine lex_seg 5 _ _ _ _ (by kernel_rfl) ?_
        simp only [List.take_succ_cons, List.take_zero, List.drop_succ_cons, List.drop_zero]
        try simp only [Act.put, List.setIfInBounds_toArray, List.set_cons_succ, List.set_cons_zero]
        repeat (go_big_quiet_step (fail))
        with_reducible refine wpQuiet_nil ?_
        refine lex_call 22 (by kernel_rfl) (by kernel_rfl) (by simp [go_sem]; rfl) ?_
        refine (HBK.out _ (Bel.trans hbw3 (by repeat (first | (with_reducible exact Bel.refl _) | (with_reducible assumption) | (with_reducible refine Bel.drewN ?_ _) | (with_reducible refine Bel.drew ?_) | (with_reducible refine Bel.alloc ?_ _) | (with_reducible refine Bel.setNew ?_ ?_ _) | (with_reducible refine Bel.trans ?_ (by assumption)) | (focus (simp; done)) | (focus (simp; omega)))))).mono ?_; rintro e w6 ⟨rfl, hb6⟩
        refine ⟨_, rfl, hb6, ?_⟩
        with_reducible refine lex_seg 3 _ _ _ _ (by kernel_rfl) ?_
        simp only [List.take_succ_cons, List.take_zero, List.drop_succ_cons, List.drop_zero]
        try simp only [Act.put, List.setIfInBounds_toArray, List.set_cons_succ, List.set_cons_zero]
        repeat (go_big_quiet_step (fail))
        with_reducible refine wpQuiet_nil ?_
        refine lex_call 23 (by kernel_rfl) (by kernel_rfl) (by simp [go_sem]; rfl) ?_
        refine (HRB.out _ (Bel.trans hbw3 (by repeat (first | (with_reducible exact Bel.refl _) | (with_reducible assumption) | (with_reducible refine Bel.drewN ?_ _) | (with_reducible refine Bel.drew ?_) | (with_reducible refine Bel.alloc ?_ _) | (with_reducible refine Bel.setNew ?_ ?_ _) | (with_reducible refine Bel.trans ?_ (by assumption)) | (focus (simp; done)) | (focus (simp; omega)))))).mono ?_; rintro e w7 ⟨rfl, hb7⟩
        refine ⟨_, rfl, hb7, ?_⟩
        with_reducible refine lex_seg 5 _ _ _ _ (by kernel_rfl) ?_
        simp only [List.take_succ_cons, List.take_zero, List.drop_succ_cons, List.drop_zero]
        try simp only [Act.put, List.setIfInBounds_toArray, List.set_cons_succ, List.set_cons_zero]
        repeat (go_big_quiet_step (fail))
        with_reducible refine wpQuiet_nil ?_
        refine lex_call 16 (by kernel_rfl) (by kernel_rfl) (by simp [go_sem]; rfl) ?_
        refine (HUR.out _ (Bel.trans hbw3 (by repeat (first | (with_reducible exact Bel.refl _) | (with_reducible assumption) | (with_reducible refine Bel.drewN ?_ _) | (with_reducible refine Bel.drew ?_) | (with_reducible refine Bel.alloc ?_ _) | (with_reducible refine Bel.setNew ?_ ?_ _) | (with_reducible refine Bel.trans ?_ (by assumption)) | (focus (simp; done)) | (focus (simp; omega))))) hn1000).mono ?_; rintro e w8 ⟨rfl, hb8⟩
        refine ⟨_, rfl, hb8, ?_⟩
        with_reducible refine lex_seg 2 _ _ _ _ (by kernel_rfl) ?_
        simp only [List.take_succ_cons, List.take_zero, List.drop_succ_cons, List.drop_zero]
        try simp only [Act.put, List.setIfInBounds_toArray, List.set_cons_succ, List.set_cons_zero]
        repeat (go_big_quiet_step (fail))
        with_reducible refine wpQuiet_nil ?_
        refine lex_call 24 (by kernel_rfl) (by kernel_rfl) (by simp [go_sem]; rfl) ?_
        refine (HRU.out _ (Bel.trans hbw3 (by repeat (first | (with_reducible exact Bel.refl _) | (with_reducible assumption) | (with_reducible refine Bel.drewN ?_ _) | (with_reducible refine Bel.drew ?_) | (with_reducible refine Bel.alloc ?_ _) | (with_reducible refine Bel.setNew ?_ ?_ _) | (with_reducible refine Bel.trans ?_ (by assumption)) | (focus (simp; done)) | (focus (simp; omega))))) hn1000).mono ?_; rintro e w9 ⟨rfl, hb9⟩
        refine ⟨_, rfl, hb9, ?_⟩
        with_reducible refine lex_seg 13 _ _ _ _ (by kernel_rfl) ?_
        simp only [List.take_succ_cons, List.take_zero, List.drop_succ_cons, List.drop_zero]
        try simp only [Act.put, List.setIfInBounds_toArray, List.set_cons_succ, List.set_cons_zero]
        repeat (go_big_quiet_step (fail))
        with_reducible refine wpQuiet_nil ?_
        refine lex_call 15 (by kernel_rfl) (by kernel_rfl) (by simp [go_sem]; rfl) ?_
        refine (awakeDl_any _).mono ?_; rintro e w10 ⟨rfl, hb10⟩
        refine ⟨_, rfl, hb10, ?_⟩
        with_reducible refine lex_seg 1 _ _ _ _ (by kernel_rfl) ?_
        simp only [List.take_succ_cons, List.take_zero, List.drop_succ_cons, List.drop_zero]
        try simp only [Act.put, List.setIfInBounds_toArray, List.set_cons_succ, List.set_cons_zero]
        repeat (go_big_quiet_step (fail))
        with_reducible refine wpQuiet_nil ?_
        with_reducible refine lex_nil ?_
        go_wp2
        go_ret
        exact ⟨rfl, Bel.trans hbw3 (by repeat (first | (with_reducible exact Bel.refl _) | (with_reducible assumption) | (with_reducible refine Bel.drewN ?_ _) | (with_reducible refine Bel.drew ?_) | (with_reducible refine Bel.alloc ?_ _) | (with_reducible refine Bel.setNew ?_ ?_ _) | (with_reducible refine Bel.trans ?_ (by assumption)) | (focus (simp; done)) | (focus (simp; omega))))⟩
      · obtain rfl : n = 0 := by omega
        obtain ⟨Y, HY⟩ : ∃ Y : Bun, Hid (Y = ⟨0, 0, 0, 0, 0, ⟨#[]⟩, false, none, 0, 0, 0⟩) := ⟨_, rfl⟩
        have n1 : decide ((0 : Int) < ((0 : Nat) : Int)) = false := by simp
        go_wp2_with fail
        refine (HPK.out _ (by repeat (first | (with_reducible exact Bel.refl _) | (with_reducible assumption) | (with_reducible refine Bel.drewN ?_ _) | (with_reducible refine Bel.drew ?_) | (with_reducible refine Bel.alloc ?_ _) | (with_reducible refine Bel.setNew ?_ ?_ _) | (with_reducible refine Bel.trans ?_ (by assumption)) | (focus (simp; done)) | (focus (simp; omega)))) hn1000).mono ?_; rintro e w2 ⟨rfl, hb2⟩
        have hB0 : AtF w2 w1.heap.size [.int .i64 (Y).id, .int .i64 (Y).ten, .int .i64 (Y).knd, .int .i64 (Y).sec, .int .i64 (Y).cnt, .string (Y).dat, .bool (Y).fua, .slice (Y).mA (Y).mL (Y).mC, .int .i64 (Y).tim] := by
          refine AtF.bel ?_ hb2
          rw [HY.out]; exact AtF.new _ _ _
        have hE2 : AtF w2 E [.int .i64 er, .int .i64 ew] := (hE.alloc _).bel hb2
        have hbw2 : Bel w w2 := (by repeat (first | (with_reducible exact Bel.refl _) | (with_reducible assumption) | (with_reducible refine Bel.drewN ?_ _) | (with_reducible refine Bel.drew ?_) | (with_reducible refine Bel.alloc ?_ _) | (with_reducible refine Bel.setNew ?_ ?_ _) | (with_reducible refine Bel.trans ?_ (by assumption)) | (focus (simp; done)) | (focus (simp; omega))))
        clear hb2
        go_wp2_with fail
        refine (HPR.out _ hbw2 hn1000).mono ?_; rintro e w3 ⟨rfl, hb3⟩
        have hB3 := hB0.bel hb3
        have hE3 := hE2.bel hb3
        have hbw3 := hbw2.trans hb3
        clear hb3
        go_wp2_with fail
        have e0 := hE3.1.2 0 _ rfl
        have e1 := hE3.1.2 1 _ rfl
        have p0 := (hB3).1.2 0 _ rfl
        have p1 := (hB3).1.2 1 _ rfl
        have p2 := (hB3).1.2 2 _ rfl
        have p3 := (hB3).1.2 3 _ rfl
        have p4 := (hB3).1.2 4 _ rfl
        have p5 := (hB3).1.2 5 _ rfl
        have p6 := (hB3).1.2 6 _ rfl
        have p7 := (hB3).1.2 7 _ rfl
        have p8 := (hB3).1.2 8 _ rfl
        have re0 := fun d os => cell_regrown e0 d os
        have re1 := fun d os => cell_regrown e1 d os
        have s0 := fun d os => cell_regrown p0 d os
        have s1 := fun d os => cell_regrown p1 d os
        have s2 := fun d os => cell_regrown p2 d os
        have s3 := fun d os => cell_regrown p3 d os
        have s4 := fun d os => cell_regrown p4 d os
        have s5 := fun d os => cell_regrown p5 d os
        have s6 := fun d os => cell_regrown p6 d os
        have s7 := fun d os => cell_regrown p7 d os
        have s8 := fun d os => cell_regrown p8 d os
        obtain ⟨z, Hz⟩ : ∃ z, Hid (z = dueB er ew Y) := ⟨_, rfl⟩
        refine wp_region_lex [2, 5, 11, 15, 21, 24, 38] 40 (by kernel_rfl) (by kernel_rfl) ?_
        simp only [List.take_succ_cons, List.take_zero, List.drop_succ_cons, List.drop_zero]
        with_reducible refine lex_seg 2 _ _ _ _ (by kernel_rfl) ?_
        simp only [List.take_succ_cons, List.take_zero, List.drop_succ_cons, List.drop_zero]
        try simp only [Act.put, List.setIfInBounds_toArray, List.set_cons_succ, List.set_cons_zero]
        repeat (go_big_quiet_step (fail))
        with_reducible refine wpQuiet_nil ?_
        refine lex_call 20 rfl rfl (by simp [go_sem]; rfl) ?_
        refine (dlDue_any er ew Y _).mono ?_; rw [← Hz.out]; rintro e w4 ⟨rfl, hb4⟩
        refine ⟨_, rfl, hb4, ?_⟩
        with_reducible refine lex_seg 2 _ _ _ _ (by kernel_rfl) ?_
        simp only [List.take_succ_cons, List.take_zero, List.drop_succ_cons, List.drop_zero]
        try simp only [Act.put, List.setIfInBounds_toArray, List.set_cons_succ, List.set_cons_zero]
        repeat (go_big_quiet_step (fail))
        with_reducible refine wpQuiet_nil ?_
        refine lex_call 21 rfl rfl (by simp [go_sem]; rfl) ?_
        refine (refDue_any er ew Y _).mono ?_; rw [← Hz.out]; rintro e w5 ⟨rfl, hb5⟩
        refine ⟨_, rfl, hb5, ?_⟩
        with_reducible refine lex_seg 5 _ _ _ _ (by kernel_rfl) ?_
        simp only [List.take_succ_cons, List.take_zero, List.drop_succ_cons, List.drop_zero]
        try simp only [Act.put, List.setIfInBounds_toArray, List.set_cons_succ, List.set_cons_zero]
        repeat (go_big_quiet_step (fail))
        with_reducible refine wpQuiet_nil ?_
        refine lex_call 22 (by kernel_rfl) (by kernel_rfl) (by simp [go_sem]; rfl) ?_
        refine (HBK.out _ (Bel.trans hbw3 (by repeat (first | (with_reducible exact Bel.refl _) | (with_reducible assumption) | (with_reducible refine Bel.drewN ?_ _) | (with_reducible refine Bel.drew ?_) | (with_reducible refine Bel.alloc ?_ _) | (with_reducible refine Bel.setNew ?_ ?_ _) | (with_reducible refine Bel.trans ?_ (by assumption)) | (focus (simp; done)) | (focus (simp; omega)))))).mono ?_; rintro e w6 ⟨rfl, hb6⟩
        refine ⟨_, rfl, hb6, ?_⟩
        with_reducible refine lex_seg 3 _ _ _ _ (by kernel_rfl) ?_
        simp only [List.take_succ_cons, List.take_zero, List.drop_succ_cons, List.drop_zero]
        try simp only [Act.put, List.setIfInBounds_toArray, List.set_cons_succ, List.set_cons_zero]
        repeat (go_big_quiet_step (fail))
        with_reducible refine wpQuiet_nil ?_
        refine lex_call 23 (by kernel_rfl) (by kernel_rfl) (by simp [go_sem]; rfl) ?_
        refine (HRB.out _ (Bel.trans hbw3 (by repeat (first | (with_reducible exact Bel.refl _) | (with_reducible assumption) | (with_reducible refine Bel.drewN ?_ _) | (with_reducible refine Bel.drew ?_) | (with_reducible refine Bel.alloc ?_ _) | (with_reducible refine Bel.setNew ?_ ?_ _) | (with_reducible refine Bel.trans ?_ (by assumption)) | (focus (simp; done)) | (focus (simp; omega)))))).mono ?_; rintro e w7 ⟨rfl, hb7⟩
        refine ⟨_, rfl, hb7, ?_⟩
        with_reducible refine lex_seg 5 _ _ _ _ (by kernel_rfl) ?_
        simp only [List.take_succ_cons, List.take_zero, List.drop_succ_cons, List.drop_zero]
        try simp only [Act.put, List.setIfInBounds_toArray, List.set_cons_succ, List.set_cons_zero]
        repeat (go_big_quiet_step (fail))
        with_reducible refine wpQuiet_nil ?_
        refine lex_call 16 (by kernel_rfl) (by kernel_rfl) (by simp [go_sem]; rfl) ?_
        refine (HUR.out _ (Bel.trans hbw3 (by repeat (first | (with_reducible exact Bel.refl _) | (with_reducible assumption) | (with_reducible refine Bel.drewN ?_ _) | (with_reducible refine Bel.drew ?_) | (with_reducible refine Bel.alloc ?_ _) | (with_reducible refine Bel.setNew ?_ ?_ _) | (with_reducible refine Bel.trans ?_ (by assumption)) | (focus (simp; done)) | (focus (simp; omega))))) hn1000).mono ?_; rintro e w8 ⟨rfl, hb8⟩
        refine ⟨_, rfl, hb8, ?_⟩
        with_reducible refine lex_seg 2 _ _ _ _ (by kernel_rfl) ?_
        simp only [List.take_succ_cons, List.take_zero, List.drop_succ_cons, List.drop_zero]
        try simp only [Act.put, List.setIfInBounds_toArray, List.set_cons_succ, List.set_cons_zero]
        repeat (go_big_quiet_step (fail))
        with_reducible refine wpQuiet_nil ?_
        refine lex_call 24 (by kernel_rfl) (by kernel_rfl) (by simp [go_sem]; rfl) ?_
        refine (HRU.out _ (Bel.trans hbw3 (by repeat (first | (with_reducible exact Bel.refl _) | (with_reducible assumption) | (with_reducible refine Bel.drewN ?_ _) | (with_reducible refine Bel.drew ?_) | (with_reducible refine Bel.alloc ?_ _) | (with_reducible refine Bel.setNew ?_ ?_ _) | (with_reducible refine Bel.trans ?_ (by assumption)) | (focus (simp; done)) | (focus (simp; omega))))) hn1000).mono ?_; rintro e w9 ⟨rfl, hb9⟩
        refine ⟨_, rfl, hb9, ?_⟩
        with_reducible refine lex_seg 13 _ _ _ _ (by kernel_rfl) ?_
        simp only [List.take_succ_cons, List.take_zero, List.drop_succ_cons, List.drop_zero]
        try simp only [Act.put, List.setIfInBounds_toArray, List.set_cons_succ, List.set_cons_zero]
        repeat (go_big_quiet_step (fail))
        with_reducible refine wpQuiet_nil ?_
        refine lex_call 15 (by kernel_rfl) (by kernel_rfl) (by simp [go_sem]; rfl) ?_
        refine (awakeDl_any _).mono ?_; rintro e w10 ⟨rfl, hb10⟩
        refine ⟨_, rfl, hb10, ?_⟩
        with_reducible refine lex_seg 1 _ _ _ _ (by kernel_rfl) ?_
        simp only [List.take_succ_cons, List.take_zero, List.drop_succ_cons, List.drop_zero]
        try simp only [Act.put, List.setIfInBounds_toArray, List.set_cons_succ, List.set_cons_zero]
        repeat (go_big_quiet_step (fail))
        with_reducible refine wpQuiet_nil ?_
        with_reducible refine lex_nil ?_
        go_wp2
        go_ret
        exact ⟨rfl, Bel.trans hbw3 (by repeat (first | (with_reducible exact Bel.refl _) | (with_reducible assumption) | (with_reducible refine Bel.drewN ?_ _) | (with_reducible refine Bel.drew ?_) | (with_reducible refine Bel.alloc ?_ _) | (with_reducible refine Bel.setNew ?_ ?_ _) | (with_reducible refine Bel.trans ?_ (by assumption)) | (focus (simp; done)) | (focus (simp; omega))))⟩
end Go.Proofs.Ytdffpnogfinehaa
