/- The reference's Free and Blocked. -/
import Derived.Test.YtpgjbocjhconoaaGreatK6
namespace Go.Proofs.YtpgjbocjhconoaaGreat
open Go.RowKit Go.Maps
set_option linter.unusedSimpArgs false

/-- No element from k on conflicts with y. -/
def freeF (B : List BM) (k : Nat) (y : BM) : Bool := !(B.drop k).any fun x => confB x y
theorem any_drop {α : Type} {L : List α} {p : α → Bool} {j : Nat} {x : α} (h : L[j]? = some x) : (L.drop j).any p = (p x || (L.drop (j + 1)).any p) := by
  obtain ⟨g1, g2⟩ := List.getElem?_eq_some_iff.1 h
  rw [List.drop_eq_getElem_cons g1, g2]
  rfl

set_option maxRecDepth 100000 in
set_option maxHeartbeats 4000000 in
theorem refFree_any (B : List BM) (k : Nat) (y : BM) (bv : Value) (w : World) (hb : BL w bv B) (hy : Mems w y.b y.ms) (hk : k ≤ B.length) :
    Calls Tryz.prog 30 #[bv, .int .i64 (k : Int), .agg #[.int .i64 (y.b).id, .int .i64 (y.b).ten, .int .i64 (y.b).knd, .int .i64 (y.b).sec, .int .i64 (y.b).cnt, .string (y.b).dat, .bool (y.b).fua, .slice (y.b).mA (y.b).mL (y.b).mC, .int .i64 (y.b).tim]] w fun e w' => e = .returned (.bool (freeF B k y)) ∧ Bel w w' := by
  obtain ⟨A', c', rfl, hc1', hc2'⟩ := hb.form
  obtain ⟨n', Hn'⟩ : ∃ n', Hid (n' = B.length) := ⟨_, rfl⟩
  obtain ⟨V, HV⟩ : ∃ V, Hid (V = freeF B k y) := ⟨_, rfl⟩
  rw [← HV.out]
  have HBT := Lib.hid (fun j x (hj : B[j]? = some x) => hb.at hj)
  rw [← Hn'.out] at hc1' hk HBT ⊢
  unfold maxLen at hc2'
  have HMY := Lib.hid hy
  clear hb hy
  have hB0 := AtF.new w 44 [.int .i64 (y.b).id, .int .i64 (y.b).ten, .int .i64 (y.b).knd, .int .i64 (y.b).sec, .int .i64 (y.b).cnt, .string (y.b).dat, .bool (y.b).fua, .slice (y.b).mA (y.b).mL (y.b).mC, .int .i64 (y.b).tim]
  have hbX : Bel w (w.alloc (.cells #[.int .i64 (y.b).id, .int .i64 (y.b).ten, .int .i64 (y.b).knd, .int .i64 (y.b).sec, .int .i64 (y.b).cnt, .string (y.b).dat, .bool (y.b).fua, .slice (y.b).mA (y.b).mL (y.b).mC, .int .i64 (y.b).tim] 44)) := bI
  go_enter Tryz.func30, Tryz.ntmps30
  go_wp2
  simp only [List.toArray] at hB0
  generalize w.alloc (.cells #[.int .i64 (y.b).id, .int .i64 (y.b).ten, .int .i64 (y.b).knd, .int .i64 (y.b).sec, .int .i64 (y.b).cnt, .string (y.b).dat, .bool (y.b).fua, .slice (y.b).mA (y.b).mL (y.b).mC, .int .i64 (y.b).tim] 44) = X at *
  go_loopw [7] (fun jv wr => ∃ m : Nat, jv = .int .i64 m ∧ m ≤ n' ∧ Hid (V = freeF B m y) ∧ Bel X wr) (fun jv _ => n' - (intOf jv).toNat)
  case atStart => exact ⟨k, rfl, hk, HV, Bel.refl _⟩
  case round =>
    obtain ⟨m, rfl, m1, HVm, hbr⟩ := hrel
    by_cases hmn : m < n'
    · obtain ⟨x, hx⟩ : ∃ x, B[m]? = some x := ⟨B[m]'(by have := Hn'.out; omega), List.getElem?_eq_getElem _⟩
      obtain ⟨b', o', c9', hX⟩ := HBT.out m x hx
      have hf := hX.form
      simp only [Value.slice.injEq] at hf
      obtain ⟨rfl, _, rfl⟩ := hf
      have HA2 := Lib.hid (any_drop (p := fun x => confB x y) hx)
      have hbw := hbX.trans hbr
      have hX := hX.bel hbw
      have hBr := hB0.bel hbr
      have jk : (m : Int) < (n' : Int) := by omega
      have hmY := HMY.out
      clear hx
      go_wp2_with fail
      have p0 := (hX.row).cell 0 rfl
      have p1 := (hX.row).cell 1 rfl
      have p2 := (hX.row).cell 2 rfl
      have p3 := (hX.row).cell 3 rfl
      have p4 := (hX.row).cell 4 rfl
      have p5 := (hX.row).cell 5 rfl
      have p6 := (hX.row).cell 6 rfl
      have p7 := (hX.row).cell 7 rfl
      have p8 := (hX.row).cell 8 rfl
      rw [Nat.add_zero] at p0
      have q0 := (hBr).1.2 0 _ rfl
      have q1 := (hBr).1.2 1 _ rfl
      have q2 := (hBr).1.2 2 _ rfl
      have q3 := (hBr).1.2 3 _ rfl
      have q4 := (hBr).1.2 4 _ rfl
      have q5 := (hBr).1.2 5 _ rfl
      have q6 := (hBr).1.2 6 _ rfl
      have q7 := (hBr).1.2 7 _ rfl
      have q8 := (hBr).1.2 8 _ rfl
      have hmX := hX.mem
      have r0 := fun d os => cell_regrown p0 d os
      have r1 := fun d os => cell_regrown p1 d os
      have r2 := fun d os => cell_regrown p2 d os
      have r3 := fun d os => cell_regrown p3 d os
      have r4 := fun d os => cell_regrown p4 d os
      have r5 := fun d os => cell_regrown p5 d os
      have r6 := fun d os => cell_regrown p6 d os
      have r7 := fun d os => cell_regrown p7 d os
      have r8 := fun d os => cell_regrown p8 d os
      have s0 := fun d os => cell_regrown q0 d os
      have s1 := fun d os => cell_regrown q1 d os
      have s2 := fun d os => cell_regrown q2 d os
      have s3 := fun d os => cell_regrown q3 d os
      have s4 := fun d os => cell_regrown q4 d os
      have s5 := fun d os => cell_regrown q5 d os
      have s6 := fun d os => cell_regrown q6 d os
      have s7 := fun d os => cell_regrown q7 d os
      have s8 := fun d os => cell_regrown q8 d os
      refine wp_region_lex [5] 6 (by kernel_rfl) (by kernel_rfl) ?_
      simp only [List.take_succ_cons, List.take_zero, List.drop_succ_cons, List.drop_zero]
      with_reducible refine lex_seg 5 _ _ _ _ (by kernel_rfl) ?_
      simp only [List.take_succ_cons, List.take_zero, List.drop_succ_cons, List.drop_zero]
      try simp only [Act.put, List.setIfInBounds_toArray, List.set_cons_succ, List.set_cons_zero]
      repeat (go_big_quiet_step (fail))
      with_reducible refine wpQuiet_nil ?_
      refine lex_call 73 rfl rfl (by simp [go_sem]; rfl) ?_
      refine (refConflict_any ⟨x.b, x.ms⟩ ⟨y.b, y.ms⟩ _ (hmX.bel bI) (hmY.bel (Bel.trans hbw bI))).mono ?_; rintro e w1 ⟨rfl, hb1⟩
      refine ⟨_, rfl, hb1, ?_⟩
      with_reducible refine lex_nil ?_
      clear r0 r1 r2 r3 r4 r5 r6 r7 r8
      clear s0 s1 s2 s3 s4 s5 s6 s7 s8
      clear p0 p1 p2 p3 p4 p5 p6 p7 p8
      clear q0 q1 q2 q3 q4 q5 q6 q7 q8
      have hb9 : Bel wr w1 := bI
      cases hcf : confB x y
      · have e1 : confB ⟨x.b, x.ms⟩ ⟨y.b, y.ms⟩ = false := hcf
        try rw [e1]
        have HA3 : Hid (V = freeF B (m + 1) y) := by show _ = _; rw [HVm.out, freeF, HA2.out, hcf]; rfl
        clear e1 hcf
        go_wp2
        go_roundw
        case rel => exact ⟨m + 1, by go_num, by omega, HA3, hbr.trans hb9⟩
        case measure => simp [intOf]; omega
      · have e1 : confB ⟨x.b, x.ms⟩ ⟨y.b, y.ms⟩ = true := hcf
        try rw [e1]
        have HF : Hid (V = false) := by show _ = _; rw [HVm.out, freeF, HA2.out, hcf]; rfl
        clear e1 hcf
        go_wp2
        go_ret
        exact ⟨ret_bool HF.out.symm, hbw.trans hb9⟩
    · obtain rfl : m = n' := by omega
      have jk2 : decide ((m : Int) < (m : Int)) = false := by simp
      have HF : Hid (V = true) := by
        show _ = _
        rw [HVm.out, freeF, List.drop_eq_nil_of_le (by have := Hn'.out; omega)]; rfl
      go_wp2
      go_ret
      exact ⟨ret_bool HF.out.symm, hbX.trans hbr⟩

set_option maxRecDepth 100000 in
set_option maxHeartbeats 4000000 in
theorem refBlocked_any (L : List QM) (i : Int) (B : List BM) (v bv : Value) (w : World) (hv : QL w v L) (hb : BL w bv B) :
    Calls Tryz.prog 44 #[v, .int .i64 i, bv] w fun e w' => e = .returned (.bool (blk L i B)) ∧ Bel w w' := by
  obtain ⟨A, c, rfl, hc1, hc2⟩ := hv.form
  obtain ⟨n, Hn⟩ : ∃ n, Hid (n = L.length) := ⟨_, rfl⟩
  obtain ⟨V, HV⟩ : ∃ V, Hid (V = blk L i B) := ⟨_, rfl⟩
  rw [← HV.out]
  rw [← Hn.out] at hc1 ⊢
  unfold maxLen at hc2
  by_cases hi : 0 ≤ i ∧ i < (n : Int)
  · obtain ⟨k, rfl⟩ : ∃ k : Nat, i = (k : Int) := ⟨i.toNat, by omega⟩
    have hkn : k < n := by omega
    have hkn2 : (k : Int) < (n : Int) := by omega
    obtain ⟨y, hy⟩ : ∃ y, L[k]? = some y := ⟨L[k]'(by have := Hn.out; omega), List.getElem?_eq_getElem _⟩
    have HVk : Hid (V = ((L.take k).any (fun x => confB x.bm y.bm) || B.any fun x => confB x y.bm)) := by
      show _ = _
      rw [HV.out, blk, if_pos (by omega), Int.toNat_natCast, blkN, hy]
    have HAT := Lib.hid (fun j x (hj : L[j]? = some x) => hv.at2 hj hy)
    have HYT := Lib.hid (hv.at hy)
    have HFF := Lib.hid (fun w' (h : Bel w w') (hm : Mems w' y.q.b y.ms) => refFree_any B 0 ⟨y.q.b, y.ms⟩ bv w' (hb.bel h) hm (Nat.zero_le _))
    have HFV := Lib.hid (show freeF B 0 ⟨y.q.b, y.ms⟩ = !(B.any fun x => confB x y.bm) from by unfold freeF; rw [List.drop_zero]; rfl)
    rw [← Hn.out] at HAT HYT
    clear hi HV hv hb
    go_enter Tryz.func44, Tryz.ntmps44
    go_wp2
    go_loopw [7] (fun jv wr => ∃ j : Nat, jv = .int .i64 j ∧ j ≤ k ∧ Hid ((L.take j).any (fun x => confB x.bm y.bm) = false) ∧ Bel w wr) (fun jv _ => k - (intOf jv).toNat)
    case atStart => exact ⟨0, rfl, by omega, by simp [Hid], bI⟩
    case round =>
      obtain ⟨j, rfl, j1, HA, hbr⟩ := hrel
      by_cases hjk : j < k
      · obtain ⟨x, hx⟩ : ∃ x, L[j]? = some x := ⟨L[j]'(by have := Hn.out; omega), List.getElem?_eq_getElem _⟩
        obtain ⟨b, o, c9, hX, hY⟩ := HAT.out j x hx
        have hf := hX.form
        simp only [Value.slice.injEq] at hf
        obtain ⟨rfl, _, rfl⟩ := hf
        have HX := Lib.hid hx
        have HL := Lib.hid (show j < L.length from (List.getElem?_eq_some_iff.1 hx).1)
        have HA2 := Lib.hid (any_take_succ (p := fun x => confB x.bm y.bm) hx)
        have hX := hX.bel hbr
        have hY := hY.bel hbr
        have jk : (j : Int) < (k : Int) := by omega
        have jn : (j : Int) < (n : Int) := by omega
        clear hx
        go_wp2_with fail
        have p0 := (hX.row).cell 0 rfl
        have p1 := (hX.row).cell 1 rfl
        have p2 := (hX.row).cell 2 rfl
        have p3 := (hX.row).cell 3 rfl
        have p4 := (hX.row).cell 4 rfl
        have p5 := (hX.row).cell 5 rfl
        have p6 := (hX.row).cell 6 rfl
        have p7 := (hX.row).cell 7 rfl
        have p8 := (hX.row).cell 8 rfl
        rw [Nat.add_zero] at p0
        have q0 := (hY.row).cell 0 rfl
        have q1 := (hY.row).cell 1 rfl
        have q2 := (hY.row).cell 2 rfl
        have q3 := (hY.row).cell 3 rfl
        have q4 := (hY.row).cell 4 rfl
        have q5 := (hY.row).cell 5 rfl
        have q6 := (hY.row).cell 6 rfl
        have q7 := (hY.row).cell 7 rfl
        have q8 := (hY.row).cell 8 rfl
        rw [Nat.add_zero] at q0
        have hmX := hX.mem
        have hmY := hY.mem
        have r0 := fun d os => cell_regrown p0 d os
        have r1 := fun d os => cell_regrown p1 d os
        have r2 := fun d os => cell_regrown p2 d os
        have r3 := fun d os => cell_regrown p3 d os
        have r4 := fun d os => cell_regrown p4 d os
        have r5 := fun d os => cell_regrown p5 d os
        have r6 := fun d os => cell_regrown p6 d os
        have r7 := fun d os => cell_regrown p7 d os
        have r8 := fun d os => cell_regrown p8 d os
        have s0 := fun d os => cell_regrown q0 d os
        have s1 := fun d os => cell_regrown q1 d os
        have s2 := fun d os => cell_regrown q2 d os
        have s3 := fun d os => cell_regrown q3 d os
        have s4 := fun d os => cell_regrown q4 d os
        have s5 := fun d os => cell_regrown q5 d os
        have s6 := fun d os => cell_regrown q6 d os
        have s7 := fun d os => cell_regrown q7 d os
        have s8 := fun d os => cell_regrown q8 d os
        refine wp_region_lex [10] 11 (by kernel_rfl) (by kernel_rfl) ?_
        simp only [List.take_succ_cons, List.take_zero, List.drop_succ_cons, List.drop_zero]
        with_reducible refine lex_seg 10 _ _ _ _ (by kernel_rfl) ?_
        simp only [List.take_succ_cons, List.take_zero, List.drop_succ_cons, List.drop_zero]
        try simp only [Act.put, List.setIfInBounds_toArray, List.set_cons_succ, List.set_cons_zero]
        repeat (go_big_quiet_step (fail))
        with_reducible refine wpQuiet_nil ?_
        refine lex_call 73 rfl rfl (by simp [go_sem]; rfl) ?_
        refine (refConflict_any ⟨x.q.b, x.ms⟩ ⟨y.q.b, y.ms⟩ _ (hmX.bel bI) (hmY.bel bI)).mono ?_; rintro e w1 ⟨rfl, hb1⟩
        refine ⟨_, rfl, hb1, ?_⟩
        with_reducible refine lex_nil ?_
        clear r0 r1 r2 r3 r4 r5 r6 r7 r8
        clear s0 s1 s2 s3 s4 s5 s6 s7 s8
        clear p0 p1 p2 p3 p4 p5 p6 p7 p8
        clear q0 q1 q2 q3 q4 q5 q6 q7 q8
        cases hcf : confB x.bm y.bm
        · have e1 : confB ⟨x.q.b, x.ms⟩ ⟨y.q.b, y.ms⟩ = false := hcf
          rw [e1]
          have HA3 : Hid ((L.take (j + 1)).any (fun x => confB x.bm y.bm) = false) := by show _ = _; rw [HA2.out, HA.out, hcf]; rfl
          clear e1 hcf
          go_wp2
          go_roundw
          case rel => exact ⟨j + 1, by go_num, by omega, HA3, hbr.trans bI⟩
          case measure => simp [intOf]; omega
        · have e1 : confB ⟨x.q.b, x.ms⟩ ⟨y.q.b, y.ms⟩ = true := hcf
          rw [e1]
          have HF : Hid (V = true) := by
            show _ = _
            have : (L.take k).any (fun x => confB x.bm y.bm) = true := by
              rw [List.any_eq_true]
              exact ⟨x, List.mem_take_iff_getElem.2 ⟨j, by have := HL.out; omega, (List.getElem?_eq_some_iff.1 HX.out).2⟩, hcf⟩
            rw [HVk.out, this]; rfl
          clear e1 hcf
          go_wp2
          go_ret
          exact ⟨ret_bool HF.out.symm, bI⟩
      · obtain rfl : j = k := by omega
        have jk : decide ((j : Int) < (j : Int)) = false := by simp
        have HF : Hid (V = !!(B.any fun x => confB x y.bm)) := by show _ = _; rw [HVk.out, HA.out, Bool.false_or, Bool.not_not]
        obtain ⟨b, o, c9, hY⟩ := HYT.out
        have hf := hY.form
        simp only [Value.slice.injEq] at hf
        obtain ⟨rfl, _, rfl⟩ := hf
        have hY := hY.bel hbr
        have hmY := hY.mem
        have q0 := (hY.row).cell 0 rfl
        have q1 := (hY.row).cell 1 rfl
        have q2 := (hY.row).cell 2 rfl
        have q3 := (hY.row).cell 3 rfl
        have q4 := (hY.row).cell 4 rfl
        have q5 := (hY.row).cell 5 rfl
        have q6 := (hY.row).cell 6 rfl
        have q7 := (hY.row).cell 7 rfl
        have q8 := (hY.row).cell 8 rfl
        rw [Nat.add_zero] at q0
        clear HA hY
        go_wp2_with fail
        refine (HFF.out _ hbr hmY).mono ?_; rw [HFV.out]; rintro e w2 ⟨rfl, hb2⟩
        generalize (B.any fun x => confB x y.bm) = bb at *
        clear q0 q1 q2 q3 q4 q5 q6 q7 q8
        go_wp2
        go_ret
        exact ⟨ret_bool (by rw [HF.out, Bool.not_not]), hbr.trans hb2⟩
  · have HF : Hid (V = true) := by
      show _ = _
      rw [HV.out, blk]
      by_cases h0 : 0 ≤ i
      · rw [if_pos h0, blkN, List.getElem?_eq_none (by have := Hn.out; omega)]
      · rw [if_neg h0]
    clear HV hv hb
    by_cases h0 : i < 0
    · clear hi
      go_enter Tryz.func44, Tryz.ntmps44
      go_wp2
      go_ret
      exact ⟨ret_bool HF.out.symm, bI⟩
    · have h1 : (n : Int) ≤ i := by omega
      clear hi
      go_enter Tryz.func44, Tryz.ntmps44
      go_wp2
      go_ret
      exact ⟨ret_bool HF.out.symm, bI⟩
end Go.Proofs.YtpgjbocjhconoaaGreat
