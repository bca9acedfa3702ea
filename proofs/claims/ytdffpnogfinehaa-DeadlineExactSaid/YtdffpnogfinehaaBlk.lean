/- deadline.Blocked. -/
import Derived.Test.YtdffpnogfinehaaQ
namespace Go.Proofs.Ytdffpnogfinehaa
open Go.RowKit Go.Maps
set_option linter.unusedSimpArgs false

set_option maxHeartbeats 2000000 in
theorem dlHas_any (A : Option Addr) (n c : Nat) (i : Int) (w : World) :
    Calls Try.prog 34 #[.slice A n c, .int .i64 i] w fun e w' => e = .returned (.bool (decide (0 ≤ i ∧ i < (n : Int)))) ∧ w = w' := by
  obtain ⟨V, HV⟩ : ∃ V, Hid (V = decide (0 ≤ i ∧ i < (n : Int))) := ⟨_, rfl⟩
  rw [← HV.out]
  by_cases h0 : 0 ≤ i
  · by_cases h1 : i < (n : Int)
    · go_enter Try.func34, Try.ntmps34
      go_wp2
      go_ret
      exact ⟨ret_bool (by rw [HV.out]; simp [h0, h1]), rfl⟩
    · go_enter Try.func34, Try.ntmps34
      go_wp2
      go_ret
      exact ⟨ret_bool (by rw [HV.out]; simp [h1]), rfl⟩
  · go_enter Try.func34, Try.ntmps34
    go_wp2
    go_ret
    exact ⟨ret_bool (by rw [HV.out]; simp; omega), rfl⟩

theorem any_take_succ {α : Type} {L : List α} {p : α → Bool} {j : Nat} {x : α} (h : L[j]? = some x) : (L.take (j + 1)).any p = ((L.take j).any p || p x) := by
  rw [List.take_add_one, h, List.any_append]
  simp

set_option maxRecDepth 100000 in
set_option maxHeartbeats 4000000 in
theorem dlBlocked_any (L : List QM) (i : Int) (B : List BM) (v bv : Value) (w : World) (hv : QL w v L) (hb : BL w bv B) :
    Calls Try.prog 22 #[v, .int .i64 i, bv] w fun e w' => e = .returned (.bool (blk L i B)) ∧ Bel w w' := by
  obtain ⟨A, c, rfl, hc1, hc2⟩ := hv.form
  obtain ⟨A', c', rfl, hc1', hc2'⟩ := hb.form
  obtain ⟨n, Hn⟩ : ∃ n, Hid (n = L.length) := ⟨_, rfl⟩
  obtain ⟨n', Hn'⟩ : ∃ n', Hid (n' = B.length) := ⟨_, rfl⟩
  obtain ⟨V, HV⟩ : ∃ V, Hid (V = blk L i B) := ⟨_, rfl⟩
  rw [← HV.out]
  rw [← Hn.out] at hc1 ⊢
  rw [← Hn'.out] at hc1' ⊢
  unfold maxLen at hc2 hc2'
  by_cases hi : 0 ≤ i ∧ i < (n : Int)
  · obtain ⟨k, rfl⟩ : ∃ k : Nat, i = (k : Int) := ⟨i.toNat, by omega⟩
    have hkn : k < n := by omega
    have hkn2 : (k : Int) < (n : Int) := by omega
    have hkc : k ≤ c := by omega
    have hd : decide (0 ≤ (k : Int) ∧ (k : Int) < (n : Int)) = true := by simpa using hi
    obtain ⟨y, hy⟩ : ∃ y, L[k]? = some y := ⟨L[k]'(by have := Hn.out; omega), List.getElem?_eq_getElem _⟩
    have HVk : Hid (V = ((L.take k).any (fun x => confB x.bm y.bm) || B.any fun x => confB x y.bm)) := by
      show _ = _
      rw [HV.out, blk, if_pos (by omega), Int.toNat_natCast, blkN, hy]
    have HD := Lib.hid hd
    clear hi hd HV
    go_enter Try.func22, Try.ntmps22
    go_wp2_with fail
    refine (dlHas_any A n c _ _).mono ?_; rw [HD.out]; rintro e w1 ⟨rfl, rfl⟩
    go_wp2
    have HAT := Lib.hid (fun j x (hj : L[j]? = some x) => hv.at2 hj hy)
    have HYT := Lib.hid (hv.at hy)
    have HBT := Lib.hid (fun j x (hj : B[j]? = some x) => hb.at hj)
    rw [← Hn.out] at HAT HYT
    rw [← Hn'.out] at HBT
    clear hv hb
    go_loopw [19] (fun jv wr => ∃ j : Nat, jv = .int .i64 j ∧ j ≤ k ∧ Hid ((L.take j).any (fun x => confB x.bm y.bm) = false) ∧ Bel w wr) (fun jv _ => k - (intOf jv).toNat)
    case atStart => exact ⟨0, rfl, by omega, by simp [Hid], (by repeat (first | (with_reducible exact Bel.refl _) | (with_reducible assumption) | (with_reducible refine Bel.drewN ?_ _) | (with_reducible refine Bel.drew ?_) | (with_reducible refine Bel.alloc ?_ _) | (with_reducible refine Bel.setNew ?_ ?_ _) | (with_reducible refine Bel.trans ?_ (by assumption)) | (focus (simp; done)) | (focus (simp; omega))))⟩
    case round =>
      obtain ⟨j, rfl, j1, HA, hbr⟩ := hrel
      by_cases hjk : j < k
      · obtain ⟨x, hx⟩ : ∃ x, L[j]? = some x := ⟨L[j]'(by have := Hn.out; omega), List.getElem?_eq_getElem _⟩
        obtain ⟨b, o, c9, hX, hY⟩ := HAT.out j x hx
        have hf := hX.form
        simp only [Value.slice.injEq] at hf
        obtain ⟨rfl, _, rfl⟩ := hf
        have HX := Lib.hid hx
        have HL := Lib.hid (show j < L.length from (List.getElem?_eq_some_iff.1 hx).1)
        have HA2 := Lib.hid (any_take_succ (p := fun x => confB x.bm y.bm) hx)
        have hrX := hX.row.bel hbr hX.lt
        have hrY := hY.row.bel hbr hX.lt
        have hmX := hX.mem
        have hmY := hY.mem
        have jk : (j : Int) < (k : Int) := by omega
        have hlt := Nat.lt_of_lt_of_le hX.lt hbr.size
        have q0 := (hrX).cell 0 rfl
        have q1 := (hrX).cell 1 rfl
        have q2 := (hrX).cell 2 rfl
        have q3 := (hrX).cell 3 rfl
        have q4 := (hrX).cell 4 rfl
        have q5 := (hrX).cell 5 rfl
        have q6 := (hrX).cell 6 rfl
        have q7 := (hrX).cell 7 rfl
        have q8 := (hrX).cell 8 rfl
        have q9 := (hrX).cell 9 rfl
        have qa := (hrX).cell 10 rfl
        have qb := (hrX).cell 11 rfl
        rw [Nat.add_zero] at q0
        have hbx := AtF.new wr 36 [.int .i64 (x.q).b.id, .int .i64 (x.q).b.ten, .int .i64 (x.q).b.knd, .int .i64 (x.q).b.sec, .int .i64 (x.q).b.cnt, .string (x.q).b.dat, .bool (x.q).b.fua, .slice (x.q).b.mA (x.q).b.mL (x.q).b.mC, .int .i64 (x.q).b.tim, .int .i64 (x.q).due, .int .i64 (x.q).sta, .int .i64 (x.q).tri]
        have hbW : Bel w (wr.alloc (.cells #[.int .i64 (x.q).b.id, .int .i64 (x.q).b.ten, .int .i64 (x.q).b.knd, .int .i64 (x.q).b.sec, .int .i64 (x.q).b.cnt, .string (x.q).b.dat, .bool (x.q).b.fua, .slice (x.q).b.mA (x.q).b.mL (x.q).b.mC, .int .i64 (x.q).b.tim, .int .i64 (x.q).due, .int .i64 (x.q).sta, .int .i64 (x.q).tri] 36)) := hbr.alloc _
        have hrW := hrY.bel ((Bel.refl wr).alloc (.cells #[.int .i64 (x.q).b.id, .int .i64 (x.q).b.ten, .int .i64 (x.q).b.knd, .int .i64 (x.q).b.sec, .int .i64 (x.q).b.cnt, .string (x.q).b.dat, .bool (x.q).b.fua, .slice (x.q).b.mA (x.q).b.mL (x.q).b.mC, .int .i64 (x.q).b.tim, .int .i64 (x.q).due, .int .i64 (x.q).sta, .int .i64 (x.q).tri] 36)) hlt
        clear hX hY hx hrX hrY
        go_wp2_with fail
        clear q0 q1 q2 q3 q4 q5 q6 q7 q8 q9 qa qb
        generalize wr.alloc (.cells #[.int .i64 (x.q).b.id, .int .i64 (x.q).b.ten, .int .i64 (x.q).b.knd, .int .i64 (x.q).b.sec, .int .i64 (x.q).b.cnt, .string (x.q).b.dat, .bool (x.q).b.fua, .slice (x.q).b.mA (x.q).b.mL (x.q).b.mC, .int .i64 (x.q).b.tim, .int .i64 (x.q).due, .int .i64 (x.q).sta, .int .i64 (x.q).tri] 36) = W at *
        have p0 := (hrW).cell 0 rfl
        have p1 := (hrW).cell 1 rfl
        have p2 := (hrW).cell 2 rfl
        have p3 := (hrW).cell 3 rfl
        have p4 := (hrW).cell 4 rfl
        have p5 := (hrW).cell 5 rfl
        have p6 := (hrW).cell 6 rfl
        have p7 := (hrW).cell 7 rfl
        have p8 := (hrW).cell 8 rfl
        rw [Nat.add_zero] at p0
        have q0 := (hbx).1.2 0 _ rfl
        have q1 := (hbx).1.2 1 _ rfl
        have q2 := (hbx).1.2 2 _ rfl
        have q3 := (hbx).1.2 3 _ rfl
        have q4 := (hbx).1.2 4 _ rfl
        have q5 := (hbx).1.2 5 _ rfl
        have q6 := (hbx).1.2 6 _ rfl
        have q7 := (hbx).1.2 7 _ rfl
        have q8 := (hbx).1.2 8 _ rfl
        have r0 := fun d os => cell_regrown p0 d os
        have r1 := fun d os => cell_regrown p1 d os
        have r2 := fun d os => cell_regrown p2 d os
        have r3 := fun d os => cell_regrown p3 d os
        have r4 := fun d os => cell_regrown p4 d os
        have r5 := fun d os => cell_regrown p5 d os
        have r6 := fun d os => cell_regrown p6 d os
        have r7 := fun d os => cell_regrown p7 d os
        have r8 := fun d os => cell_regrown p8 d os
        have s0 := fun d os => cell_regrown q0 d os
        have s1 := fun d os => cell_regrown q1 d os
        have s2 := fun d os => cell_regrown q2 d os
        have s3 := fun d os => cell_regrown q3 d os
        have s4 := fun d os => cell_regrown q4 d os
        have s5 := fun d os => cell_regrown q5 d os
        have s6 := fun d os => cell_regrown q6 d os
        have s7 := fun d os => cell_regrown q7 d os
        have s8 := fun d os => cell_regrown q8 d os
        refine wp_region_lex [7] 8 (by kernel_rfl) (by kernel_rfl) ?_
        simp only [List.take_succ_cons, List.take_zero, List.drop_succ_cons, List.drop_zero]
        with_reducible refine lex_seg 7 _ _ _ _ (by kernel_rfl) ?_
        simp only [List.take_succ_cons, List.take_zero, List.drop_succ_cons, List.drop_zero]
        try simp only [Act.put, List.setIfInBounds_toArray, List.set_cons_succ, List.set_cons_zero]
        repeat (go_big_quiet_step (fail))
        with_reducible refine wpQuiet_nil ?_
        refine lex_call 35 rfl rfl (by simp [go_sem]; rfl) ?_
        refine (conflict_any ⟨x.q.b, x.ms⟩ ⟨y.q.b, y.ms⟩ _ (hmX.bel (by repeat (first | (with_reducible exact Bel.refl _) | (with_reducible assumption) | (with_reducible refine Bel.drewN ?_ _) | (with_reducible refine Bel.drew ?_) | (with_reducible refine Bel.alloc ?_ _) | (with_reducible refine Bel.setNew ?_ ?_ _) | (with_reducible refine Bel.trans ?_ (by assumption)) | (focus (simp; done)) | (focus (simp; omega))))) (hmY.bel (by repeat (first | (with_reducible exact Bel.refl _) | (with_reducible assumption) | (with_reducible refine Bel.drewN ?_ _) | (with_reducible refine Bel.drew ?_) | (with_reducible refine Bel.alloc ?_ _) | (with_reducible refine Bel.setNew ?_ ?_ _) | (with_reducible refine Bel.trans ?_ (by assumption)) | (focus (simp; done)) | (focus (simp; omega)))))).mono ?_; rintro e w1 ⟨rfl, hb1⟩
        refine ⟨_, rfl, hb1, ?_⟩
        with_reducible refine lex_nil ?_
        clear r0 r1 r2 r3 r4 r5 r6 r7 r8
        clear s0 s1 s2 s3 s4 s5 s6 s7 s8
        clear p0 p1 p2 p3 p4 p5 p6 p7 p8
        clear q0 q1 q2 q3 q4 q5 q6 q7 q8
        clear hbx hrW
        cases hcf : confB x.bm y.bm
        · have e1 : confB ⟨x.q.b, x.ms⟩ ⟨y.q.b, y.ms⟩ = false := hcf
          rw [e1]
          have HA3 : Hid ((L.take (j + 1)).any (fun x => confB x.bm y.bm) = false) := by show _ = _; rw [HA2.out, HA.out, hcf]; rfl
          clear e1 hcf
          go_wp2
          go_roundw
          case rel => exact ⟨j + 1, by go_num, by omega, HA3, (by repeat (first | (with_reducible exact Bel.refl _) | (with_reducible assumption) | (with_reducible refine Bel.drewN ?_ _) | (with_reducible refine Bel.drew ?_) | (with_reducible refine Bel.alloc ?_ _) | (with_reducible refine Bel.setNew ?_ ?_ _) | (with_reducible refine Bel.trans ?_ (by assumption)) | (focus (simp; done)) | (focus (simp; omega))))⟩
          case measure => simp [intOf]; omega
        · have e1 : confB ⟨x.q.b, x.ms⟩ ⟨y.q.b, y.ms⟩ = true := hcf
          rw [e1]
          have HF : Hid (V = true) := by
            show _ = _
            have : (L.take k).any (fun x => confB x.bm y.bm) = true := by
              rw [List.any_eq_true]
              exact ⟨x, List.mem_take_iff_getElem.2 ⟨j, by have := HL.out; omega, (List.getElem?_eq_some_iff.1 HX.out).2⟩, hcf⟩
            rw [HVk.out, this]; rfl
          clear e1 hcf
          go_wp2
          go_ret
          exact ⟨ret_bool HF.out.symm, (by repeat (first | (with_reducible exact Bel.refl _) | (with_reducible assumption) | (with_reducible refine Bel.drewN ?_ _) | (with_reducible refine Bel.drew ?_) | (with_reducible refine Bel.alloc ?_ _) | (with_reducible refine Bel.setNew ?_ ?_ _) | (with_reducible refine Bel.trans ?_ (by assumption)) | (focus (simp; done)) | (focus (simp; omega))))⟩
      · obtain rfl : j = k := by omega
        have jk : decide ((j : Int) < (j : Int)) = false := by simp
        have HVj : Hid (V = B.any fun x => confB x y.bm) := by show _ = _; rw [HVk.out, HA.out, Bool.false_or]
        clear HA
        go_wp2
        obtain ⟨X, rfl⟩ : ∃ X, X = wr := ⟨_, rfl⟩
        go_loopw [34] (fun jv wr => ∃ m : Nat, jv = .int .i64 m ∧ m ≤ n' ∧ Hid ((B.take m).any (fun x => confB x y.bm) = false) ∧ Bel w wr) (fun jv _ => n' - (intOf jv).toNat)
        case atStart => exact ⟨0, rfl, by omega, by simp [Hid], (by repeat (first | (with_reducible exact Bel.refl _) | (with_reducible assumption) | (with_reducible refine Bel.drewN ?_ _) | (with_reducible refine Bel.drew ?_) | (with_reducible refine Bel.alloc ?_ _) | (with_reducible refine Bel.setNew ?_ ?_ _) | (with_reducible refine Bel.trans ?_ (by assumption)) | (focus (simp; done)) | (focus (simp; omega))))⟩
        case round =>
          obtain ⟨m, rfl, m1, HB, hbr⟩ := hrel
          by_cases hmn : m < n'
          · obtain ⟨x, hx⟩ : ∃ x, B[m]? = some x := ⟨B[m]'(by have := Hn'.out; omega), List.getElem?_eq_getElem _⟩
            obtain ⟨b', o', c9', hX⟩ := HBT.out m x hx
            obtain ⟨b, o, c9, hY⟩ := HYT.out
            have hf := hX.form
            simp only [Value.slice.injEq] at hf
            obtain ⟨rfl, _, rfl⟩ := hf
            have hf := hY.form
            simp only [Value.slice.injEq] at hf
            obtain ⟨rfl, _, rfl⟩ := hf
            have HX := Lib.hid hx
            have HL := Lib.hid (show m < B.length from (List.getElem?_eq_some_iff.1 hx).1)
            have HA2 := Lib.hid (any_take_succ (p := fun x => confB x y.bm) hx)
            have hrX := hX.row.bel hbr hX.lt
            have hrY := hY.row.bel hbr hY.lt
            have hmX := hX.mem
            have hmY := hY.mem
            have jk : (m : Int) < (n' : Int) := by omega
            have hlt := Nat.lt_of_lt_of_le hY.lt hbr.size
            have q0 := (hrX).cell 0 rfl
            have q1 := (hrX).cell 1 rfl
            have q2 := (hrX).cell 2 rfl
            have q3 := (hrX).cell 3 rfl
            have q4 := (hrX).cell 4 rfl
            have q5 := (hrX).cell 5 rfl
            have q6 := (hrX).cell 6 rfl
            have q7 := (hrX).cell 7 rfl
            have q8 := (hrX).cell 8 rfl
            rw [Nat.add_zero] at q0
            have hbx := AtF.new wr 34 [.int .i64 (x.b).id, .int .i64 (x.b).ten, .int .i64 (x.b).knd, .int .i64 (x.b).sec, .int .i64 (x.b).cnt, .string (x.b).dat, .bool (x.b).fua, .slice (x.b).mA (x.b).mL (x.b).mC, .int .i64 (x.b).tim]
            have hbW : Bel w (wr.alloc (.cells #[.int .i64 (x.b).id, .int .i64 (x.b).ten, .int .i64 (x.b).knd, .int .i64 (x.b).sec, .int .i64 (x.b).cnt, .string (x.b).dat, .bool (x.b).fua, .slice (x.b).mA (x.b).mL (x.b).mC, .int .i64 (x.b).tim] 34)) := hbr.alloc _
            have hrW := hrY.bel ((Bel.refl wr).alloc (.cells #[.int .i64 (x.b).id, .int .i64 (x.b).ten, .int .i64 (x.b).knd, .int .i64 (x.b).sec, .int .i64 (x.b).cnt, .string (x.b).dat, .bool (x.b).fua, .slice (x.b).mA (x.b).mL (x.b).mC, .int .i64 (x.b).tim] 34)) hlt
            clear hX hY hx hrX hrY
            go_wp2_with fail
            clear q0 q1 q2 q3 q4 q5 q6 q7 q8
            generalize wr.alloc (.cells #[.int .i64 (x.b).id, .int .i64 (x.b).ten, .int .i64 (x.b).knd, .int .i64 (x.b).sec, .int .i64 (x.b).cnt, .string (x.b).dat, .bool (x.b).fua, .slice (x.b).mA (x.b).mL (x.b).mC, .int .i64 (x.b).tim] 34) = W at *
            have p0 := (hrW).cell 0 rfl
            have p1 := (hrW).cell 1 rfl
            have p2 := (hrW).cell 2 rfl
            have p3 := (hrW).cell 3 rfl
            have p4 := (hrW).cell 4 rfl
            have p5 := (hrW).cell 5 rfl
            have p6 := (hrW).cell 6 rfl
            have p7 := (hrW).cell 7 rfl
            have p8 := (hrW).cell 8 rfl
            rw [Nat.add_zero] at p0
            have q0 := (hbx).1.2 0 _ rfl
            have q1 := (hbx).1.2 1 _ rfl
            have q2 := (hbx).1.2 2 _ rfl
            have q3 := (hbx).1.2 3 _ rfl
            have q4 := (hbx).1.2 4 _ rfl
            have q5 := (hbx).1.2 5 _ rfl
            have q6 := (hbx).1.2 6 _ rfl
            have q7 := (hbx).1.2 7 _ rfl
            have q8 := (hbx).1.2 8 _ rfl
            have r0 := fun d os => cell_regrown p0 d os
            have r1 := fun d os => cell_regrown p1 d os
            have r2 := fun d os => cell_regrown p2 d os
            have r3 := fun d os => cell_regrown p3 d os
            have r4 := fun d os => cell_regrown p4 d os
            have r5 := fun d os => cell_regrown p5 d os
            have r6 := fun d os => cell_regrown p6 d os
            have r7 := fun d os => cell_regrown p7 d os
            have r8 := fun d os => cell_regrown p8 d os
            have s0 := fun d os => cell_regrown q0 d os
            have s1 := fun d os => cell_regrown q1 d os
            have s2 := fun d os => cell_regrown q2 d os
            have s3 := fun d os => cell_regrown q3 d os
            have s4 := fun d os => cell_regrown q4 d os
            have s5 := fun d os => cell_regrown q5 d os
            have s6 := fun d os => cell_regrown q6 d os
            have s7 := fun d os => cell_regrown q7 d os
            have s8 := fun d os => cell_regrown q8 d os
            refine wp_region_lex [6] 7 (by kernel_rfl) (by kernel_rfl) ?_
            simp only [List.take_succ_cons, List.take_zero, List.drop_succ_cons, List.drop_zero]
            with_reducible refine lex_seg 6 _ _ _ _ (by kernel_rfl) ?_
            simp only [List.take_succ_cons, List.take_zero, List.drop_succ_cons, List.drop_zero]
            try simp only [Act.put, List.setIfInBounds_toArray, List.set_cons_succ, List.set_cons_zero]
            repeat (go_big_quiet_step (fail))
            with_reducible refine wpQuiet_nil ?_
            refine lex_call 35 rfl rfl (by simp [go_sem]; rfl) ?_
            refine (conflict_any ⟨x.b, x.ms⟩ ⟨y.q.b, y.ms⟩ _ (hmX.bel (by repeat (first | (with_reducible exact Bel.refl _) | (with_reducible assumption) | (with_reducible refine Bel.drewN ?_ _) | (with_reducible refine Bel.drew ?_) | (with_reducible refine Bel.alloc ?_ _) | (with_reducible refine Bel.setNew ?_ ?_ _) | (with_reducible refine Bel.trans ?_ (by assumption)) | (focus (simp; done)) | (focus (simp; omega))))) (hmY.bel (by repeat (first | (with_reducible exact Bel.refl _) | (with_reducible assumption) | (with_reducible refine Bel.drewN ?_ _) | (with_reducible refine Bel.drew ?_) | (with_reducible refine Bel.alloc ?_ _) | (with_reducible refine Bel.setNew ?_ ?_ _) | (with_reducible refine Bel.trans ?_ (by assumption)) | (focus (simp; done)) | (focus (simp; omega)))))).mono ?_; rintro e w1 ⟨rfl, hb1⟩
            refine ⟨_, rfl, hb1, ?_⟩
            with_reducible refine lex_nil ?_
            clear r0 r1 r2 r3 r4 r5 r6 r7 r8
            clear s0 s1 s2 s3 s4 s5 s6 s7 s8
            clear p0 p1 p2 p3 p4 p5 p6 p7 p8
            clear q0 q1 q2 q3 q4 q5 q6 q7 q8
            clear hbx hrW
            cases hcf : confB x y.bm
            · have e1 : confB ⟨x.b, x.ms⟩ ⟨y.q.b, y.ms⟩ = false := hcf
              rw [e1]
              have HA3 : Hid ((B.take (m + 1)).any (fun x => confB x y.bm) = false) := by show _ = _; rw [HA2.out, HB.out, hcf]; rfl
              clear e1 hcf
              go_wp2
              go_roundw
              case rel => exact ⟨m + 1, by go_num, by omega, HA3, (by repeat (first | (with_reducible exact Bel.refl _) | (with_reducible assumption) | (with_reducible refine Bel.drewN ?_ _) | (with_reducible refine Bel.drew ?_) | (with_reducible refine Bel.alloc ?_ _) | (with_reducible refine Bel.setNew ?_ ?_ _) | (with_reducible refine Bel.trans ?_ (by assumption)) | (focus (simp; done)) | (focus (simp; omega))))⟩
              case measure => simp [intOf]; omega
            · have e1 : confB ⟨x.b, x.ms⟩ ⟨y.q.b, y.ms⟩ = true := hcf
              rw [e1]
              have HF : Hid (V = true) := by
                show _ = _
                have : B.any (fun x => confB x y.bm) = true := by
                  rw [List.any_eq_true]
                  exact ⟨x, List.mem_of_getElem? HX.out, hcf⟩
                rw [HVj.out, this]
              clear e1 hcf
              go_wp2
              go_ret
              exact ⟨ret_bool HF.out.symm, (by repeat (first | (with_reducible exact Bel.refl _) | (with_reducible assumption) | (with_reducible refine Bel.drewN ?_ _) | (with_reducible refine Bel.drew ?_) | (with_reducible refine Bel.alloc ?_ _) | (with_reducible refine Bel.setNew ?_ ?_ _) | (with_reducible refine Bel.trans ?_ (by assumption)) | (focus (simp; done)) | (focus (simp; omega))))⟩
          · obtain rfl : m = n' := by omega
            have jk2 : decide ((m : Int) < (m : Int)) = false := by simp
            have HF : Hid (V = false) := by
              show _ = _
              rw [HVj.out, ← HB.out, List.take_of_length_le (by have := Hn'.out; omega)]
            go_wp2
            go_ret
            exact ⟨ret_bool HF.out.symm, (by repeat (first | (with_reducible exact Bel.refl _) | (with_reducible assumption) | (with_reducible refine Bel.drewN ?_ _) | (with_reducible refine Bel.drew ?_) | (with_reducible refine Bel.alloc ?_ _) | (with_reducible refine Bel.setNew ?_ ?_ _) | (with_reducible refine Bel.trans ?_ (by assumption)) | (focus (simp; done)) | (focus (simp; omega))))⟩
  · have hd : decide (0 ≤ i ∧ i < (n : Int)) = false := by simpa using hi
    have HF : Hid (V = true) := by
      show _ = _
      rw [HV.out, blk]
      by_cases h0 : 0 ≤ i
      · rw [if_pos h0, blkN, List.getElem?_eq_none (by have := Hn.out; omega)]
      · rw [if_neg h0]
    have HD := Lib.hid hd
    clear hd HV hi hv hb
    go_enter Try.func22, Try.ntmps22
    go_wp2_with fail
    refine (dlHas_any A n c _ _).mono ?_; rw [HD.out]; rintro e w1 ⟨rfl, rfl⟩
    go_wp2
    go_ret
    exact ⟨ret_bool HF.out.symm, (by repeat (first | (with_reducible exact Bel.refl _) | (with_reducible assumption) | (with_reducible refine Bel.drewN ?_ _) | (with_reducible refine Bel.drew ?_) | (with_reducible refine Bel.alloc ?_ _) | (with_reducible refine Bel.setNew ?_ ?_ _) | (with_reducible refine Bel.trans ?_ (by assumption)) | (focus (simp; done)) | (focus (simp; omega))))⟩
end Go.Proofs.Ytdffpnogfinehaa
