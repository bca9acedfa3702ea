/- The reference's Wake. -/
import Derived.Test.YtpgjbocjhconoaaGreatElRN
import Derived.Test.YtpgjbocjhconoaaGreatElV
namespace Go.Proofs.YtpgjbocjhconoaaGreat
open Go.RowKit Go.Maps
set_option linter.unusedSimpArgs false

theorem bktE_at {bs : List Bk} {k : Nat} {x : Bk} {t n : Int} (hk : bs[k]? = some x) (ht : (k : Int) = t) : bktE bs t n = (x, min n x.burst, true) := by
  unfold bktE
  rw [if_pos (by omega), show t.toNat = k by omega, hk]

set_option maxRecDepth 100000 in
set_option maxHeartbeats 16000000 in
theorem refElWake_any (knd rd wt V hd now : Int) (fl bu en : Value) (fs : List (Int × Int)) (bs : List Bk) (L : List QM) (w : World) (hR : ElR w fl bu en fs bs L) (hn : L.length ≤ 1000) (hten : ∀ x ∈ L, 0 ≤ x.q.b.ten ∧ x.q.b.ten < bs.length) (hnow : IsInt (now + 1)) :
    Calls Tryz.prog 14 #[.agg #[.int .i64 knd, .int .i64 rd, .int .i64 wt, .int .i64 V, fl, bu, en, .int .i64 hd], .int .i64 now] w fun e w' => e = .returned (.tuple #[.int .i64 ((wakL bs now (L.map QM.qu)).getD 0), .bool (wakL bs now (L.map QM.qu)).isSome]) ∧ Bel w w' := by
  have HTK := Lib.hid (fun w' => refTick_any now w')
  have HRR := Lib.hid hR
  have HTN := Lib.hid hten
  obtain ⟨Af, cf, rfl, _, _⟩ := hR.f.form
  obtain ⟨Ab, cb, rfl, _, _⟩ := hR.b.form
  obtain ⟨Ae, ce, rfl, _, hce⟩ := hR.q.form
  unfold maxLen at hce
  have HPR := Lib.hid (fun w' (h : Bel w w') (b : Bun) (k : Nat) (r u l t : Int) (hk : bs[k]? = some ⟨r, u, l, t⟩) (ht : (k : Int) = b.ten) => refPrice_any knd rd wt V hd (.slice Af fs.length cf) _ (.slice Ae L.length ce) bs b k r u l t w' (hR.b.bel h) hk ht)
  obtain ⟨P, HP⟩ : ∃ P, Hid (L.map QM.qu = P) := ⟨_, rfl⟩
  rw [HP.out]
  obtain ⟨R, HR⟩ : ∃ R, Hid (wakL bs now P = R) := ⟨_, rfl⟩
  rw [HR.out]
  obtain ⟨n, Hn⟩ : ∃ n, Hid (L.length = n) := ⟨_, rfl⟩
  rw [Hn.out] at HRR HPR hn ⊢
  have HPN : Hid (P.length = n) := by show _ = _; rw [← HP.out, List.length_map]; exact Hn.out
  have HWT : Hid (∀ (i : Nat) (x : QM), L[i]? = some x → wakL bs now (P.take (i + 1)) = if tickE now then wakO (wakL bs now (P.take i)) (wakT bs now x.qu) else none) := fun i x hx => by
    have h1 : P[i]? = some x.qu := by rw [← HP.out, List.getElem?_map, hx]; rfl
    rw [List.take_add_one, h1]
    exact wakL_snoc bs now _ _
  obtain ⟨tk, Htk⟩ : ∃ t, Hid (tickE now = t) := ⟨_, rfl⟩
  rw [Htk.out] at HTK HWT
  obtain ⟨hn1, hn2⟩ := hnow
  have en1 : IntKind.i64.wrap (now + 1) = now + 1 := IntWalk.i64_in _ (by omega)
  have hX := AtF.new_at (w := w) rfl 31 [.int .i64 knd, .int .i64 rd, .int .i64 wt, .int .i64 V, .slice Af fs.length cf, .slice Ab bs.length cb, .slice Ae n ce, .int .i64 hd]
  have hbw : Bel w (w.alloc (.cells [.int .i64 knd, .int .i64 rd, .int .i64 wt, .int .i64 V, .slice Af fs.length cf, .slice Ab bs.length cb, .slice Ae n ce, .int .i64 hd].toArray 31)) := bI
  simp only [List.toArray] at hX hbw
  clear hR hten
  go_enter Tryz.func14, Tryz.ntmps14
  go_upto_region 2 with fail
  generalize hW : w.alloc _ = W at *
  clear hW
  generalize w.heap.size = X at *
  go_wp2_with fail
  refine (HTK.out _).mono ?_; rintro e w1 ⟨rfl, hb1⟩
  have hX1 := hX.bel hb1
  have hbw1 := hbw.trans hb1
  clear hX hbw hb1
  cases tk
  · have HR0 : Hid (R = none) := by
      show _ = _
      rw [← HR.out]
      unfold wakL
      rw [Htk.out]; rfl
    go_wp2
    exact bodyPost_ret (v := .tuple #[.int .i64 0, .bool false]) (by simp [results, Tryz.results14, go_sem]) rfl ⟨by rw [HR0.out]; rfl, hbw1⟩
  · simp only [if_true] at HWT
    go_wp2
    go_loopw [6, 7, 8] (fun lv fv iv wr => ∃ (i : Nat) (o : Option Int), iv = .int .i64 i ∧ i ≤ n ∧ Hid (wakL bs now (P.take i) = o) ∧ lv = .int .i64 (o.getD 0) ∧ fv = .bool o.isSome ∧ Bel w1 wr) (fun _ _ iv _ => n - (intOf iv).toNat)
    case atStart => exact ⟨0, none, rfl, by omega, by show wakL bs now [] = none; unfold wakL; split <;> rfl, rfl, rfl, Bel.refl _⟩
    case round =>
      obtain ⟨i, o', rfl, p1, HO, rfl, rfl, hbr⟩ := hrel
      obtain ⟨W2, rfl⟩ : ∃ X, X = wr := ⟨_, rfl⟩
      have hE2 := hX1.bel hbr
      have e6 := hE2.1.2 6 _ rfl
      have el := hE2.1.1
      have hbw2 := hbw1.trans hbr
      by_cases hlt : i < n
      · have hin : (i : Int) < (n : Int) := by omega
        have HLT := Lib.hid hlt
        obtain ⟨x, hx⟩ : ∃ x, L[i]? = some x := ⟨L[i]'(by have := Hn.out; omega), List.getElem?_eq_getElem _⟩
        obtain ⟨g, o, cx, hat⟩ := (HRR.out.q.bel hbw2).at hx
        have hf := hat.form
        injection hf with hf1 hf2 hf3
        subst hf1 hf3
        clear hf2
        have hrow := hat.row
        have hgl := hat.lt
        have HNW := Lib.hid (HWT.out i x hx)
        rw [HO.out] at HNW
        obtain ⟨h0, h4⟩ := HTN.out x (List.mem_of_getElem? hx)
        obtain ⟨tq, htq⟩ : ∃ k : Nat, (k : Int) = x.q.b.ten := ⟨x.q.b.ten.toNat, by omega⟩
        obtain ⟨⟨br, bb, bl, bt⟩, hbq⟩ : ∃ k, bs[tq]? = some k := ⟨bs[tq]'(by omega), List.getElem?_eq_getElem _⟩
        obtain ⟨gb, ob, cb', hfb, hgb, hcb⟩ := (HRR.out.b.bel hbw2).at (show 0 < bs.length by omega)
        injection hfb with hf1 hf2 hf3
        subst hf1 hf3
        clear hf2
        have z0 := hcb _ _ (bkc_at hbq (j := 0) rfl)
        have z1 := hcb _ _ (bkc_at hbq (j := 1) rfl)
        have z2 := hcb _ _ (bkc_at hbq (j := 2) rfl)
        have z3 := hcb _ _ (bkc_at hbq (j := 3) rfl)
        simp only [Nat.add_zero, ← Nat.add_assoc] at z0 z1 z2 z3
        obtain ⟨⟨tt, cm⟩, HW0⟩ : ∃ r, Hid (whenB ⟨br, bb, bl, bt⟩ (now + 1) (min x.q.b.cnt bb) = r) := ⟨_, rfl⟩
        have hwt : wakT bs now x.qu = if cm then some tt else none := by
          unfold wakT
          rw [show bktE bs x.qu.u.ten x.qu.u.cnt = (⟨br, bb, bl, bt⟩, min x.q.b.cnt bb, true) from bktE_at hbq htq]
          show (if true && (whenB ⟨br, bb, bl, bt⟩ (now + 1) (min x.q.b.cnt bb)).2 then some (whenB ⟨br, bb, bl, bt⟩ (now + 1) (min x.q.b.cnt bb)).1 else none) = _
          rw [HW0.out, Bool.true_and]
        rw [hwt] at HNW
        have HWN := Lib.hid (fun W' => refWhen_any br bb bl bt (now + 1) (min x.q.b.cnt bb) W')
        rw [HW0.out] at HWN
        have HPR2 := Lib.hid (fun W' (h : Bel W2 W') => HPR.out W' (hbw2.trans h) x.q.b tq br bb bl bt hbq htq)
        have htb : (tq : Int) < (bs.length : Int) := by omega
        clear hat hx hwt hcb hbq h0 h4
        obtain ⟨⟨⟨i2, t2, k2, s2, n2, d2, f2, a2, l2, c2, m2⟩, du, st, tr⟩, ms2⟩ := x
        simp only at hrow HPR2 HNW HWN htq
        subst htq
        have q0 := (hrow).cell 0 rfl
        have q1 := (hrow).cell 1 rfl
        have q2 := (hrow).cell 2 rfl
        have q3 := (hrow).cell 3 rfl
        have q4 := (hrow).cell 4 rfl
        have q5 := (hrow).cell 5 rfl
        have q6 := (hrow).cell 6 rfl
        have q7 := (hrow).cell 7 rfl
        have q8 := (hrow).cell 8 rfl
        have q9 := (hrow).cell 9 rfl
        have q10 := (hrow).cell 10 rfl
        have q11 := (hrow).cell 11 rfl
        rw [Nat.add_zero] at q0
        have hbx := AtF.new_at (w := W2) rfl 44 [.int .i64 i2, .int .i64 (tq : Int), .int .i64 k2, .int .i64 s2, .int .i64 n2, .string d2, .bool f2, .slice a2 l2 c2, .int .i64 m2]
        have hbn : Bel W2 (W2.alloc (.cells [.int .i64 i2, .int .i64 (tq : Int), .int .i64 k2, .int .i64 s2, .int .i64 n2, .string d2, .bool f2, .slice a2 l2 c2, .int .i64 m2].toArray 44)) := bI
        have hE3 := hE2.bel hbn
        have z0 := (hbn.cellAt gb _ hgb).trans z0
        have z1 := (hbn.cellAt gb _ hgb).trans z1
        have z2 := (hbn.cellAt gb _ hgb).trans z2
        have z3 := (hbn.cellAt gb _ hgb).trans z3
        simp only [List.toArray] at hbx hbn hE3 z0 z1 z2 z3
        go_upto_region 8 with fail
        clear q0 q1 q2 q3 q4 q5 q6 q7 q8 q9 q10 q11 e6 el hrow hE2
        generalize W2.alloc _ = W3 at *
        generalize W2.heap.size = BX at *
        have e0 := (hE3).1.2 0 _ rfl
        have e1 := (hE3).1.2 1 _ rfl
        have e2 := (hE3).1.2 2 _ rfl
        have e3 := (hE3).1.2 3 _ rfl
        have e4 := (hE3).1.2 4 _ rfl
        have e5 := (hE3).1.2 5 _ rfl
        have e6 := (hE3).1.2 6 _ rfl
        have e7 := (hE3).1.2 7 _ rfl
        have re0 := fun d os => cell_regrown e0 d os
        have re1 := fun d os => cell_regrown e1 d os
        have re2 := fun d os => cell_regrown e2 d os
        have re3 := fun d os => cell_regrown e3 d os
        have re4 := fun d os => cell_regrown e4 d os
        have re5 := fun d os => cell_regrown e5 d os
        have re6 := fun d os => cell_regrown e6 d os
        have re7 := fun d os => cell_regrown e7 d os
        have el := hE3.1.1
        have y0 := (hbx).1.2 0 _ rfl
        have y1 := (hbx).1.2 1 _ rfl
        have y2 := (hbx).1.2 2 _ rfl
        have y3 := (hbx).1.2 3 _ rfl
        have y4 := (hbx).1.2 4 _ rfl
        have y5 := (hbx).1.2 5 _ rfl
        have y6 := (hbx).1.2 6 _ rfl
        have y7 := (hbx).1.2 7 _ rfl
        have y8 := (hbx).1.2 8 _ rfl
        have ry0 := fun d os => cell_regrown y0 d os
        have ry1 := fun d os => cell_regrown y1 d os
        have ry2 := fun d os => cell_regrown y2 d os
        have ry3 := fun d os => cell_regrown y3 d os
        have ry4 := fun d os => cell_regrown y4 d os
        have ry5 := fun d os => cell_regrown y5 d os
        have ry6 := fun d os => cell_regrown y6 d os
        have ry7 := fun d os => cell_regrown y7 d os
        have ry8 := fun d os => cell_regrown y8 d os
        have yl := hbx.1.1
        have rz0 := fun d os => cell_regrown z0 d os
        have rz1 := fun d os => cell_regrown z1 d os
        have rz2 := fun d os => cell_regrown z2 d os
        have rz3 := fun d os => cell_regrown z3 d os
        refine wp_region_lex [10, 11] 16 (by kernel_rfl) (by kernel_rfl) ?_
        simp only [List.take_succ_cons, List.take_zero, List.drop_succ_cons, List.drop_zero]
        with_reducible refine lex_seg 10 _ _ _ _ (by kernel_rfl) ?_
        simp only [List.take_succ_cons, List.take_zero, List.drop_succ_cons, List.drop_zero]
        try simp only [Act.put, List.setIfInBounds_toArray, List.set_cons_succ, List.set_cons_zero]
        repeat (go_big_quiet_step (fail))
        with_reducible refine wpQuiet_nil ?_
        refine lex_call 43 rfl rfl (by simp [go_sem]; rfl) ?_
        have hzz := HPR2.out _ (hbn.trans (Bel.refl W3).drew)
        with_reducible refine Calls.mono hzz ?_
        rintro e w5 ⟨rfl, hb5⟩
        refine ⟨_, rfl, hb5, ?_⟩
        clear hzz
        refine lex_call 52 rfl rfl (by simp [go_sem]; rfl) ?_
        have hzz := HWN.out w5
        with_reducible refine Calls.mono hzz ?_
        rintro e w6 ⟨rfl, hb6⟩
        refine ⟨_, rfl, hb6, ?_⟩
        clear hzz
        with_reducible refine lex_seg 4 _ _ _ _ (by kernel_rfl) ?_
        simp only [List.take_succ_cons, List.take_zero, List.drop_succ_cons, List.drop_zero]
        try simp only [Act.put, List.setIfInBounds_toArray, List.set_cons_succ, List.set_cons_zero]
        repeat (go_big_quiet_step (fail))
        with_reducible refine wpQuiet_nil ?_
        with_reducible refine lex_nil ?_
        have hbf : Bel w1 w6 := hbr.trans (hbn.trans (((Bel.refl W3).drew.trans hb5).trans hb6))
        clear e0 e1 e2 e3 e4 e5 e6 e7 y0 y1 y2 y3 y4 y5 y6 y7 y8 el yl rz0 rz1 rz2 rz3 z0 z1 z2 z3 re0 re1 re2 re3 re4 re5 re6 re7 ry0 ry1 ry2 ry3 ry4 ry5 ry6 ry7 ry8 hE3 hbx hb5 hb6
        clear HTK Htk HWN HW0 HPR2 HPR HWT HTN HRR hX1 hbw2 hbn hbr hgl hgb
        cases cm
        · go_wp2
          go_roundw
          case rel => exact ⟨i + 1, o', by go_num, by have := HLT.out; omega, HNW.out, rfl, rfl, hbf⟩
          case measure => have := HLT.out; simp [intOf]; omega
        · cases o' with
          | none =>
            go_wp2
            go_roundw
            case rel => exact ⟨i + 1, some tt, by go_num, by have := HLT.out; omega, HNW.out, rfl, rfl, hbf⟩
            case measure => have := HLT.out; simp [intOf]; omega
          | some l =>
            by_cases htl : tt < l
            · have HN2 : Hid (wakL bs now (P.take (i + 1)) = some tt) := by
                show _ = _
                rw [HNW.out]
                show (if tt < l then some tt else some l) = some tt
                rw [if_pos htl]
              go_wp2
              go_roundw
              case rel => exact ⟨i + 1, some tt, by go_num, by have := HLT.out; omega, HN2.out, rfl, rfl, hbf⟩
              case measure => have := HLT.out; simp [intOf]; omega
            · have HN2 : Hid (wakL bs now (P.take (i + 1)) = some l) := by
                show _ = _
                rw [HNW.out]
                show (if tt < l then some tt else some l) = some l
                rw [if_neg htl]
              go_wp2
              go_roundw
              case rel => exact ⟨i + 1, some l, by go_num, by have := HLT.out; omega, HN2.out, rfl, rfl, hbf⟩
              case measure => have := HLT.out; simp [intOf]; omega
      · obtain rfl : i = n := by omega
        have jk : decide ((i : Int) < (i : Int)) = false := by simp
        have HRO : Hid (o' = R) := by
          show _ = _
          rw [← HO.out, ← HR.out, List.take_of_length_le (by rw [HPN.out]; exact Nat.le_refl _)]
        go_wp2
        exact bodyPost_ret (v := .tuple #[.int .i64 (o'.getD 0), .bool o'.isSome]) (by simp [results, Tryz.results14, go_sem]) rfl ⟨by rw [HRO.out], hbw2⟩
end Go.Proofs.YtpgjbocjhconoaaGreat
