/- Lemmas and walks that the statements share, part K4. -/
import Derived.Test.YtpgjbocjhconoaaGreatK1
import Derived.Test.YtpgjbocjhconoaaGreatK2
import Derived.Laws.IdiomCopy
import Derived.Test.YtpgjbocjhconoaaGreatK3
import Derived.Deep.DeepCutAuto
/- The reference's Can, and its Join of two that can be joined -/
namespace Go.Proofs.YtpgjbocjhconoaaGreat
open Go.RowKit Go.Maps
set_option linter.unusedSimpArgs false

theorem setCells_row (B : Nat) : ∀ (vs : List Value) (i : Nat) (W : World), W.setCells B i vs = setRow W B i vs
  | [], _, _ => rfl
  | v :: vs, i, W => setCells_row B vs (i + 1) (W.setCell ⟨B, i, none⟩ v)
theorem loadVar_at {P : Program} {W : World} {B : Nat} {cs : List Value} (ty : TypeId) (h : AtF W B cs) (d : TypeDesc) (hu : P.underlying ty = some d) (hd : (match d with | .struct _ | .array _ _ => true | _ => false) = true) (hi : (P.info? ty).map (·.size) = some cs.length) :
    (loadVar ty ⟨B, 0, none⟩).run P W = .ok (.agg cs.toArray) W := by
  have hl : (loadCells ⟨B, 0, none⟩ cs.length).run P W = .ok cs.toArray W :=
    run_loadCells_list (P := P) W ⟨B, 0, none⟩ cs (fun j v hv => by
      have hadd : (⟨B, 0, none⟩ : Addr).add j = ⟨B, j, none⟩ := by unfold Addr.add; split <;> simp_all
      rw [hadd]
      exact h.1.2 j v hv)
  cases hq : P.info? ty with
  | none => simp [hq] at hi
  | some i =>
    have hs : i.size = cs.length := by simpa [hq] using hi
    have hagg : (isAgg ty).run P W = .ok true W := by
      unfold isAgg
      rw [Sem.run_bind, run_underlying hu W]
      cases d <;> simp_all
    simp [loadVar, Sem.run_bind, hagg, sizeOf, typeInfo, hq, hs, hl]
theorem storeVar_at {P : Program} {W : World} {B : Nat} {cs vs : List Value} (ty : TypeId) (h : AtF W B cs) (hv : vs.length = cs.length) (h1 : ∀ v ∈ vs, v.oneCell' = true) (hi : (P.info? ty).map (·.size) = some vs.length) :
    (storeVar ty ⟨B, 0, none⟩ (.agg vs.toArray)).run P W = .ok () (setRow W B 0 vs) := by
  have := run_storeCells_cells (P := P) B 0 vs 0 W (fun j hj => by
    have hc : cs[j]? = some (cs[j]'(by omega)) := List.getElem?_eq_getElem _
    simp only [Nat.zero_add]
    rw [h.1.2 j _ hc]; rfl) (fun j hj => by simp only [Nat.zero_add]; exact h.2 j) h1
  rw [setCells_row] at this
  cases hq : P.info? ty with
  | none => simp [hq] at hi
  | some i =>
    have hs : vs.length = i.size := by simp [hq] at hi; omega
    simp only [Nat.add_zero] at this
    simp [storeVar, sizeOf, typeInfo, hq, Value.cells, hs, this]
theorem exec_store_at {P : Program} {W : World} {a : Act} {o : Oper} {B : Nat} {cs vs : List Value} (ty : TypeId) (x y : Operand) (ho : o.op = .store ty x y) (hx : a.eval x = .pointer (some ⟨B, 0, none⟩)) (hy : a.eval y = .agg vs.toArray) (hB : AtF W B cs) (hv : vs.length = cs.length) (h1 : ∀ v ∈ vs, v.oneCell' = true) (hi : (P.info? ty).map (·.size) = some vs.length) :
    (execOp a.eval o).run P W = .ok .skip (setRow W B 0 vs) := by
  unfold execOp
  simp only [ho, hx, hy, Instr.storeAt, Instr.sureAddr, Sem.run_bind, Sem.run_pure, Result.andThen_ok, storeVar_at ty hB hv h1 hi]

set_option maxRecDepth 100000 in
set_option maxHeartbeats 8000000 in
theorem refCan_any (M B : Int) (x y : BM) (w : World) (hx : Mems w x.b x.ms) (hy : Mems w y.b y.ms) :
    Calls Tryz.prog 29 #[.agg #[.int .i64 M, .int .i64 B], .agg #[.int .i64 (x.b).id, .int .i64 (x.b).ten, .int .i64 (x.b).knd, .int .i64 (x.b).sec, .int .i64 (x.b).cnt, .string (x.b).dat, .bool (x.b).fua, .slice (x.b).mA (x.b).mL (x.b).mC, .int .i64 (x.b).tim], .agg #[.int .i64 (y.b).id, .int .i64 (y.b).ten, .int .i64 (y.b).knd, .int .i64 (y.b).sec, .int .i64 (y.b).cnt, .string (y.b).dat, .bool (y.b).fua, .slice (y.b).mA (y.b).mL (y.b).mC, .int .i64 (y.b).tim]] w fun e w' => e = .returned (.int .i64 (canU M B x.bu y.bu)) ∧ Bel w w' := by
  obtain ⟨V, HV⟩ : ∃ V, Hid (V = canU M B x.bu y.bu) := ⟨_, rfl⟩
  rw [← HV.out]
  have H1 := Lib.hid (fun w' (h : Bel w w') => refBunch_any x.b x.ms w' (hx.bel h))
  have H2 := Lib.hid (fun w' (h : Bel w w') => refBunch_any y.b y.ms w' (hy.bel h))
  have HMX := Lib.hid hx
  have HMY := Lib.hid hy
  have HST := Lib.hid (show strU x.bu y.bu = !(x.ms.any fun p => y.ms.any fun q => p.id == q.id) from rfl)
  have HR1 := Lib.hid (fun h => validB_range (b := x.b) (ms := x.ms) h)
  have HR2 := Lib.hid (fun h => validB_range (b := y.b) (ms := y.ms) h)
  have HA := Lib.hid (show alikeU x.bu y.bu = (validB x.b x.ms && validB y.b y.ms && (x.b.ten == y.b.ten) && (x.b.knd == y.b.knd) && (x.b.fua == y.b.fua) && strU x.bu y.bu) from rfl)
  have HC := Lib.hid (show canU M B x.bu y.bu = if alikeU x.bu y.bu then (if y.b.sec = x.b.sec + x.b.cnt ∧ fits M B x.b.sec (x.b.cnt + y.b.cnt) = true then 1 else if x.b.sec = y.b.sec + y.b.cnt ∧ fits M B y.b.sec (x.b.cnt + y.b.cnt) = true then 2 else 0) else 0 from rfl)
  generalize canU M B x.bu y.bu = cu at *
  generalize alikeU x.bu y.bu = al at *
  generalize strU x.bu y.bu = st at *
  obtain ⟨⟨i1, t1, k1, s1, n1, d1, f1, a1, l1, c1, m1⟩, ms1⟩ := x
  obtain ⟨⟨i2, t2, k2, s2, n2, d2, f2, a2, l2, c2, m2⟩, ms2⟩ := y
  clear hx hy
  simp only at H1 H2 HMX HMY HST HR1 HR2 HA HC ⊢
  generalize validB ⟨i1, t1, k1, s1, n1, d1, f1, a1, l1, c1, m1⟩ ms1 = v1 at *
  generalize validB ⟨i2, t2, k2, s2, n2, d2, f2, a2, l2, c2, m2⟩ ms2 = v2 at *
  have hA := (AtF.new (w.alloc (.cells #[.int .i64 M, .int .i64 B] 36)) 44 [.int .i64 i1, .int .i64 t1, .int .i64 k1, .int .i64 s1, .int .i64 n1, .string d1, .bool f1, .slice a1 l1 c1, .int .i64 m1]).alloc (.cells #[.int .i64 i2, .int .i64 t2, .int .i64 k2, .int .i64 s2, .int .i64 n2, .string d2, .bool f2, .slice a2 l2 c2, .int .i64 m2] 44)
  have hB := AtF.new_at (w := (w.alloc (.cells #[.int .i64 M, .int .i64 B] 36)).alloc (.cells #[.int .i64 i1, .int .i64 t1, .int .i64 k1, .int .i64 s1, .int .i64 n1, .string d1, .bool f1, .slice a1 l1 c1, .int .i64 m1] 44)) (g := w.heap.size + 1 + 1) (by simp) 44 [.int .i64 i2, .int .i64 t2, .int .i64 k2, .int .i64 s2, .int .i64 n2, .string d2, .bool f2, .slice a2 l2 c2, .int .i64 m2]
  have hL := ((AtF.new w 36 [.int .i64 M, .int .i64 B]).alloc (.cells #[.int .i64 i1, .int .i64 t1, .int .i64 k1, .int .i64 s1, .int .i64 n1, .string d1, .bool f1, .slice a1 l1 c1, .int .i64 m1] 44)).alloc (.cells #[.int .i64 i2, .int .i64 t2, .int .i64 k2, .int .i64 s2, .int .i64 n2, .string d2, .bool f2, .slice a2 l2 c2, .int .i64 m2] 44)
  have hbX : Bel w (((w.alloc (.cells #[.int .i64 M, .int .i64 B] 36)).alloc (.cells #[.int .i64 i1, .int .i64 t1, .int .i64 k1, .int .i64 s1, .int .i64 n1, .string d1, .bool f1, .slice a1 l1 c1, .int .i64 m1] 44)).alloc (.cells #[.int .i64 i2, .int .i64 t2, .int .i64 k2, .int .i64 s2, .int .i64 n2, .string d2, .bool f2, .slice a2 l2 c2, .int .i64 m2] 44)) := bI
  simp only [World.size_alloc, List.toArray] at hA hB hL
  cases v1
  · have HF : Hid (V = 0) := by show _ = _; rw [HV.out, HC.out, HA.out]; rfl
    go_enter Tryz.func29, Tryz.ntmps29
    go_wp2_with fail
    refine (H1.out _ bI).mono ?_; rintro e w1 ⟨rfl, hb1⟩
    go_wp2
    go_ret
    exact ⟨ret_int HF.out.symm, hbX.trans hb1⟩
  · cases v2
    · have HF : Hid (V = 0) := by show _ = _; rw [HV.out, HC.out, HA.out]; rfl
      go_enter Tryz.func29, Tryz.ntmps29
      go_wp2_with fail
      refine (H1.out _ bI).mono ?_; rintro e w1 ⟨rfl, hb1⟩
      have hB1 := hB.bel hb1
      have q0 := (hB1).1.2 0 _ rfl
      have q1 := (hB1).1.2 1 _ rfl
      have q2 := (hB1).1.2 2 _ rfl
      have q3 := (hB1).1.2 3 _ rfl
      have q4 := (hB1).1.2 4 _ rfl
      have q5 := (hB1).1.2 5 _ rfl
      have q6 := (hB1).1.2 6 _ rfl
      have q7 := (hB1).1.2 7 _ rfl
      have q8 := (hB1).1.2 8 _ rfl
      have hbw1 := hbX.trans hb1
      go_wp2_with fail
      refine (H2.out _ hbw1).mono ?_; rintro e w2 ⟨rfl, hb2⟩
      go_wp2
      go_ret
      exact ⟨ret_int HF.out.symm, hbw1.trans hb2⟩
    · obtain ⟨g1, g2, g3, g4⟩ := HR1.out rfl
      obtain ⟨g5, g6, g7, g8⟩ := HR2.out rfl
      by_cases e1 : t1 = t2
      · by_cases e2 : k1 = k2
        · by_cases e3 : f1 = f2
          · subst e1 e2 e3
            obtain ⟨hl1, hr1, -, -⟩ := HMX.out
            obtain ⟨hl2, hr2, -, -⟩ := HMY.out
            simp only at hl1 hr1 hl2 hr2
            subst hl1 hl2
            have HA1 := Lib.hid (fun k m (hk : ms1[k]? = some m) => mems_at hr1 hk)
            have HA2 := Lib.hid (fun k m (hk : ms2[k]? = some m) => mems_at hr2 hk)
            obtain ⟨u1, HU1⟩ : ∃ n, Hid (ms1.length = n) := ⟨_, rfl⟩
            obtain ⟨u2, HU2⟩ : ∃ n, Hid (ms2.length = n) := ⟨_, rfl⟩
            have hc1 := hr1.form
            have hc2 := hr2.form
            obtain ⟨_, _, hv1, hd1, hd2⟩ := hc1
            cases hv1
            obtain ⟨_, _, hv2, hd3, hd4⟩ := hc2
            cases hv2
            unfold maxLen at hd2 hd4
            rw [HU1.out] at H1 hA hB hL hbX hd1
            rw [HU2.out] at H2 hA hB hL hbX hd3
            rw [HU1.out, HU2.out]
            clear hr1 hr2 HMX HMY
            go_enter Tryz.func29, Tryz.ntmps29
            go_wp2_with fail
            refine (H1.out _ bI).mono ?_; rintro e w1 ⟨rfl, hb1⟩
            have hB1 := hB.bel hb1
            have q0 := (hB1).1.2 0 _ rfl
            have q1 := (hB1).1.2 1 _ rfl
            have q2 := (hB1).1.2 2 _ rfl
            have q3 := (hB1).1.2 3 _ rfl
            have q4 := (hB1).1.2 4 _ rfl
            have q5 := (hB1).1.2 5 _ rfl
            have q6 := (hB1).1.2 6 _ rfl
            have q7 := (hB1).1.2 7 _ rfl
            have q8 := (hB1).1.2 8 _ rfl
            have hbw1 := hbX.trans hb1
            go_wp2_with fail
            refine (H2.out _ hbw1).mono ?_; rintro e w2 ⟨rfl, hb2⟩
            have hA2 := (hA.bel hb1).bel hb2
            have hB2 := hB1.bel hb2
            have hL2 := (hL.bel hb1).bel hb2
            clear q0 q1 q2 q3 q4 q5 q6 q7 q8
            have q0 := (hB2).1.2 0 _ rfl
            have q1 := (hB2).1.2 1 _ rfl
            have q2 := (hB2).1.2 2 _ rfl
            have q3 := (hB2).1.2 3 _ rfl
            have q4 := (hB2).1.2 4 _ rfl
            have q5 := (hB2).1.2 5 _ rfl
            have q6 := (hB2).1.2 6 _ rfl
            have q7 := (hB2).1.2 7 _ rfl
            have q8 := (hB2).1.2 8 _ rfl
            have p0 := (hA2).1.2 0 _ rfl
            have p1 := (hA2).1.2 1 _ rfl
            have p2 := (hA2).1.2 2 _ rfl
            have p3 := (hA2).1.2 3 _ rfl
            have p4 := (hA2).1.2 4 _ rfl
            have p5 := (hA2).1.2 5 _ rfl
            have p6 := (hA2).1.2 6 _ rfl
            have p7 := (hA2).1.2 7 _ rfl
            have p8 := (hA2).1.2 8 _ rfl
            go_wp2
            have hbw2 := hbw1.trans hb2
            clear q0 q1 q2 q3 q4 q5 q6 q7 q8 p0 p1 p2 p3 p4 p5 p6 p7 p8
            go_loopw [7] (fun iv wr => ∃ i : Nat, iv = .int .i64 i ∧ i ≤ u1 ∧ Hid (((ms1.take i).any fun p => ms2.any fun q => p.id == q.id) = false) ∧ Bel w2 wr) (fun iv _ => u1 - (intOf iv).toNat)
            case atStart => exact ⟨0, rfl, by omega, by simp [Hid], Bel.refl _⟩
            case round =>
              obtain ⟨i, rfl, p1, HN1, hbr⟩ := hrel
              obtain ⟨W3, rfl⟩ : ∃ X, X = wr := ⟨_, rfl⟩
              have hA3 := hA2.bel hbr
              have hB3 := hB2.bel hbr
              have p7 := hA3.1.2 7 _ rfl
              by_cases hi : i < u1
              · have hiu : (i : Int) < (u1 : Int) := by omega
                obtain ⟨e, he⟩ : ∃ m, ms1[i]? = some m := ⟨ms1[i]'(by have := HU1.out; omega), List.getElem?_eq_getElem _⟩
                obtain ⟨b1, o1, hae, hlb1, hrow1⟩ := HA1.out i e he
                subst hae
                have d1' := (hrow1.bel (hbw2.trans hbr) hlb1).cell 0 rfl
                rw [Nat.add_zero] at d1'
                have HTK : Hid (((ms1.take (i + 1)).any fun p => ms2.any fun q => p.id == q.id) = ms2.any fun q => e.id == q.id) := by
                  show _ = _
                  rw [List.take_add_one, he, List.any_append, HN1.out]
                  simp
                have HEM := Lib.hid (List.mem_of_getElem? he)
                have hlb3 : b1 < W3.heap.size := Nat.lt_of_lt_of_le hlb1 (hbw2.trans hbr).size
                clear he hrow1
                go_wp2
                clear p7
                go_loopw [8] (fun jv wj => ∃ j : Nat, jv = .int .i64 j ∧ j ≤ u2 ∧ Hid (((ms2.take j).any fun q => e.id == q.id) = false) ∧ Bel W3 wj) (fun jv _ => u2 - (intOf jv).toNat)
                case atStart => exact ⟨0, rfl, by omega, by simp [Hid], Bel.refl _⟩
                case round =>
                  obtain ⟨j, rfl, p2, HN2, hbj⟩ := hrel
                  obtain ⟨W4, rfl⟩ : ∃ X, X = wr := ⟨_, rfl⟩
                  have q7 := (hB3.bel hbj).1.2 7 _ rfl
                  have p7 := (hA3.bel hbj).1.2 7 _ rfl
                  have d1j := (hbj.cellAt b1 _ hlb3).trans d1'
                  by_cases hj : j < u2
                  · have hju : (j : Int) < (u2 : Int) := by omega
                    obtain ⟨f, hf⟩ : ∃ m, ms2[j]? = some m := ⟨ms2[j]'(by have := HU2.out; omega), List.getElem?_eq_getElem _⟩
                    obtain ⟨b2, o2, haf, hlb2, hrow2⟩ := HA2.out j f hf
                    subst haf
                    have d2' := (hrow2.bel ((hbw2.trans hbr).trans hbj) hlb2).cell 0 rfl
                    rw [Nat.add_zero] at d2'
                    have HTJ : Hid (((ms2.take (j + 1)).any fun q => e.id == q.id) = (e.id == f.id)) := by
                      show _ = _
                      rw [List.take_add_one, hf, List.any_append, HN2.out]
                      simp
                    have HFM := Lib.hid (List.mem_of_getElem? hf)
                    clear hf hrow2
                    go_wp2_with fail
                    have r1 := fun d os => cell_regrown q7 d os
                    have r2 := fun d os => cell_regrown p7 d os
                    have r3 := fun d os => cell_regrown d1j d os
                    have r4 := fun d os => cell_regrown d2' d os
                    by_cases hid : e.id = f.id
                    · have hid' : (e.id == f.id) = true := by simpa using hid
                      have HF0 : Hid (V = 0) := by
                        show _ = _
                        have hs : st = false := by
                          rw [HST.out]
                          simp only [Bool.not_eq_false', List.any_eq_true]
                          exact ⟨e, HEM.out, f, HFM.out, hid'⟩
                        rw [HV.out, HC.out, HA.out, hs]; simp
                      clear hid
                      refine wp_region_lex [] 13 (by kernel_rfl) (by kernel_rfl) ?_
                      simp only [List.take_succ_cons, List.take_zero, List.drop_succ_cons, List.drop_zero]
                      with_reducible refine lex_seg 13 _ _ _ _ (by kernel_rfl) ?_
                      simp only [List.take_succ_cons, List.take_zero, List.drop_succ_cons, List.drop_zero]
                      try simp only [Act.put, List.setIfInBounds_toArray, List.set_cons_succ, List.set_cons_zero]
                      repeat (go_big_quiet_step (fail))
                      with_reducible refine wpQuiet_nil ?_
                      with_reducible refine lex_nil ?_
                      clear r1 r2 r3 r4
                      go_wp2
                      go_ret
                      exact ⟨ret_int HF0.out.symm, ((hbw2.trans hbr).trans hbj).drew⟩
                    · have hid' : (e.id == f.id) = false := by simpa using hid
                      have HTT : Hid (((ms2.take (j + 1)).any fun q => e.id == q.id) = false) := by show _ = _; rw [HTJ.out]; exact hid'
                      clear hid
                      refine wp_region_lex [] 13 (by kernel_rfl) (by kernel_rfl) ?_
                      simp only [List.take_succ_cons, List.take_zero, List.drop_succ_cons, List.drop_zero]
                      with_reducible refine lex_seg 13 _ _ _ _ (by kernel_rfl) ?_
                      simp only [List.take_succ_cons, List.take_zero, List.drop_succ_cons, List.drop_zero]
                      try simp only [Act.put, List.setIfInBounds_toArray, List.set_cons_succ, List.set_cons_zero]
                      repeat (go_big_quiet_step (fail))
                      with_reducible refine wpQuiet_nil ?_
                      with_reducible refine lex_nil ?_
                      clear r1 r2 r3 r4 p7 q7 d1j d2'
                      go_wp2
                      have hbf := hbj.drew
                      go_roundw
                      case rel => exact ⟨j + 1, by go_num, by omega, HTT, hbf⟩
                      case measure => simp [intOf]; omega
                  · obtain rfl : j = u2 := by omega
                    have hjj : decide ((j : Int) < (j : Int)) = false := by simp
                    have HTT : Hid (((ms1.take (i + 1)).any fun p => ms2.any fun q => p.id == q.id) = false) := by
                      show _ = _
                      rw [HTK.out]
                      have := HN2.out
                      rwa [List.take_of_length_le (by have := HU2.out; omega)] at this
                    go_wp2
                    clear p7 q7 d1j
                    have hbf := hbr.trans hbj
                    go_roundw
                    case rel => exact ⟨i + 1, by go_num, by omega, HTT, hbf⟩
                    case measure => simp [intOf]; omega
              · obtain rfl : i = u1 := by omega
                have hii : decide ((i : Int) < (i : Int)) = false := by simp
                have hst : st = true := by
                  rw [HST.out]
                  have := HN1.out
                  rw [List.take_of_length_le (by have := HU1.out; omega)] at this
                  rw [this]; rfl
                have HF : Hid (V = if s2 = s1 + n1 ∧ fits M B s1 (n1 + n2) = true then 1 else if s1 = s2 + n2 ∧ fits M B s2 (n1 + n2) = true then 2 else 0) := by
                  show _ = _; rw [HV.out, HC.out, HA.out, hst]; simp
                clear hst
                have hA4 := hA3
                have hB4 := hB3
                have hL4 := hL2.bel hbr
                have hbw4 := hbw2.trans hbr
                have q3 := hB4.1.2 3 _ rfl
                have q4 := hB4.1.2 4 _ rfl
                have p3 := hA4.1.2 3 _ rfl
                have p4 := hA4.1.2 4 _ rfl
                have l0 := hL4.1.2 0 _ rfl
                have l1 := hL4.1.2 1 _ rfl
                by_cases e4 : s2 = s1 + n1
                · have e4b : (s2 == s1 + n1) = true := by simpa using e4
                  have e5 : ¬ s1 = s2 + n2 := by omega
                  have e5b : (s1 == s2 + n2) = false := by simpa using e5
                  obtain ⟨ff, Hff⟩ : ∃ ff, Hid (ff = fits M B s1 (n1 + n2)) := ⟨_, rfl⟩
                  have HF2 : Hid (V = if ff then 1 else 0) := by
                    show _ = _
                    rw [HF.out, Hff.out]
                    cases fits M B s1 (n1 + n2)
                    · rw [if_neg (by simp), if_neg (fun h => e5 h.1)]; rfl
                    · rw [if_pos ⟨e4, rfl⟩]; rfl
                  clear e4 e5
                  go_wp2_with fail
                  refine (refFits_any M B s1 (n1 + n2) _).mono ?_; rw [rfits_eq, ← Hff.out]; rintro e w4 ⟨rfl, hb4⟩
                  have q3' := (hB4.bel hb4).1.2 3 _ rfl
                  have q4' := (hB4.bel hb4).1.2 4 _ rfl
                  have p3' := (hA4.bel hb4).1.2 3 _ rfl
                  have p4' := (hA4.bel hb4).1.2 4 _ rfl
                  clear q3 q4 p3 p4 l0 l1
                  cases ff
                  · go_wp2
                    go_ret
                    exact ⟨ret_int (by rw [HF2.out]; rfl), hbw4.trans hb4⟩
                  · go_wp2
                    go_ret
                    exact ⟨ret_int (by rw [HF2.out]; rfl), hbw4.trans hb4⟩
                · have e4b : (s2 == s1 + n1) = false := by simpa using e4
                  by_cases e5 : s1 = s2 + n2
                  · have e5b : (s1 == s2 + n2) = true := by simpa using e5
                    obtain ⟨ff, Hff⟩ : ∃ ff, Hid (ff = fits M B s2 (n1 + n2)) := ⟨_, rfl⟩
                    have HF2 : Hid (V = if ff then 2 else 0) := by
                      show _ = _
                      rw [HF.out, Hff.out, if_neg (fun h => e4 h.1)]
                      cases fits M B s2 (n1 + n2)
                      · rw [if_neg (by simp)]; rfl
                      · rw [if_pos ⟨e5, rfl⟩]; rfl
                    clear e4 e5
                    go_wp2_with fail
                    refine (refFits_any M B s2 (n1 + n2) _).mono ?_; rw [rfits_eq, ← Hff.out]; rintro e w4 ⟨rfl, hb4⟩
                    cases ff
                    · go_wp2
                      go_ret
                      exact ⟨ret_int (by rw [HF2.out]; rfl), hbw4.trans hb4⟩
                    · go_wp2
                      go_ret
                      exact ⟨ret_int (by rw [HF2.out]; rfl), hbw4.trans hb4⟩
                  · have e5b : (s1 == s2 + n2) = false := by simpa using e5
                    have HF2 : Hid (V = 0) := by show _ = _; rw [HF.out, if_neg (fun h => e4 h.1), if_neg (fun h => e5 h.1)]
                    clear e4 e5
                    go_wp2
                    go_ret
                    exact ⟨ret_int (by rw [HF2.out]), hbw4⟩
          · have HF : Hid (V = 0) := by show _ = _; rw [HV.out, HC.out, HA.out]; simp [e3]
            subst e1 e2
            cases f1 <;> cases f2
            · exact absurd rfl e3
            · clear e3
              go_enter Tryz.func29, Tryz.ntmps29
              go_wp2_with fail
              refine (H1.out _ bI).mono ?_; rintro e w1 ⟨rfl, hb1⟩
              have hB1 := hB.bel hb1
              have q0 := (hB1).1.2 0 _ rfl
              have q1 := (hB1).1.2 1 _ rfl
              have q2 := (hB1).1.2 2 _ rfl
              have q3 := (hB1).1.2 3 _ rfl
              have q4 := (hB1).1.2 4 _ rfl
              have q5 := (hB1).1.2 5 _ rfl
              have q6 := (hB1).1.2 6 _ rfl
              have q7 := (hB1).1.2 7 _ rfl
              have q8 := (hB1).1.2 8 _ rfl
              have hbw1 := hbX.trans hb1
              go_wp2_with fail
              refine (H2.out _ hbw1).mono ?_; rintro e w2 ⟨rfl, hb2⟩
              have hA2 := (hA.bel hb1).bel hb2
              have hB2 := hB1.bel hb2
              have hL2 := (hL.bel hb1).bel hb2
              clear q0 q1 q2 q3 q4 q5 q6 q7 q8
              have q0 := (hB2).1.2 0 _ rfl
              have q1 := (hB2).1.2 1 _ rfl
              have q2 := (hB2).1.2 2 _ rfl
              have q3 := (hB2).1.2 3 _ rfl
              have q4 := (hB2).1.2 4 _ rfl
              have q5 := (hB2).1.2 5 _ rfl
              have q6 := (hB2).1.2 6 _ rfl
              have q7 := (hB2).1.2 7 _ rfl
              have q8 := (hB2).1.2 8 _ rfl
              have p0 := (hA2).1.2 0 _ rfl
              have p1 := (hA2).1.2 1 _ rfl
              have p2 := (hA2).1.2 2 _ rfl
              have p3 := (hA2).1.2 3 _ rfl
              have p4 := (hA2).1.2 4 _ rfl
              have p5 := (hA2).1.2 5 _ rfl
              have p6 := (hA2).1.2 6 _ rfl
              have p7 := (hA2).1.2 7 _ rfl
              have p8 := (hA2).1.2 8 _ rfl
              go_wp2
              go_ret
              exact ⟨ret_int HF.out.symm, hbw1.trans hb2⟩
            · clear e3
              go_enter Tryz.func29, Tryz.ntmps29
              go_wp2_with fail
              refine (H1.out _ bI).mono ?_; rintro e w1 ⟨rfl, hb1⟩
              have hB1 := hB.bel hb1
              have q0 := (hB1).1.2 0 _ rfl
              have q1 := (hB1).1.2 1 _ rfl
              have q2 := (hB1).1.2 2 _ rfl
              have q3 := (hB1).1.2 3 _ rfl
              have q4 := (hB1).1.2 4 _ rfl
              have q5 := (hB1).1.2 5 _ rfl
              have q6 := (hB1).1.2 6 _ rfl
              have q7 := (hB1).1.2 7 _ rfl
              have q8 := (hB1).1.2 8 _ rfl
              have hbw1 := hbX.trans hb1
              go_wp2_with fail
              refine (H2.out _ hbw1).mono ?_; rintro e w2 ⟨rfl, hb2⟩
              have hA2 := (hA.bel hb1).bel hb2
              have hB2 := hB1.bel hb2
              have hL2 := (hL.bel hb1).bel hb2
              clear q0 q1 q2 q3 q4 q5 q6 q7 q8
              have q0 := (hB2).1.2 0 _ rfl
              have q1 := (hB2).1.2 1 _ rfl
              have q2 := (hB2).1.2 2 _ rfl
              have q3 := (hB2).1.2 3 _ rfl
              have q4 := (hB2).1.2 4 _ rfl
              have q5 := (hB2).1.2 5 _ rfl
              have q6 := (hB2).1.2 6 _ rfl
              have q7 := (hB2).1.2 7 _ rfl
              have q8 := (hB2).1.2 8 _ rfl
              have p0 := (hA2).1.2 0 _ rfl
              have p1 := (hA2).1.2 1 _ rfl
              have p2 := (hA2).1.2 2 _ rfl
              have p3 := (hA2).1.2 3 _ rfl
              have p4 := (hA2).1.2 4 _ rfl
              have p5 := (hA2).1.2 5 _ rfl
              have p6 := (hA2).1.2 6 _ rfl
              have p7 := (hA2).1.2 7 _ rfl
              have p8 := (hA2).1.2 8 _ rfl
              go_wp2
              go_ret
              exact ⟨ret_int HF.out.symm, hbw1.trans hb2⟩
            · exact absurd rfl e3
        · have e2b : (k1 != k2) = true := by simpa using e2
          have HF : Hid (V = 0) := by show _ = _; rw [HV.out, HC.out, HA.out]; simp [e2]
          subst e1
          clear e2
          go_enter Tryz.func29, Tryz.ntmps29
          go_wp2_with fail
          refine (H1.out _ bI).mono ?_; rintro e w1 ⟨rfl, hb1⟩
          have hB1 := hB.bel hb1
          have q0 := (hB1).1.2 0 _ rfl
          have q1 := (hB1).1.2 1 _ rfl
          have q2 := (hB1).1.2 2 _ rfl
          have q3 := (hB1).1.2 3 _ rfl
          have q4 := (hB1).1.2 4 _ rfl
          have q5 := (hB1).1.2 5 _ rfl
          have q6 := (hB1).1.2 6 _ rfl
          have q7 := (hB1).1.2 7 _ rfl
          have q8 := (hB1).1.2 8 _ rfl
          have hbw1 := hbX.trans hb1
          go_wp2_with fail
          refine (H2.out _ hbw1).mono ?_; rintro e w2 ⟨rfl, hb2⟩
          have hA2 := (hA.bel hb1).bel hb2
          have hB2 := hB1.bel hb2
          have hL2 := (hL.bel hb1).bel hb2
          clear q0 q1 q2 q3 q4 q5 q6 q7 q8
          have q0 := (hB2).1.2 0 _ rfl
          have q1 := (hB2).1.2 1 _ rfl
          have q2 := (hB2).1.2 2 _ rfl
          have q3 := (hB2).1.2 3 _ rfl
          have q4 := (hB2).1.2 4 _ rfl
          have q5 := (hB2).1.2 5 _ rfl
          have q6 := (hB2).1.2 6 _ rfl
          have q7 := (hB2).1.2 7 _ rfl
          have q8 := (hB2).1.2 8 _ rfl
          have p0 := (hA2).1.2 0 _ rfl
          have p1 := (hA2).1.2 1 _ rfl
          have p2 := (hA2).1.2 2 _ rfl
          have p3 := (hA2).1.2 3 _ rfl
          have p4 := (hA2).1.2 4 _ rfl
          have p5 := (hA2).1.2 5 _ rfl
          have p6 := (hA2).1.2 6 _ rfl
          have p7 := (hA2).1.2 7 _ rfl
          have p8 := (hA2).1.2 8 _ rfl
          go_wp2
          go_ret
          exact ⟨ret_int HF.out.symm, hbw1.trans hb2⟩
      · have e1b : (t1 != t2) = true := by simpa using e1
        have HF : Hid (V = 0) := by show _ = _; rw [HV.out, HC.out, HA.out]; simp [e1]
        clear e1
        go_enter Tryz.func29, Tryz.ntmps29
        go_wp2_with fail
        refine (H1.out _ bI).mono ?_; rintro e w1 ⟨rfl, hb1⟩
        have hB1 := hB.bel hb1
        have q0 := (hB1).1.2 0 _ rfl
        have q1 := (hB1).1.2 1 _ rfl
        have q2 := (hB1).1.2 2 _ rfl
        have q3 := (hB1).1.2 3 _ rfl
        have q4 := (hB1).1.2 4 _ rfl
        have q5 := (hB1).1.2 5 _ rfl
        have q6 := (hB1).1.2 6 _ rfl
        have q7 := (hB1).1.2 7 _ rfl
        have q8 := (hB1).1.2 8 _ rfl
        have hbw1 := hbX.trans hb1
        go_wp2_with fail
        refine (H2.out _ hbw1).mono ?_; rintro e w2 ⟨rfl, hb2⟩
        have hA2 := (hA.bel hb1).bel hb2
        have hB2 := hB1.bel hb2
        have hL2 := (hL.bel hb1).bel hb2
        clear q0 q1 q2 q3 q4 q5 q6 q7 q8
        have q0 := (hB2).1.2 0 _ rfl
        have q1 := (hB2).1.2 1 _ rfl
        have q2 := (hB2).1.2 2 _ rfl
        have q3 := (hB2).1.2 3 _ rfl
        have q4 := (hB2).1.2 4 _ rfl
        have q5 := (hB2).1.2 5 _ rfl
        have q6 := (hB2).1.2 6 _ rfl
        have q7 := (hB2).1.2 7 _ rfl
        have q8 := (hB2).1.2 8 _ rfl
        have p0 := (hA2).1.2 0 _ rfl
        have p1 := (hA2).1.2 1 _ rfl
        have p2 := (hA2).1.2 2 _ rfl
        have p3 := (hA2).1.2 3 _ rfl
        have p4 := (hA2).1.2 4 _ rfl
        have p5 := (hA2).1.2 5 _ rfl
        have p6 := (hA2).1.2 6 _ rfl
        have p7 := (hA2).1.2 7 _ rfl
        have p8 := (hA2).1.2 8 _ rfl
        go_wp2
        go_ret
        exact ⟨ret_int HF.out.symm, hbw1.trans hb2⟩

theorem cell9_one (a b c d e : Int) (s : ByteArray) (f : Bool) (A : Option Addr) (n m : Nat) (g : Int) : ∀ v ∈ [Value.int .i64 a, .int .i64 b, .int .i64 c, .int .i64 d, .int .i64 e, .string s, .bool f, .slice A n m, .int .i64 g], v.oneCell' = true := fun v hv => by
  simp only [List.mem_cons, List.not_mem_nil, or_false] at hv
  rcases hv with rfl | rfl | rfl | rfl | rfl | rfl | rfl | rfl | rfl <;> rfl

set_option maxRecDepth 100000 in
set_option maxHeartbeats 16000000 in
theorem refJoin_any (x y : BM) (how : Int) (w : World) (hx : Mems w x.b x.ms) (hy : Mems w y.b y.ms) (h0 : how ≠ 0) (hc : canU 128 0 x.bu y.bu = how) :
    Calls Tryz.prog 34 #[.agg #[.int .i64 (x.b).id, .int .i64 (x.b).ten, .int .i64 (x.b).knd, .int .i64 (x.b).sec, .int .i64 (x.b).cnt, .string (x.b).dat, .bool (x.b).fua, .slice (x.b).mA (x.b).mL (x.b).mC, .int .i64 (x.b).tim], .agg #[.int .i64 (y.b).id, .int .i64 (y.b).ten, .int .i64 (y.b).knd, .int .i64 (y.b).sec, .int .i64 (y.b).cnt, .string (y.b).dat, .bool (y.b).fua, .slice (y.b).mA (y.b).mL (y.b).mC, .int .i64 (y.b).tim], .int .i64 how] w fun e w' => ∃ A c, e = .returned (.agg #[.int .i64 ((Bu.at (joinU x.bu y.bu how) A c)).id, .int .i64 ((Bu.at (joinU x.bu y.bu how) A c)).ten, .int .i64 ((Bu.at (joinU x.bu y.bu how) A c)).knd, .int .i64 ((Bu.at (joinU x.bu y.bu how) A c)).sec, .int .i64 ((Bu.at (joinU x.bu y.bu how) A c)).cnt, .string ((Bu.at (joinU x.bu y.bu how) A c)).dat, .bool ((Bu.at (joinU x.bu y.bu how) A c)).fua, .slice ((Bu.at (joinU x.bu y.bu how) A c)).mA ((Bu.at (joinU x.bu y.bu how) A c)).mL ((Bu.at (joinU x.bu y.bu how) A c)).mC, .int .i64 ((Bu.at (joinU x.bu y.bu how) A c)).tim]) ∧ Zb w' w.heap.size (joinU x.bu y.bu how) A c ∧ Bel w w' := by
  obtain ⟨o1, o2, o3, o4, o5, o6, o7⟩ := join_yes h0 hc
  have HC := Lib.hid (fun w' (h : Bel w w') => refCan_any 128 0 x y w' (hx.bel h) (hy.bel h))
  rw [hc] at HC
  obtain ⟨J, HJ0⟩ : ∃ J, Hid (J = joinU x.bu y.bu how) := ⟨_, rfl⟩
  rw [← HJ0.out]
  have HBX := Lib.hid (And.intro hx hy)
  obtain ⟨X, HX⟩ : ∃ X : BM, Hid (X = if how = 2 then y else x) := ⟨_, rfl⟩
  obtain ⟨Y, HY⟩ : ∃ X : BM, Hid (X = if how = 2 then x else y) := ⟨_, rfl⟩
  have HJ : Hid (J = pairU x.bu y.bu X.bu Y.bu) := by
    show _ = _
    rw [HX.out, HY.out, HJ0.out]
    rcases o3 with ⟨rfl, h⟩ | ⟨rfl, h⟩
    · rw [h]; rfl
    · rw [h]; rfl
  have HMX : Hid (Mems w X.b X.ms ∧ okU X.bu = true) := by
    show _ ∧ _
    rw [HX.out]
    split
    · exact ⟨HBX.out.2, o2⟩
    · exact ⟨HBX.out.1, o1⟩
  have HMY : Hid (Mems w Y.b Y.ms ∧ okU Y.bu = true) := by
    show _ ∧ _
    rw [HY.out]
    split
    · exact ⟨HBX.out.1, o1⟩
    · exact ⟨HBX.out.2, o2⟩
  have HT : Hid (X.b.ten = x.b.ten ∧ X.b.knd = x.b.knd ∧ X.b.fua = x.b.fua) := by
    show _ ∧ _
    rw [HX.out]
    split
    · exact ⟨o5.symm, o6.symm, o7.symm⟩
    · exact ⟨rfl, rfl, rfl⟩
  have HN3 : Hid (1 ≤ X.b.cnt ∧ X.b.cnt ≤ 128 ∧ Y.b.cnt ≤ 128 - X.b.cnt ∧ 1 ≤ Y.b.cnt) := by
    show _ ∧ _
    have h1 : x.b.cnt + y.b.cnt ≤ 128 := o4
    have h2 : 1 ≤ x.b.cnt := (okU_range o1).2.2.1
    have h3 : 1 ≤ y.b.cnt := (okU_range o2).2.2.1
    rw [HX.out, HY.out]
    split <;> omega
  have o8 : how = 1 ∨ how = 2 := o3.elim (fun h => .inl h.1) (fun h => .inr h.1)
  clear o1 o2 o3 o4 o5 o6 o7 hx hy hc h0 HJ0 HBX
  obtain ⟨⟨i1, t1, k1, s1, n1, d1, f1, a1, l1, c1, m1⟩, ms1⟩ := x
  obtain ⟨⟨i2, t2, k2, s2, n2, d2, f2, a2, l2, c2, m2⟩, ms2⟩ := y
  simp only at HC ⊢
  obtain ⟨W0, HW0⟩ : ∃ W0, Hid (W0 = ((w.alloc (.cells #[.int .i64 i1, .int .i64 t1, .int .i64 k1, .int .i64 s1, .int .i64 n1, .string d1, .bool f1, .slice a1 l1 c1, .int .i64 m1] 44)).alloc (.cells #[.int .i64 i2, .int .i64 t2, .int .i64 k2, .int .i64 s2, .int .i64 n2, .string d2, .bool f2, .slice a2 l2 c2, .int .i64 m2] 44)).alloc (.cells #[.int .i64 0, .int .i64 0, .int .i64 0, .int .i64 0, .int .i64 0, .string ⟨#[]⟩, .bool false, .slice none 0 0, .int .i64 0] 44)) := ⟨_, rfl⟩
  have hA : AtF W0 w.heap.size [.int .i64 i1, .int .i64 t1, .int .i64 k1, .int .i64 s1, .int .i64 n1, .string d1, .bool f1, .slice a1 l1 c1, .int .i64 m1] := by rw [HW0.out]; exact ((AtF.new_at rfl _ _).alloc _).alloc _
  have hB : AtF W0 (w.heap.size + 1) [.int .i64 i2, .int .i64 t2, .int .i64 k2, .int .i64 s2, .int .i64 n2, .string d2, .bool f2, .slice a2 l2 c2, .int .i64 m2] := by rw [HW0.out]; exact (AtF.new_at (by simp) _ _).alloc _
  have hR : AtF W0 (w.heap.size + 1 + 1) [.int .i64 0, .int .i64 0, .int .i64 0, .int .i64 0, .int .i64 0, .string ⟨#[]⟩, .bool false, .slice none 0 0, .int .i64 0] := by rw [HW0.out]; exact AtF.new_at (by simp) _ _
  have hbW : Bel w W0 := by rw [HW0.out]; exact bI
  have HBO : Hid (((how = 1 ∧ X = ⟨⟨i1, t1, k1, s1, n1, d1, f1, a1, l1, c1, m1⟩, ms1⟩) ∧ Y = ⟨⟨i2, t2, k2, s2, n2, d2, f2, a2, l2, c2, m2⟩, ms2⟩) ∨ ((how = 2 ∧ X = ⟨⟨i2, t2, k2, s2, n2, d2, f2, a2, l2, c2, m2⟩, ms2⟩) ∧ Y = ⟨⟨i1, t1, k1, s1, n1, d1, f1, a1, l1, c1, m1⟩, ms1⟩)) := by
    show _ ∨ _
    rcases o8 with rfl | rfl
    · exact .inl ⟨⟨rfl, by rw [HX.out, if_neg (by decide)]⟩, by rw [HY.out, if_neg (by decide)]⟩
    · exact .inr ⟨⟨rfl, by rw [HX.out, if_pos rfl]⟩, by rw [HY.out, if_pos rfl]⟩
  have HOW := Lib.hid o8
  clear o8 HX HY
  go_enter Tryz.func34, Tryz.ntmps34
  go_upto_region 1 with fail
  rw [← HW0.out]
  go_cut [25] (fun v wx => v = .bool false ∧ AtF wx w.heap.size [.int .i64 i1, .int .i64 t1, .int .i64 k1, .int .i64 s1, .int .i64 n1, .string d1, .bool f1, .slice a1 l1 c1, .int .i64 m1] ∧ AtF wx (w.heap.size + 1) [.int .i64 i2, .int .i64 t2, .int .i64 k2, .int .i64 s2, .int .i64 n2, .string d2, .bool f2, .slice a2 l2 c2, .int .i64 m2] ∧ AtF wx (w.heap.size + 1 + 1) [.int .i64 0, .int .i64 0, .int .i64 0, .int .i64 0, .int .i64 0, .string ⟨#[]⟩, .bool false, .slice none 0 0, .int .i64 0] ∧ Bel w wx)
  case first =>
    rcases HOW.out with rfl | rfl
    · skip
      have p0 := (hA).1.2 0 _ rfl
      have p1 := (hA).1.2 1 _ rfl
      have p2 := (hA).1.2 2 _ rfl
      have p3 := (hA).1.2 3 _ rfl
      have p4 := (hA).1.2 4 _ rfl
      have p5 := (hA).1.2 5 _ rfl
      have p6 := (hA).1.2 6 _ rfl
      have p7 := (hA).1.2 7 _ rfl
      have p8 := (hA).1.2 8 _ rfl
      have q0 := (hB).1.2 0 _ rfl
      have q1 := (hB).1.2 1 _ rfl
      have q2 := (hB).1.2 2 _ rfl
      have q3 := (hB).1.2 3 _ rfl
      have q4 := (hB).1.2 4 _ rfl
      have q5 := (hB).1.2 5 _ rfl
      have q6 := (hB).1.2 6 _ rfl
      have q7 := (hB).1.2 7 _ rfl
      have q8 := (hB).1.2 8 _ rfl
      go_wp2_with fail
      refine (HC.out _ hbW).mono ?_; rintro e w1 ⟨rfl, hb1⟩
      clear p0 p1 p2 p3 p4 p5 p6 p7 p8 q0 q1 q2 q3 q4 q5 q6 q7 q8
      go_wp2_with fail
      go_meet
      exact ⟨rfl, hA.bel hb1, hB.bel hb1, hR.bel hb1, hbW.trans hb1⟩
    · skip
      have p0 := (hA).1.2 0 _ rfl
      have p1 := (hA).1.2 1 _ rfl
      have p2 := (hA).1.2 2 _ rfl
      have p3 := (hA).1.2 3 _ rfl
      have p4 := (hA).1.2 4 _ rfl
      have p5 := (hA).1.2 5 _ rfl
      have p6 := (hA).1.2 6 _ rfl
      have p7 := (hA).1.2 7 _ rfl
      have p8 := (hA).1.2 8 _ rfl
      have q0 := (hB).1.2 0 _ rfl
      have q1 := (hB).1.2 1 _ rfl
      have q2 := (hB).1.2 2 _ rfl
      have q3 := (hB).1.2 3 _ rfl
      have q4 := (hB).1.2 4 _ rfl
      have q5 := (hB).1.2 5 _ rfl
      have q6 := (hB).1.2 6 _ rfl
      have q7 := (hB).1.2 7 _ rfl
      have q8 := (hB).1.2 8 _ rfl
      go_wp2_with fail
      refine (HC.out _ hbW).mono ?_; rintro e w1 ⟨rfl, hb1⟩
      clear p0 p1 p2 p3 p4 p5 p6 p7 p8 q0 q1 q2 q3 q4 q5 q6 q7 q8
      go_wp2_with fail
      go_meet
      exact ⟨rfl, hA.bel hb1, hB.bel hb1, hR.bel hb1, hbW.trans hb1⟩
  case rest =>
    clear hA hB hR hbW
    obtain ⟨rfl, hA, hB, hR, hbw⟩ := hcut
    obtain ⟨w1, rfl⟩ : ∃ x, x = wc := ⟨_, rfl⟩
    go_upto_region 3 with fail
    go_cut [7, 8] (fun u v wx => ∃ XB YB : Nat, u = .pointer (some ⟨XB, 0, none⟩) ∧ v = .pointer (some ⟨YB, 0, none⟩) ∧ XB ≠ YB ∧ w1.heap.size ≤ XB ∧ w1.heap.size ≤ YB ∧ AtF wx XB [.int .i64 i1, .int .i64 t1, .int .i64 k1, .int .i64 s1, .int .i64 n1, .string d1, .bool f1, .slice a1 l1 c1, .int .i64 m1] ∧ AtF wx YB [.int .i64 i2, .int .i64 t2, .int .i64 k2, .int .i64 s2, .int .i64 n2, .string d2, .bool f2, .slice a2 l2 c2, .int .i64 m2] ∧ Bel w1 wx)
    case first =>
      have p0 := (hA).1.2 0 _ rfl
      have p1 := (hA).1.2 1 _ rfl
      have p2 := (hA).1.2 2 _ rfl
      have p3 := (hA).1.2 3 _ rfl
      have p4 := (hA).1.2 4 _ rfl
      have p5 := (hA).1.2 5 _ rfl
      have p6 := (hA).1.2 6 _ rfl
      have p7 := (hA).1.2 7 _ rfl
      have p8 := (hA).1.2 8 _ rfl
      have q0 := (hB).1.2 0 _ rfl
      have q1 := (hB).1.2 1 _ rfl
      have q2 := (hB).1.2 2 _ rfl
      have q3 := (hB).1.2 3 _ rfl
      have q4 := (hB).1.2 4 _ rfl
      have q5 := (hB).1.2 5 _ rfl
      have q6 := (hB).1.2 6 _ rfl
      have q7 := (hB).1.2 7 _ rfl
      have q8 := (hB).1.2 8 _ rfl
      have r0 := fun d os => cell_regrown p0 d os
      have r1 := fun d os => cell_regrown p1 d os
      have r2 := fun d os => cell_regrown p2 d os
      have r3 := fun d os => cell_regrown p3 d os
      have r4 := fun d os => cell_regrown p4 d os
      have r5 := fun d os => cell_regrown p5 d os
      have r6 := fun d os => cell_regrown p6 d os
      have r7 := fun d os => cell_regrown p7 d os
      have r8 := fun d os => cell_regrown p8 d os
      have u0 := fun d os => cell_regrown q0 d os
      have u1 := fun d os => cell_regrown q1 d os
      have u2 := fun d os => cell_regrown q2 d os
      have u3 := fun d os => cell_regrown q3 d os
      have u4 := fun d os => cell_regrown q4 d os
      have u5 := fun d os => cell_regrown q5 d os
      have u6 := fun d os => cell_regrown q6 d os
      have u7 := fun d os => cell_regrown q7 d os
      have u8 := fun d os => cell_regrown q8 d os
      clear p0 p1 p2 p3 p4 p5 p6 p7 p8 q0 q1 q2 q3 q4 q5 q6 q7 q8
      refine wp_region_st [2, 3, 4, 5] 6 (by kernel_rfl) (by kernel_rfl) ?_
      with_reducible refine st_sel [0, 1] (by kernel_rfl) (by kernel_rfl) ?_
      simp only [picked, List.getElem?_cons_succ, List.getElem?_cons_zero, Option.toList_some, List.nil_append, List.cons_append, List.append_nil]
      try simp only [Act.put, List.setIfInBounds_toArray, List.set_cons_succ, List.set_cons_zero]
      repeat (go_big_quiet_step (fail))
      with_reducible refine wpQuiet_nil ?_
      refine st_branch [2, 3] (by kernel_rfl) (branch_cons (by simp only [List.getElem?_toArray, List.getElem?_cons_succ, List.getElem?_cons_zero]; rfl) ?_ (branch_cons (by simp only [List.getElem?_toArray, List.getElem?_cons_succ, List.getElem?_cons_zero]; rfl) ?_ branch_nil))
      · skip
        refine eff_made rfl (by simp [go_sem]; exact ⟨rfl, rfl⟩) bI ?_
        try simp only [List.nil_append, List.cons_append, Act.put, List.setIfInBounds_toArray, List.set_cons_succ, List.set_cons_zero]
        refine st_branch [3] (by kernel_rfl) (branch_cons (by simp only [List.getElem?_toArray, List.getElem?_cons_succ, List.getElem?_cons_zero]; rfl) ?_ branch_nil)
        refine eff_made rfl (by simp [go_sem]; exact ⟨rfl, rfl⟩) bI ?_
        try simp only [List.nil_append, List.cons_append, Act.put, List.setIfInBounds_toArray, List.set_cons_succ, List.set_cons_zero]
        refine st_branch [4] (by kernel_rfl) (branch_cons (by simp only [List.getElem?_toArray, List.getElem?_cons_succ, List.getElem?_cons_zero]; rfl) ?_ branch_nil)
        refine eff_done rfl (by simp [go_sem]; rfl) bI ?_
        try simp only [List.nil_append, List.cons_append, Act.put, List.setIfInBounds_toArray, List.set_cons_succ, List.set_cons_zero]
        refine st_branch [5] (by kernel_rfl) (branch_cons (by simp only [List.getElem?_toArray, List.getElem?_cons_succ, List.getElem?_cons_zero]; rfl) ?_ branch_nil)
        refine eff_done rfl (by simp [go_sem]; rfl) bI ?_
        try simp only [List.nil_append, List.cons_append, Act.put, List.setIfInBounds_toArray, List.set_cons_succ, List.set_cons_zero]
        refine st_end (by kernel_rfl) ?_
        simp only [List.drop_succ_cons, List.drop_zero, List.drop_nil]
        go_wp2_with fail
        go_meet
        exact ⟨_, _, rfl, rfl, by omega, by omega, by omega, ((AtF.new_at rfl _ _).alloc _).drew, (AtF.new_at (by simp) _ _).drew, bI⟩
      · skip
        refine eff_made rfl (by simp [go_sem]; exact ⟨rfl, rfl⟩) bI ?_
        try simp only [List.nil_append, List.cons_append, Act.put, List.setIfInBounds_toArray, List.set_cons_succ, List.set_cons_zero]
        refine st_branch [2] (by kernel_rfl) (branch_cons (by simp only [List.getElem?_toArray, List.getElem?_cons_succ, List.getElem?_cons_zero]; rfl) ?_ branch_nil)
        refine eff_made rfl (by simp [go_sem]; exact ⟨rfl, rfl⟩) bI ?_
        try simp only [List.nil_append, List.cons_append, Act.put, List.setIfInBounds_toArray, List.set_cons_succ, List.set_cons_zero]
        refine st_branch [4] (by kernel_rfl) (branch_cons (by simp only [List.getElem?_toArray, List.getElem?_cons_succ, List.getElem?_cons_zero]; rfl) ?_ branch_nil)
        refine eff_done rfl (by simp [go_sem]; rfl) bI ?_
        try simp only [List.nil_append, List.cons_append, Act.put, List.setIfInBounds_toArray, List.set_cons_succ, List.set_cons_zero]
        refine st_branch [5] (by kernel_rfl) (branch_cons (by simp only [List.getElem?_toArray, List.getElem?_cons_succ, List.getElem?_cons_zero]; rfl) ?_ branch_nil)
        refine eff_done rfl (by simp [go_sem]; rfl) bI ?_
        try simp only [List.nil_append, List.cons_append, Act.put, List.setIfInBounds_toArray, List.set_cons_succ, List.set_cons_zero]
        refine st_end (by kernel_rfl) ?_
        simp only [List.drop_succ_cons, List.drop_zero, List.drop_nil]
        go_wp2_with fail
        go_meet
        exact ⟨_, _, rfl, rfl, by omega, by omega, by omega, (AtF.new_at (by simp) _ _).drew, ((AtF.new_at rfl _ _).alloc _).drew, bI⟩
    case rest =>
      obtain ⟨XB, YB, rfl, rfl, hXY, hX1, hY1, hXA, hYA, hb2⟩ := hcut
      have hA2 := hA.bel hb2
      have hB2 := hB.bel hb2
      have hR2 := hR.bel hb2
      have hbw2 := hbw.trans hb2
      have hR1l := hR.1.1
      have hXl := hXA.1.1
      have hYl := hYA.1.1
      clear hA hB hR hbw hb2
      obtain ⟨w2, rfl⟩ : ∃ x, x = wc := ⟨_, rfl⟩
      go_upto_if 30 with fail
      go_cut [30] (fun _ wx => AtF wx XB [.int .i64 (X.b).id, .int .i64 (X.b).ten, .int .i64 (X.b).knd, .int .i64 (X.b).sec, .int .i64 (X.b).cnt, .string (X.b).dat, .bool (X.b).fua, .slice (X.b).mA (X.b).mL (X.b).mC, .int .i64 (X.b).tim] ∧ AtF wx YB [.int .i64 (Y.b).id, .int .i64 (Y.b).ten, .int .i64 (Y.b).knd, .int .i64 (Y.b).sec, .int .i64 (Y.b).cnt, .string (Y.b).dat, .bool (Y.b).fua, .slice (Y.b).mA (Y.b).mL (Y.b).mC, .int .i64 (Y.b).tim] ∧ AtF wx w.heap.size [.int .i64 i1, .int .i64 t1, .int .i64 k1, .int .i64 s1, .int .i64 n1, .string d1, .bool f1, .slice a1 l1 c1, .int .i64 m1] ∧ AtF wx (w.heap.size + 1) [.int .i64 i2, .int .i64 t2, .int .i64 k2, .int .i64 s2, .int .i64 n2, .string d2, .bool f2, .slice a2 l2 c2, .int .i64 m2] ∧ AtF wx (w.heap.size + 1 + 1) [.int .i64 0, .int .i64 0, .int .i64 0, .int .i64 0, .int .i64 0, .string ⟨#[]⟩, .bool false, .slice none 0 0, .int .i64 0] ∧ Bel w wx)
      case first =>
        rcases HBO.out with ⟨⟨rfl, EX⟩, EY⟩ | ⟨⟨rfl, EX⟩, EY⟩
        · go_wp2_with fail
          go_meet
          rw [EX, EY]
          exact ⟨hXA, hYA, hA2, hB2, hR2, hbw2⟩
        · clear HMX HMY HN3 HT
          go_wp2_with fail
          have hY3 := (hYA.drew).setRow_other (B := XB) (i := 0) [.int .i64 i2, .int .i64 t2, .int .i64 k2, .int .i64 s2, .int .i64 n2, .string d2, .bool f2, .slice a2 l2 c2, .int .i64 m2] (Ne.symm hXY)
          have hi9 : (Tryz.prog.info? 44).map (·.size) = some 9 := by kernel_rfl
          let RJSS : World → Prop := fun W' => AtF W' w.heap.size [.int .i64 i1, .int .i64 t1, .int .i64 k1, .int .i64 s1, .int .i64 n1, .string d1, .bool f1, .slice a1 l1 c1, .int .i64 m1] ∧ AtF W' (w.heap.size + 1) [.int .i64 i2, .int .i64 t2, .int .i64 k2, .int .i64 s2, .int .i64 n2, .string d2, .bool f2, .slice a2 l2 c2, .int .i64 m2]
          haveI nnS : Nonempty (InS RJSS) := ⟨⟨w2, hA2, hB2⟩⟩
          have ra0 := fun (p : InS RJSS) => p.h.1.1.2 0 _ rfl
          have ra1 := fun (p : InS RJSS) => p.h.1.1.2 1 _ rfl
          have ra2 := fun (p : InS RJSS) => p.h.1.1.2 2 _ rfl
          have ra3 := fun (p : InS RJSS) => p.h.1.1.2 3 _ rfl
          have ra4 := fun (p : InS RJSS) => p.h.1.1.2 4 _ rfl
          have ra5 := fun (p : InS RJSS) => p.h.1.1.2 5 _ rfl
          have ra6 := fun (p : InS RJSS) => p.h.1.1.2 6 _ rfl
          have ra7 := fun (p : InS RJSS) => p.h.1.1.2 7 _ rfl
          have ra8 := fun (p : InS RJSS) => p.h.1.1.2 8 _ rfl
          have rb0 := fun (p : InS RJSS) => p.h.2.1.2 0 _ rfl
          have rb1 := fun (p : InS RJSS) => p.h.2.1.2 1 _ rfl
          have rb2 := fun (p : InS RJSS) => p.h.2.1.2 2 _ rfl
          have rb3 := fun (p : InS RJSS) => p.h.2.1.2 3 _ rfl
          have rb4 := fun (p : InS RJSS) => p.h.2.1.2 4 _ rfl
          have rb5 := fun (p : InS RJSS) => p.h.2.1.2 5 _ rfl
          have rb6 := fun (p : InS RJSS) => p.h.2.1.2 6 _ rfl
          have rb7 := fun (p : InS RJSS) => p.h.2.1.2 7 _ rfl
          have rb8 := fun (p : InS RJSS) => p.h.2.1.2 8 _ rfl
          refine wp_region_sts RJSS [2, 3] 4 (by kernel_rfl) (by kernel_rfl) ?hS0 ?_
          case hS0 => exact ⟨hA2.drew, hB2.drew⟩
          with_reducible refine st_sel [0, 1] (by kernel_rfl) (by kernel_rfl) ?_
          simp only [picked, List.getElem?_cons_succ, List.getElem?_cons_zero, Option.toList_some, List.nil_append, List.cons_append, List.append_nil]
          try simp only [Act.put, List.setIfInBounds_toArray, List.set_cons_succ, List.set_cons_zero]
          repeat (go_big_quiet_step (fail))
          with_reducible refine wpQuiet_nil ?_
          refine st_branch [2] (by kernel_rfl) (branch_cons (by simp only [List.getElem?_toArray, List.getElem?_cons_succ, List.getElem?_cons_zero]; rfl) ?_ branch_nil)
          refine eff_done_s rfl (exec_store_at (vs := [.int .i64 i2, .int .i64 t2, .int .i64 k2, .int .i64 s2, .int .i64 n2, .string d2, .bool f2, .slice a2 l2 c2, .int .i64 m2]) 44 (.tmp 7) (.tmp 31) rfl rfl rfl hXA.drew rfl (cell9_one _ _ _ _ _ _ _ _ _ _ _) hi9) ?hS1 ?_
          case hS1 => exact ⟨(hA2.drew).setRow_other (B := XB) (i := 0) [.int .i64 i2, .int .i64 t2, .int .i64 k2, .int .i64 s2, .int .i64 n2, .string d2, .bool f2, .slice a2 l2 c2, .int .i64 m2] (by omega), (hB2.drew).setRow_other (B := XB) (i := 0) [.int .i64 i2, .int .i64 t2, .int .i64 k2, .int .i64 s2, .int .i64 n2, .string d2, .bool f2, .slice a2 l2 c2, .int .i64 m2] (by omega)⟩
          try simp only [List.nil_append, List.cons_append, Act.put, List.setIfInBounds_toArray, List.set_cons_succ, List.set_cons_zero]
          refine st_branch [3] (by kernel_rfl) (branch_cons (by simp only [List.getElem?_toArray, List.getElem?_cons_succ, List.getElem?_cons_zero]; rfl) ?_ branch_nil)
          generalize hW3 : setRow w2.drew XB 0 [.int .i64 i2, .int .i64 t2, .int .i64 k2, .int .i64 s2, .int .i64 n2, .string d2, .bool f2, .slice a2 l2 c2, .int .i64 m2] = W3
          rw [hW3] at hY3
          have hA3 := hA2.drew.setRow_other (B := XB) (i := 0) [.int .i64 i2, .int .i64 t2, .int .i64 k2, .int .i64 s2, .int .i64 n2, .string d2, .bool f2, .slice a2 l2 c2, .int .i64 m2] (by omega)
          have hB3 := hB2.drew.setRow_other (B := XB) (i := 0) [.int .i64 i2, .int .i64 t2, .int .i64 k2, .int .i64 s2, .int .i64 n2, .string d2, .bool f2, .slice a2 l2 c2, .int .i64 m2] (by omega)
          have hR3 := hR2.drew.setRow_other (B := XB) (i := 0) [.int .i64 i2, .int .i64 t2, .int .i64 k2, .int .i64 s2, .int .i64 n2, .string d2, .bool f2, .slice a2 l2 c2, .int .i64 m2] (by omega)
          have hX3 := hXA.drew.setRow [.int .i64 i2, .int .i64 t2, .int .i64 k2, .int .i64 s2, .int .i64 n2, .string d2, .bool f2, .slice a2 l2 c2, .int .i64 m2] rfl
          have hb3 : Bel w (setRow w2.drew XB 0 [.int .i64 i2, .int .i64 t2, .int .i64 k2, .int .i64 s2, .int .i64 n2, .string d2, .bool f2, .slice a2 l2 c2, .int .i64 m2]) := Bel.setRow _ hbw2.drew (by omega)
          rw [hW3] at hA3 hB3 hR3 hX3 hb3
          clear hW3
          with_reducible refine eff_done_s (w' := setRow W3 YB 0 [.int .i64 i1, .int .i64 t1, .int .i64 k1, .int .i64 s1, .int .i64 n1, .string d1, .bool f1, .slice a1 l1 c1, .int .i64 m1]) ?hq1 ?hq2 ?hS1 ?hq3
          case hq1 => rfl
          case hq2 => exact exec_store_at (vs := [.int .i64 i1, .int .i64 t1, .int .i64 k1, .int .i64 s1, .int .i64 n1, .string d1, .bool f1, .slice a1 l1 c1, .int .i64 m1]) 44 (.tmp 8) (.tmp 32) rfl rfl rfl hY3 rfl (cell9_one _ _ _ _ _ _ _ _ _ _ _) hi9
          case hS1 => exact ⟨hA3.setRow_other (B := YB) (i := 0) [.int .i64 i1, .int .i64 t1, .int .i64 k1, .int .i64 s1, .int .i64 n1, .string d1, .bool f1, .slice a1 l1 c1, .int .i64 m1] (by omega), hB3.setRow_other (B := YB) (i := 0) [.int .i64 i1, .int .i64 t1, .int .i64 k1, .int .i64 s1, .int .i64 n1, .string d1, .bool f1, .slice a1 l1 c1, .int .i64 m1] (by omega)⟩
          try simp only [List.nil_append, List.cons_append, Act.put, List.setIfInBounds_toArray, List.set_cons_succ, List.set_cons_zero]
          refine st_end (by kernel_rfl) ?_
          simp only [List.drop_succ_cons, List.drop_zero, List.drop_nil]
          have hA4 := hA3.setRow_other (B := YB) (i := 0) [.int .i64 i1, .int .i64 t1, .int .i64 k1, .int .i64 s1, .int .i64 n1, .string d1, .bool f1, .slice a1 l1 c1, .int .i64 m1] (by omega)
          have hB4 := hB3.setRow_other (B := YB) (i := 0) [.int .i64 i1, .int .i64 t1, .int .i64 k1, .int .i64 s1, .int .i64 n1, .string d1, .bool f1, .slice a1 l1 c1, .int .i64 m1] (by omega)
          have hR4 := hR3.setRow_other (B := YB) (i := 0) [.int .i64 i1, .int .i64 t1, .int .i64 k1, .int .i64 s1, .int .i64 n1, .string d1, .bool f1, .slice a1 l1 c1, .int .i64 m1] (by omega)
          have hX4 := hX3.setRow_other (B := YB) (i := 0) [.int .i64 i1, .int .i64 t1, .int .i64 k1, .int .i64 s1, .int .i64 n1, .string d1, .bool f1, .slice a1 l1 c1, .int .i64 m1] hXY
          have hY4 := hY3.setRow [.int .i64 i1, .int .i64 t1, .int .i64 k1, .int .i64 s1, .int .i64 n1, .string d1, .bool f1, .slice a1 l1 c1, .int .i64 m1] rfl
          have hb4 : Bel w (setRow W3 YB 0 [.int .i64 i1, .int .i64 t1, .int .i64 k1, .int .i64 s1, .int .i64 n1, .string d1, .bool f1, .slice a1 l1 c1, .int .i64 m1]) := Bel.setRow _ hb3 (by omega)
          generalize hW4 : setRow W3 YB 0 [.int .i64 i1, .int .i64 t1, .int .i64 k1, .int .i64 s1, .int .i64 n1, .string d1, .bool f1, .slice a1 l1 c1, .int .i64 m1] = W4
          rw [hW4] at hA4 hB4 hR4 hX4 hY4 hb4
          clear hW4
          go_wp2_with fail
          go_meet
          rw [EX, EY]
          exact ⟨hX4, hY4, hA4, hB4, hR4, hb4⟩
      case rest =>
        clear hXA hYA hA2 hB2 hR2 hbw2 hX1 hY1 HOW HC HBO HW0
        obtain ⟨hXA, hYA, hA, hB, hR, hbc⟩ := hcut
        obtain ⟨⟨i3, t3, k3, s3, n3, d3, f3, a3, l3, c3, m3⟩, ms3⟩ := X
        obtain ⟨⟨i4, t4, k4, s4, n4, d4, f4, a4, l4, c4, m4⟩, ms4⟩ := Y
        simp only at hXA hYA
        obtain ⟨⟨hl3, hr3, hi3, -⟩, ho3⟩ := HMX.out
        obtain ⟨⟨hl4, hr4, hi4, -⟩, ho4⟩ := HMY.out
        simp only at hl3 hr3 hi3 hl4 hr4 hi4
        subst hl3 hl4
        have HS3 := Lib.hid (ok_small ho3)
        have HS4 := Lib.hid (ok_small ho4)
        have hpos : 0 < ms3.length := by
          have h1 := okU_range ho3
          obtain ⟨_, _, h2⟩ := okU_parts.1 ho3
          rw [memOk_iff] at h2
          obtain ⟨_, _, h3, _⟩ := h2
          have h3' : 0 + msum ms3 = n3 := h3
          have h1' : 1 ≤ n3 := h1.2.2.1
          cases ms3 with
          | nil => simp [msum] at h3'; omega
          | cons m l => simp
        obtain ⟨b3, o3, c3', hv3, hlb3, hcell3⟩ := hr3.at hpos
        injection hv3 with hv3 _ hv4
        subst hv3 hv4
        have HR4 := Lib.hid hr4
        have HI := Lib.hid (And.intro hi3 hi4)
        have HC3 := Lib.hid hcell3
        obtain ⟨n, Hn⟩ : ∃ n, Hid (n = ms3.length) := ⟨_, rfl⟩
        obtain ⟨n', Hn'⟩ : ∃ n, Hid (n = ms4.length) := ⟨_, rfl⟩
        rw [← Hn.out] at hXA hpos
        rw [← Hn'.out] at HR4 hYA
        clear hr3 hi3 hr4 hi4 ho3 ho4 HMX HMY hcell3
        obtain ⟨ni, Hni⟩ : ∃ n : Int, Hid (n = if i2 < i1 then i2 else i1) := ⟨_, rfl⟩
        obtain ⟨nt, Hnt⟩ : ∃ n : Int, Hid (n = if m2 < m1 then m2 else m1) := ⟨_, rfl⟩
        obtain ⟨b2, b3x, b4, b5⟩ : 1 ≤ n3 ∧ n3 ≤ 128 ∧ n4 ≤ 128 - n3 ∧ 1 ≤ n4 := HN3.out
        have hds : d3.size + d4.size ≤ maxLen := by
          have h1 : d3.size ≤ 1024 := HS3.out.2.2
          have h2 : d4.size ≤ 1024 := HS4.out.2.2
          unfold maxLen; omega
        have hds2 : ¬ 9223372036854775807 < d3.size + d4.size := by unfold maxLen at hds; omega
        have hw34 : IntKind.i64.wrap (n3 + n4) = n3 + n4 := IntWalk.i64_in _ (by omega)
        obtain ⟨dd, HDD⟩ : ∃ d, Hid (d = d3 ++ d4) := ⟨_, rfl⟩
        have hadd : ∀ W, (Op.stringOp .add d3 d4).run Tryz.prog W = .ok (.string dd) W := fun W => by
          rw [run_string_add_sum W d3 d4 (by unfold maxLen at hds; omega), HDD.out]
        have p0 := (hA).1.2 0 _ rfl
        have p1 := (hA).1.2 1 _ rfl
        have p2 := (hA).1.2 2 _ rfl
        have p3 := (hA).1.2 3 _ rfl
        have p4 := (hA).1.2 4 _ rfl
        have p5 := (hA).1.2 5 _ rfl
        have p6 := (hA).1.2 6 _ rfl
        have p7 := (hA).1.2 7 _ rfl
        have p8 := (hA).1.2 8 _ rfl
        have q0 := (hB).1.2 0 _ rfl
        have q1 := (hB).1.2 1 _ rfl
        have q2 := (hB).1.2 2 _ rfl
        have q3 := (hB).1.2 3 _ rfl
        have q4 := (hB).1.2 4 _ rfl
        have q5 := (hB).1.2 5 _ rfl
        have q6 := (hB).1.2 6 _ rfl
        have q7 := (hB).1.2 7 _ rfl
        have q8 := (hB).1.2 8 _ rfl
        have x0 := (hXA).1.2 0 _ rfl
        have x1 := (hXA).1.2 1 _ rfl
        have x2 := (hXA).1.2 2 _ rfl
        have x3 := (hXA).1.2 3 _ rfl
        have x4 := (hXA).1.2 4 _ rfl
        have x5 := (hXA).1.2 5 _ rfl
        have x6 := (hXA).1.2 6 _ rfl
        have x7 := (hXA).1.2 7 _ rfl
        have x8 := (hXA).1.2 8 _ rfl
        have y0 := (hYA).1.2 0 _ rfl
        have y1 := (hYA).1.2 1 _ rfl
        have y2 := (hYA).1.2 2 _ rfl
        have y3 := (hYA).1.2 3 _ rfl
        have y4 := (hYA).1.2 4 _ rfl
        have y5 := (hYA).1.2 5 _ rfl
        have y6 := (hYA).1.2 6 _ rfl
        have y7 := (hYA).1.2 7 _ rfl
        have y8 := (hYA).1.2 8 _ rfl
        have hOs : w.heap.size + 1 + 1 < wc.heap.size := hR.1.1
        have hXs : XB < wc.heap.size := hXA.1.1
        have hYs : YB < wc.heap.size := hYA.1.1
        have hbs := hbc.size
        have hni : (if i2 < i1 then i2 else i1) = ni := Hni.out.symm
        have hnt : (if m2 < m1 then m2 else m1) = nt := Hnt.out.symm
        have hO := AtF.new_at (w := wc) rfl 44 [.int .i64 ni, .int .i64 t1, .int .i64 k1, .int .i64 s3, .int .i64 (n3 + n4), .string dd, .bool f1, .slice none 0 0, .int .i64 nt]
        have hX5 := hXA.alloc (.cells [.int .i64 ni, .int .i64 t1, .int .i64 k1, .int .i64 s3, .int .i64 (n3 + n4), .string dd, .bool f1, .slice none 0 0, .int .i64 nt].toArray 44)
        have hY5 := hYA.alloc (.cells [.int .i64 ni, .int .i64 t1, .int .i64 k1, .int .i64 s3, .int .i64 (n3 + n4), .string dd, .bool f1, .slice none 0 0, .int .i64 nt].toArray 44)
        have hR5 := hR.alloc (.cells [.int .i64 ni, .int .i64 t1, .int .i64 k1, .int .i64 s3, .int .i64 (n3 + n4), .string dd, .bool f1, .slice none 0 0, .int .i64 nt].toArray 44)
        have hb5 := hbc.alloc (.cells [.int .i64 ni, .int .i64 t1, .int .i64 k1, .int .i64 s3, .int .i64 (n3 + n4), .string dd, .bool f1, .slice none 0 0, .int .i64 nt].toArray 44)
        simp only [List.toArray] at hO hX5 hY5 hR5 hb5
        have hO1 : (wc.alloc (.cells #[.int .i64 ni, .int .i64 t1, .int .i64 k1, .int .i64 s3, .int .i64 (n3 + n4), .string dd, .bool f1, .slice none 0 0, .int .i64 nt] 44)).heap.size = wc.heap.size + 1 := by simp
        go_upto_region 7 with fail
        clear x0 x1 x2 x3 x4 x5 x6 x7 x8 y0 y1 y2 y3 y4 y5 y6 y7 y8 p0 p1 p2 p3 p4 p5 p6 p7 p8 q0 q1 q2 q3 q4 q5 q6 q7 q8 hni hnt hadd hw34 hXA hYA hA hB hR hbc
        generalize wc.alloc (.cells #[.int .i64 ni, .int .i64 t1, .int .i64 k1, .int .i64 s3, .int .i64 (n3 + n4), .string dd, .bool f1, .slice none 0 0, .int .i64 nt] 44) = w5 at *
        generalize wc.heap.size = O at *
        obtain ⟨i0, hi, hz0, hz1, hz2⟩ := info_parts Tryz.infoMem
        have x7 := hX5.1.2 7 _ rfl
        have o7 := hO.1.2 7 _ rfl
        have of := hO.2 7
        have ol := hO.1.1
        have hnews : ∀ j u, (mcells ms3)[j]? = some u → w5.cell? ((⟨b3, o3, none⟩ : Addr).add j) = some u := fun j u hu => by
          rw [Addr.add_lit, hb5.cellAt _ _ hlb3]
          exact HC3.out j u hu
        have hone : ∀ u ∈ mcells ms3, u.oneCell' = true := flat_one (f := Mem.cells) (fun m u hu => by simp [Mem.cells] at hu; rcases hu with rfl | rfl | rfl <;> rfl) ms3
        have hml : (mcells ms3).length = n * 3 := by rw [mcells_len, Hn.out]
        have hn128 : n ≤ 128 := by rw [Hn.out]; exact HS3.out.1
        go_wp2_with (at_builtin; go_must (refine wpList_append_own_at _ rfl _ _ 42 rfl (O + 1) 93 i0 _ 3 24 Tryz.underlying42 hi hz0 hz1 hz2 rfl (by omega) (.slice none 0 0) 0 [] rfl ⟨rfl, Or.inl ⟨rfl, rfl⟩⟩ ⟨b3, o3, none⟩ n _ (mcells ms3) rfl hml hnews hone (by unfold maxLen; omega) (by omega) (by omega) ?_); intro v' w6 hown hg _ hloc; obtain ⟨gn, cn, hvn, _, _⟩ := hown.form (by omega); subst hvn; have hO6 := hO.grown hg (by simp [Value.ownBlock]); have o67 := hO6.1.2 7 _ rfl; have o6f := hO6.2 7; have o6l := hO6.1.1)
        have hown4 : (w6.setCell ⟨O, 7, none⟩ (.slice (some ⟨gn, 0, none⟩) n cn)).ownsRow (O + 1) 93 3 (.slice (some ⟨gn, 0, none⟩) (n + 0) cn) (n + 0) (mcells (ms3 ++ shift n3 (ms4.take 0))) := by
          have h1 := own_other hown (p := ⟨O, 7, none⟩) (by simp) (.slice (some ⟨gn, 0, none⟩) n cn)
          simpa [shift] using h1
        have hO4 := hO6.set 7 (by simp) (.slice (some ⟨gn, 0, none⟩) (n + 0) cn)
        have hX4 := (hX5.grown hg (by simp [Value.ownBlock])).other (C := O) (by omega) 7 (.slice (some ⟨gn, 0, none⟩) n cn)
        have hY4 := (hY5.grown hg (by simp [Value.ownBlock])).other (C := O) (by omega) 7 (.slice (some ⟨gn, 0, none⟩) n cn)
        have hR4 := (hR5.grown hg (by simp [Value.ownBlock])).other (C := O) (by omega) 7 (.slice (some ⟨gn, 0, none⟩) n cn)
        have hbw6 : Bel w w6 := bel_own hb5 (base := O + 1) (e := 93) (size := 3) (v := .slice none 0 0) (n := 0) (xs := []) ⟨rfl, Or.inl ⟨rfl, rfl⟩⟩ hg (by omega)
        have hbw4 : Bel w (w6.setCell ⟨O, 7, none⟩ (.slice (some ⟨gn, 0, none⟩) n cn)) := hbw6.setNew (by show w.heap.size ≤ O; omega) _
        have HAT := Lib.hid (fun k m (hk : ms4[k]? = some m) => mems_at (c := c4) (by rw [← Hn'.out]; exact HR4.out) hk)
        have HL4 : n' ≤ 128 := by rw [Hn'.out]; exact HS4.out.1
        have HOF := Lib.hid (fun m (hm : m ∈ ms4) => HS4.out.2.1 m hm)
        clear hown hO6 hX5 hY5 hR5 hO hg hb5 o67 o6f o6l x7 o7 of ol hnews hone hml hO1 hbw6
        go_loopw [10] (fun iv wr => ∃ (i : Nat) (A : Option Addr) (cp : Nat), iv = .int .i64 i ∧ i ≤ n' ∧ wr.ownsRow (O + 1) 93 3 (.slice A (n + i) cp) (n + i) (mcells (ms3 ++ shift n3 (ms4.take i))) ∧ AtF wr O [.int .i64 ni, .int .i64 t1, .int .i64 k1, .int .i64 s3, .int .i64 (n3 + n4), .string dd, .bool f1, .slice A (n + i) cp, .int .i64 nt] ∧ AtF wr XB [.int .i64 i3, .int .i64 t3, .int .i64 k3, .int .i64 s3, .int .i64 n3, .string d3, .bool f3, .slice (some ⟨b3, o3, none⟩) n c3, .int .i64 m3] ∧ AtF wr YB [.int .i64 i4, .int .i64 t4, .int .i64 k4, .int .i64 s4, .int .i64 n4, .string d4, .bool f4, .slice a4 n' c4, .int .i64 m4] ∧ AtF wr (w.heap.size + 1 + 1) [.int .i64 0, .int .i64 0, .int .i64 0, .int .i64 0, .int .i64 0, .string ⟨#[]⟩, .bool false, .slice none 0 0, .int .i64 0] ∧ Bel w wr) (fun iv _ => n' - (intOf iv).toNat)
        case atStart => exact ⟨0, _, cn, rfl, by omega, hown4, hO4, hX4, hY4, hR4, hbw4⟩
        case round =>
          clear hown4 hO4 hX4 hY4 hR4 hbw4
          obtain ⟨i, A, cp, rfl, p1, hown, hO, hX, hY, hR, hbr⟩ := hrel
          have a4 := hX.1.2 4 _ rfl
          have al := hX.1.1
          have y7 := hY.1.2 7 _ rfl
          have yl := hY.1.1
          have o7 := hO.1.2 7 _ rfl
          have ol := hO.1.1
          have of7 := hO.2 7
          by_cases hlt : i < n'
          · have i1 : (i : Int) < (n' : Int) := by omega
            obtain ⟨x, hx⟩ : ∃ x, ms4[i]? = some x := ⟨ms4[i]'(by have := Hn'.out; omega), List.getElem?_eq_getElem _⟩
            obtain ⟨b, o, rfl, hlb, hrow⟩ := HAT.out i x hx
            have hrow := hrow.bel hbr hlb
            have d0 := hrow.cell 0 rfl
            have d1 := hrow.cell 1 rfl
            have d2 := hrow.cell 2 rfl
            rw [Nat.add_zero] at d0
            have HX := Lib.hid hx
            obtain ⟨b0, b1⟩ := HOF.out x (List.mem_of_getElem? hx)
            have hbs := hbr.size
            have hlw : b < wr.heap.size := by omega
            clear hx hrow
            have hne := own_ne hown (k := O) (.inl (by omega))
            have hneA := own_ne hown (k := XB) (.inl (by omega))
            have hneB := own_ne hown (k := YB) (.inl (by omega))
            have hneR := own_ne hown (k := w.heap.size + 1 + 1) (.inl (by omega))
            have bw : -9223372036854775808 ≤ x.off + n3 ∧ x.off + n3 < 9223372036854775808 := by omega
            go_wp2_with (at_builtin; go_must (refine wpList_append_own_at _ rfl _ _ 42 rfl (O + 1) 93 i0 _ 3 24 Tryz.underlying42 hi hz0 hz1 hz2 rfl (by omega) (.slice A (n + i) cp) _ _ rfl ((hown.alloc _).alloc _) ⟨wr.heap.size + 1, 0, none⟩ 1 1 (Mem.cells ⟨x.id, x.off + n3, x.cnt⟩) rfl rfl (World.news_of_block (cs := #[.int .i64 x.id, .int .i64 (x.off + n3), .int .i64 x.cnt]) (t := 93) (fr := (0, 0)) (heap_new_at (by simp))) (fun u hu => by simp [Mem.cells] at hu; rcases hu with rfl | rfl | rfl <;> rfl) (by unfold maxLen; omega) (by omega) (by simp; omega) ?_); intro v' w3 hown' hg' _ hloc; obtain ⟨gn, cn, hvn, _, _⟩ := hown'.form (by omega); subst hvn; have hO3 := ((hO.alloc _).alloc _).grown hg' (Ne.symm hne); have og := hO3.2 7; have ok := hO3.1.1; have oc := hO3.1.2 7 _ rfl)
            have hX3 := ((hX.alloc _).alloc _).grown hg' (Ne.symm hneA)
            have hY3 := ((hY.alloc _).alloc _).grown hg' (Ne.symm hneB)
            have hR3 := ((hR.alloc _).alloc _).grown hg' (Ne.symm hneR)
            have hbw3 := bel_own ((hbr.alloc _).alloc _) ((hown.alloc _).alloc _) hg' (by omega)
            have hown5 := own_other hown' (p := ⟨O, 7, none⟩) (by simp) (.slice (some ⟨gn, 0, none⟩) (n + i + 1) cn)
            have hO5 := hO3.set 7 (by simp) (.slice (some ⟨gn, 0, none⟩) (n + i + 1) cn)
            have hX5 := hX3.other (C := O) (by omega) 7 (.slice (some ⟨gn, 0, none⟩) (n + i + 1) cn)
            have hY5 := hY3.other (C := O) (by omega) 7 (.slice (some ⟨gn, 0, none⟩) (n + i + 1) cn)
            have hR5 := hR3.other (C := O) (by omega) 7 (.slice (some ⟨gn, 0, none⟩) (n + i + 1) cn)
            have hbw5 := hbw3.setNew (p := ⟨O, 7, none⟩) (by show w.heap.size ≤ O; omega) (.slice (some ⟨gn, 0, none⟩) (n + i + 1) cn)
            have HTK := Lib.hid (show mcells (ms3 ++ shift n3 (ms4.take (i + 1))) = mcells (ms3 ++ shift n3 (ms4.take i)) ++ Mem.cells ⟨x.id, x.off + n3, x.cnt⟩ from by
              rw [List.take_add_one, HX.out]; simp [shift, mcells])
            go_roundw
            case rel => exact ⟨i + 1, _, _, by go_num, by omega, by rw [HTK.out]; exact hown5, hO5, hX5, hY5, hR5, hbw5⟩
            case measure => simp [intOf]; omega
          · obtain rfl : i = n' := by omega
            have jk : decide ((i : Int) < (i : Int)) = false := by simp
            clear o7 of7
            have o0 := (hO).1.2 0 _ rfl
            have o1 := (hO).1.2 1 _ rfl
            have o2 := (hO).1.2 2 _ rfl
            have o3 := (hO).1.2 3 _ rfl
            have o4 := (hO).1.2 4 _ rfl
            have o5 := (hO).1.2 5 _ rfl
            have o6 := (hO).1.2 6 _ rfl
            have o7 := (hO).1.2 7 _ rfl
            have o8 := (hO).1.2 8 _ rfl
            have r0 := (hR).1.2 0 _ rfl
            have r1 := (hR).1.2 1 _ rfl
            have r2 := (hR).1.2 2 _ rfl
            have r3 := (hR).1.2 3 _ rfl
            have r4 := (hR).1.2 4 _ rfl
            have r5 := (hR).1.2 5 _ rfl
            have r6 := (hR).1.2 6 _ rfl
            have r7 := (hR).1.2 7 _ rfl
            have r8 := (hR).1.2 8 _ rfl
            have rf := hR.2
            have rl := hR.1.1
            have HM : Hid (J.ms = ms3 ++ shift n3 ms4) := by show _ = _; rw [HJ.out]; rfl
            have HJA : Hid (J.at A cp = ⟨ni, t1, k1, s3, n3 + n4, dd, f1, A, n + i, cp, nt⟩) := by
              show _ = _
              have e1 : ni = min i1 i2 := by rw [Hni.out]; split <;> omega
              have e2 : nt = min m1 m2 := by rw [Hnt.out]; split <;> omega
              have e3 : (ms3 ++ shift n3 ms4).length = n + i := by rw [List.length_append, Hn.out, Hn'.out]; simp [shift]
              rw [HJ.out]
              show (⟨min i1 i2, t1, k1, s3, n3 + n4, d3 ++ d4, f1, A, (ms3 ++ shift n3 ms4).length, cp, min m1 m2⟩ : Bun) = _
              rw [e1, e2, e3, HDD.out]
            have hR2 := hR.setRow [.int .i64 ni, .int .i64 t1, .int .i64 k1, .int .i64 s3, .int .i64 (n3 + n4), .string dd, .bool f1, .slice A (n + i) cp, .int .i64 nt] rfl
            have hX2 := setRow_own (B := w.heap.size + 1 + 1) (i := 0) [.int .i64 ni, .int .i64 t1, .int .i64 k1, .int .i64 s3, .int .i64 (n3 + n4), .string dd, .bool f1, .slice A (n + i) cp, .int .i64 nt] hown (own_ne hown (.inl (by omega)))
            have hZ : Zb (setRow wr (w.heap.size + 1 + 1) 0 [.int .i64 ni, .int .i64 t1, .int .i64 k1, .int .i64 s3, .int .i64 (n3 + n4), .string dd, .bool f1, .slice A (n + i) cp, .int .i64 nt]) w.heap.size J A cp := by
              have e3 : J.ms.length = n + i := by rw [HM.out, List.length_append, Hn.out, Hn'.out]; simp [shift]
              have e4 : ms4.take i = ms4 := List.take_of_length_le (by rw [← Hn'.out]; exact Nat.le_refl _)
              rw [e4] at hX2
              refine ⟨⟨rfl, ?_, ?_, ?_⟩, ?_⟩
              · show Rd _ (.slice A J.ms.length cp) 3 J.ms.length (mcells J.ms)
                rw [e3, HM.out]
                exact Rd.own hX2
              · intro m hm
                rw [HM.out, List.mem_append] at hm
                rcases hm with hm | hm
                · exact HI.out.1 m hm
                · unfold shift at hm
                  rw [List.mem_map] at hm
                  obtain ⟨z, hz, rfl⟩ := hm
                  exact HI.out.2 z hz
              · rw [HJA.out]
                show dd.size ≤ maxLen
                rw [HDD.out, ByteArray.size_append]; exact hds
              · intro k hk
                rw [e3] at hk
                have := (hown.lt k hk).1
                omega
            have hbz := Bel.setRow (B := w.heap.size + 1 + 1) (i := 0) [.int .i64 ni, .int .i64 t1, .int .i64 k1, .int .i64 s3, .int .i64 (n3 + n4), .string dd, .bool f1, .slice A (n + i) cp, .int .i64 nt] hbr (by omega)
            have HZZ := Lib.hid hZ
            clear hX2 hZ
            go_wp2
            clear r0 r1 r2 r3 r4 r5 r6 r7 r8
            have r0 := (hR2).1.2 0 _ rfl
            have r1 := (hR2).1.2 1 _ rfl
            have r2 := (hR2).1.2 2 _ rfl
            have r3 := (hR2).1.2 3 _ rfl
            have r4 := (hR2).1.2 4 _ rfl
            have r5 := (hR2).1.2 5 _ rfl
            have r6 := (hR2).1.2 6 _ rfl
            have r7 := (hR2).1.2 7 _ rfl
            have r8 := (hR2).1.2 8 _ rfl
            exact bodyPost_ret (v := .agg #[.int .i64 ni, .int .i64 t1, .int .i64 k1, .int .i64 s3, .int .i64 (n3 + n4), .string dd, .bool f1, .slice A (n + i) cp, .int .i64 nt]) (by simp only [setRow] at r0 r1 r2 r3 r4 r5 r6 r7 r8; simp [results, Tryz.results34, go_sem, r0, r1, r2, r3, r4, r5, r6, r7, r8]) rfl ⟨A, cp, by rw [HJA.out], HZZ.out, hbz⟩
end Go.Proofs.YtpgjbocjhconoaaGreat

/- copies.queued. -/
namespace Go.Proofs.YtpgjbocjhconoaaGreat
open Go.RowKit Go.Maps
set_option linter.unusedSimpArgs false

theorem wpList_load_at {P : Program} {ops : Array Oper} {rest : List Oper} {o : Oper} {a : Act} {w : World} {Q : Exit → Act → World → Prop} (hgd : o.guard = none) (ty : TypeId) (x : Operand) (ho : o.op = .load ty x)
    {B : Nat} {cs : List Value} (hx : a.eval x = .pointer (some ⟨B, 0, none⟩)) (hB : AtF w B cs) (d : TypeDesc) (hu : P.underlying ty = some d) (hd : (match d with | .struct _ | .array _ _ => true | _ => false) = true) (hi : (P.info? ty).map (·.size) = some cs.length)
    (h : wpList P ops Q rest (a.put o.dst (.agg cs.toArray)) w) : wpList P ops Q (o :: rest) a w :=
  wpList_plain hgd fun _ hK => by
    unfold Oper.wp execOp
    simp only [ho, hx, Instr.loadAt, Instr.sureAddr, Sem.run_bind, Sem.run_pure, Result.andThen_ok, loadVar_at ty hB d hu hd hi]
    exact hK _ _ h
theorem wpList_store_at {P : Program} {ops : Array Oper} {rest : List Oper} {o : Oper} {a : Act} {w : World} {Q : Exit → Act → World → Prop} (hgd : o.guard = none) (ty : TypeId) (x y : Operand) (ho : o.op = .store ty x y)
    {B : Nat} {cs vs : List Value} (hx : a.eval x = .pointer (some ⟨B, 0, none⟩)) (hy : a.eval y = .agg vs.toArray) (hB : AtF w B cs) (hv : vs.length = cs.length) (h1 : ∀ v ∈ vs, v.oneCell' = true) (hi : (P.info? ty).map (·.size) = some vs.length)
    (h : wpList P ops Q rest (a.put o.dst undef) (setRow w B 0 vs)) : wpList P ops Q (o :: rest) a w :=
  wpList_plain hgd fun _ hK => by
    unfold Oper.wp execOp
    simp only [ho, hx, hy, Instr.storeAt, Instr.sureAddr, Sem.run_bind, Sem.run_pure, Result.andThen_ok, storeVar_at ty hB hv h1 hi]
    exact hK _ _ h


theorem setRow_at2 : ∀ (vs pre cs post : List Value) (w : World) (B i : Nat), pre.length = i → cs.length = vs.length → AtF w B (pre ++ (cs ++ post)) → AtF (setRow w B i vs) B (pre ++ (vs ++ post))
  | [], pre, cs, post, w, B, i, _, h2, h => by
    have : cs = [] := List.length_eq_zero_iff.1 (by simpa using h2)
    subst this; exact h
  | v :: vs, pre, c :: cs, post, w, B, i, h1, h2, h => by
    have h3 := h.set i (by simp; omega) v
    have e : (pre ++ (c :: cs ++ post)).set i v = (pre ++ [v]) ++ (cs ++ post) := by
      subst h1
      rw [List.set_append_right _ _ (Nat.le_refl _), Nat.sub_self]
      simp
    rw [e] at h3
    have := setRow_at2 vs (pre ++ [v]) cs post (w.setCell ⟨B, i, none⟩ v) B (i + 1) (by simp; omega) (by simpa using h2) h3
    simpa [setRow] using this
  | v :: vs, _, [], _, _, _, _, _, h2, _ => by simp at h2
theorem Zb.setRow {w : World} {base : Nat} {J : Bu} {A : Option Addr} {c : Nat} (h : Zb w base J A c) (vs : List Value) {B i : Nat} (hB : B < base) : Zb (Proofs.YtpgjbocjhconoaaGreat.setRow w B i vs) base J A c :=
  ⟨⟨h.1.len, Rd.setRow vs h.1.rd (fun e => by have := h.2 B e; omega), h.1.ids, h.1.dl⟩, h.2⟩
theorem Zb.mono {w : World} {base base' : Nat} {J : Bu} {A : Option Addr} {c : Nat} (h : Zb w base J A c) (hb : base' ≤ base) : Zb w base' J A c := ⟨h.1, fun k hk => Nat.le_trans hb (h.2 k hk)⟩
/-- The first cells of a block stored over. -/
theorem AtF.setRow_part {w : World} {B : Nat} {cs : List Value} (h : AtF w B cs) (k : Nat) (vs : List Value) (_hk : k = 0) {pre post : List Value} (hc : cs = pre ++ post := by rfl) (hl : pre.length = vs.length := by rfl) : AtF (Proofs.YtpgjbocjhconoaaGreat.setRow w B 0 vs) B (vs ++ post) := by
  subst hc
  have := setRow_at2 vs [] pre post w B 0 rfl hl (by simpa using h)
  simpa using this

set_option maxRecDepth 100000 in
set_option maxHeartbeats 8000000 in
theorem copyQueued_any (u : Bu) (du st tr : Int) (A : Option Addr) (c : Nat) (w : World) (hx : Mems w (u.at A c) u.ms) (hn : u.ms.length ≤ 1000) :
    Calls Tryz.prog 61 #[.agg #[.int .i64 ((Qd.mk (Bu.at u A c) du st tr)).b.id, .int .i64 ((Qd.mk (Bu.at u A c) du st tr)).b.ten, .int .i64 ((Qd.mk (Bu.at u A c) du st tr)).b.knd, .int .i64 ((Qd.mk (Bu.at u A c) du st tr)).b.sec, .int .i64 ((Qd.mk (Bu.at u A c) du st tr)).b.cnt, .string ((Qd.mk (Bu.at u A c) du st tr)).b.dat, .bool ((Qd.mk (Bu.at u A c) du st tr)).b.fua, .slice ((Qd.mk (Bu.at u A c) du st tr)).b.mA ((Qd.mk (Bu.at u A c) du st tr)).b.mL ((Qd.mk (Bu.at u A c) du st tr)).b.mC, .int .i64 ((Qd.mk (Bu.at u A c) du st tr)).b.tim, .int .i64 ((Qd.mk (Bu.at u A c) du st tr)).due, .int .i64 ((Qd.mk (Bu.at u A c) du st tr)).sta, .int .i64 ((Qd.mk (Bu.at u A c) du st tr)).tri]] w fun e w' => ∃ A' c', e = .returned (.agg #[.int .i64 ((Qd.mk (Bu.at u A' c') du st tr)).b.id, .int .i64 ((Qd.mk (Bu.at u A' c') du st tr)).b.ten, .int .i64 ((Qd.mk (Bu.at u A' c') du st tr)).b.knd, .int .i64 ((Qd.mk (Bu.at u A' c') du st tr)).b.sec, .int .i64 ((Qd.mk (Bu.at u A' c') du st tr)).b.cnt, .string ((Qd.mk (Bu.at u A' c') du st tr)).b.dat, .bool ((Qd.mk (Bu.at u A' c') du st tr)).b.fua, .slice ((Qd.mk (Bu.at u A' c') du st tr)).b.mA ((Qd.mk (Bu.at u A' c') du st tr)).b.mL ((Qd.mk (Bu.at u A' c') du st tr)).b.mC, .int .i64 ((Qd.mk (Bu.at u A' c') du st tr)).b.tim, .int .i64 ((Qd.mk (Bu.at u A' c') du st tr)).due, .int .i64 ((Qd.mk (Bu.at u A' c') du st tr)).sta, .int .i64 ((Qd.mk (Bu.at u A' c') du st tr)).tri]) ∧ Zb w' w.heap.size u A' c' ∧ Bel w w' := by
  have HC := Lib.hid (fun w' (h : Bel w w') => copyBunch_any u A c w' (hx.bel h) hn)
  obtain ⟨i1, t1, k1, s1, n1, d1, f1, ms, m1⟩ := u
  simp only [Bu.at] at HC ⊢
  obtain ⟨n, Hn⟩ : ∃ n, Hid (n = ms.length) := ⟨_, rfl⟩
  rw [← Hn.out] at HC ⊢
  clear hx hn
  have hA := (AtF.new_at (w := w) rfl 67 [.int .i64 i1, .int .i64 t1, .int .i64 k1, .int .i64 s1, .int .i64 n1, .string d1, .bool f1, .slice A n c, .int .i64 m1, .int .i64 du, .int .i64 st, .int .i64 tr]).alloc (.cells [.int .i64 0, .int .i64 0, .int .i64 0, .int .i64 0, .int .i64 0, .string ⟨#[]⟩, .bool false, .slice none 0 0, .int .i64 0, .int .i64 0, .int .i64 0, .int .i64 0].toArray 67)
  have hR := AtF.new_at (w := w.alloc (.cells [.int .i64 i1, .int .i64 t1, .int .i64 k1, .int .i64 s1, .int .i64 n1, .string d1, .bool f1, .slice A n c, .int .i64 m1, .int .i64 du, .int .i64 st, .int .i64 tr].toArray 67)) (g := w.heap.size + 1) (by simp) 67 [.int .i64 0, .int .i64 0, .int .i64 0, .int .i64 0, .int .i64 0, .string ⟨#[]⟩, .bool false, .slice none 0 0, .int .i64 0, .int .i64 0, .int .i64 0, .int .i64 0]
  have hbw : Bel w ((w.alloc (.cells [.int .i64 i1, .int .i64 t1, .int .i64 k1, .int .i64 s1, .int .i64 n1, .string d1, .bool f1, .slice A n c, .int .i64 m1, .int .i64 du, .int .i64 st, .int .i64 tr].toArray 67)).alloc (.cells [.int .i64 0, .int .i64 0, .int .i64 0, .int .i64 0, .int .i64 0, .string ⟨#[]⟩, .bool false, .slice none 0 0, .int .i64 0, .int .i64 0, .int .i64 0, .int .i64 0].toArray 67)) := bI
  simp only [List.toArray] at hA hR hbw
  go_enter Tryz.func61, Tryz.ntmps61
  go_wp2_with fail
  refine (HC.out _ hbw).mono ?_; rintro e w1 ⟨A', c', rfl, hZ, hb1⟩
  replace hA := hA.bel hb1
  replace hR := hR.bel hb1
  replace hbw := hbw.trans hb1
  have hAw := hA.setRow_part (pre := [.int .i64 i1, .int .i64 t1, .int .i64 k1, .int .i64 s1, .int .i64 n1, .string d1, .bool f1, .slice A n c, .int .i64 m1]) (post := [.int .i64 du, .int .i64 st, .int .i64 tr]) 0 [.int .i64 i1, .int .i64 t1, .int .i64 k1, .int .i64 s1, .int .i64 n1, .string d1, .bool f1, .slice A' n c', .int .i64 m1] rfl
  have p0 := (hA).1.2 0 _ rfl
  have p1 := (hA).1.2 1 _ rfl
  have p2 := (hA).1.2 2 _ rfl
  have p3 := (hA).1.2 3 _ rfl
  have p4 := (hA).1.2 4 _ rfl
  have p5 := (hA).1.2 5 _ rfl
  have p6 := (hA).1.2 6 _ rfl
  have p7 := (hA).1.2 7 _ rfl
  have p8 := (hA).1.2 8 _ rfl
  have pf := hA.2
  have pl := hA.1.1
  have hW2 : AtF (setRow w1 w.heap.size 0 [.int .i64 i1, .int .i64 t1, .int .i64 k1, .int .i64 s1, .int .i64 n1, .string d1, .bool f1, .slice A' n c', .int .i64 m1]) w.heap.size [.int .i64 i1, .int .i64 t1, .int .i64 k1, .int .i64 s1, .int .i64 n1, .string d1, .bool f1, .slice A' n c', .int .i64 m1, .int .i64 du, .int .i64 st, .int .i64 tr] := hAw
  have hR2 := hR.setRow_other (B := w.heap.size) (i := 0) [.int .i64 i1, .int .i64 t1, .int .i64 k1, .int .i64 s1, .int .i64 n1, .string d1, .bool f1, .slice A' n c', .int .i64 m1] (by omega)
  have hb2 := Bel.setRow (B := w.heap.size) (i := 0) [.int .i64 i1, .int .i64 t1, .int .i64 k1, .int .i64 s1, .int .i64 n1, .string d1, .bool f1, .slice A' n c', .int .i64 m1] hbw (Nat.le_refl _)
  have hi12 : (Tryz.prog.info? 67).map (·.size) = some 12 := by kernel_rfl
  have hi9 : (Tryz.prog.info? 44).map (·.size) = some 9 := by kernel_rfl
  have one12 : ∀ u ∈ ([.int .i64 i1, .int .i64 t1, .int .i64 k1, .int .i64 s1, .int .i64 n1, .string d1, .bool f1, .slice A' n c', .int .i64 m1, .int .i64 du, .int .i64 st, .int .i64 tr] : List Value), u.oneCell' = true := fun u hu => by
    simp only [List.mem_cons, List.not_mem_nil, or_false] at hu
    rcases hu with rfl | rfl | rfl | rfl | rfl | rfl | rfl | rfl | rfl | rfl | rfl | rfl <;> rfl
  have HZ := Lib.hid hZ
  clear hZ
  go_upto_region 2 with fail
  generalize hW9 : setRow w1 w.heap.size 0 [.int .i64 i1, .int .i64 t1, .int .i64 k1, .int .i64 s1, .int .i64 n1, .string d1, .bool f1, .slice A' n c', .int .i64 m1] = W9 at hW2 hR2 hb2
  have hW9' := hW9
  simp only [setRow, Nat.zero_add, Nat.reduceAdd] at hW9'
  rw [hW9']
  have hown9 : Zb W9 (w.heap.size + 2) ⟨i1, t1, k1, s1, n1, d1, f1, ms, m1⟩ A' c' := by
    rw [← hW9]
    exact Zb.setRow (HZ.out.mono (by simp)) _ (by omega)
  clear hW9 hW9' p0 p1 p2 p3 p4 p5 p6 p7 p8
  refine wp_region_lit ?_
  refine wpList_load_at rfl 67 (.tmp 1) rfl rfl hW2 _ Tryz.underlying67 rfl hi12 ?_
  refine wpList_store_at rfl 67 (.tmp 2) (.tmp 7) rfl rfl rfl hR2 rfl one12 hi12 ?_
  have hR9 := hR2.setRow [.int .i64 i1, .int .i64 t1, .int .i64 k1, .int .i64 s1, .int .i64 n1, .string d1, .bool f1, .slice A' n c', .int .i64 m1, .int .i64 du, .int .i64 st, .int .i64 tr] rfl
  have hZ9 := (Zb.setRow hown9 (B := w.heap.size + 1) (i := 0) [.int .i64 i1, .int .i64 t1, .int .i64 k1, .int .i64 s1, .int .i64 n1, .string d1, .bool f1, .slice A' n c', .int .i64 m1, .int .i64 du, .int .i64 st, .int .i64 tr] (by omega)).mono (base' := w.heap.size) (by omega)
  have hb9 := Bel.setRow (B := w.heap.size + 1) (i := 0) [.int .i64 i1, .int .i64 t1, .int .i64 k1, .int .i64 s1, .int .i64 n1, .string d1, .bool f1, .slice A' n c', .int .i64 m1, .int .i64 du, .int .i64 st, .int .i64 tr] hb2 (by omega)
  have hlv := loadVar_at (P := Tryz.prog) 67 hR9 _ Tryz.underlying67 rfl hi12
  generalize setRow W9 (w.heap.size + 1) 0 [.int .i64 i1, .int .i64 t1, .int .i64 k1, .int .i64 s1, .int .i64 n1, .string d1, .bool f1, .slice A' n c', .int .i64 m1, .int .i64 du, .int .i64 st, .int .i64 tr] = W10 at *
  simp only [Act.put, Act.eval, List.setIfInBounds_toArray, List.set_cons_succ, List.set_cons_zero]
  refine wpList_nil ?_
  go_wp2
  exact bodyPost_ret (v := .agg #[.int .i64 i1, .int .i64 t1, .int .i64 k1, .int .i64 s1, .int .i64 n1, .string d1, .bool f1, .slice A' n c', .int .i64 m1, .int .i64 du, .int .i64 st, .int .i64 tr]) (by simp [results, Tryz.results61, hlv, asAddr]) rfl ⟨A', c', rfl, hZ9, hb9⟩
end Go.Proofs.YtpgjbocjhconoaaGreat

/- copies.Each over entries. -/
namespace Go.Proofs.YtpgjbocjhconoaaGreat
open Go.RowKit Go.Maps
set_option linter.unusedSimpArgs false

theorem Tryz.infoQue : (Tryz.prog.info? 67).map (fun i => (i.zero, i.size, i.bytes)) = some (some (.agg #[.int .i64 0, .int .i64 0, .int .i64 0, .int .i64 0, .int .i64 0, .string ⟨#[]⟩, .bool false, .slice none 0 0, .int .i64 0, .int .i64 0, .int .i64 0, .int .i64 0]), 12, 120) := by kernel_rfl
theorem qcell_one (q : Qd) : ∀ u ∈ q.cells, u.oneCell' = true := fun u hu => by
  simp only [Qd.cells, List.mem_cons, List.not_mem_nil, or_false] at hu
  rcases hu with rfl | rfl | rfl | rfl | rfl | rfl | rfl | rfl | rfl | rfl | rfl | rfl <;> rfl
theorem qmc_one (L : List QM) : ∀ u ∈ qmc L, u.oneCell' = true := by
  unfold qmc qcells
  exact flat_one (f := Qd.cells) qcell_one (L.map QM.q)
set_option maxHeartbeats 2000000 in
theorem cloneQue_any (cs : List Value) (n : Nat) (v : Value) (w : World) (h : Rd w v 12 n cs) (hone : ∀ u ∈ cs, u.oneCell' = true) (hn : n ≤ 1000) :
    Calls Tryz.prog 89 #[v] w fun e w' => ∃ v', e = .returned v' ∧ w'.ownsRow w.heap.size 67 12 v' n cs ∧ Bel w w' := by
  obtain ⟨hl, A, cp, rfl, hcp, hmx, hr⟩ := h
  have hone := Lib.hid hone
  have q22 : ∀ (w : World) (a : Option Addr) (n c n' c' : Nat), (binOp .eql 29 (.slice a n c) (.slice none n' c')).run Tryz.prog w = .ok (.bool a.isNone) w := fun w a n c n' c' => Lib.run_eql_slice_nil w _ _ a n c n' c' Tryz.underlying29
  obtain ⟨i0, hi, hz0, hz1, hz2⟩ := info_parts Tryz.infoQue
  have HR := Lib.hid hr
  clear hr
  cases A with
  | none =>
    obtain rfl : n = 0 := by
      rcases Nat.eq_zero_or_pos n with h0 | h0
      · exact h0
      · obtain ⟨b, o, hA, _⟩ := HR.out h0; cases hA
    obtain rfl : cs = [] := by simpa using hl
    go_enter Tryz.func89, Tryz.ntmps89
    go_wp2
    go_ret
    exact ⟨_, rfl, ⟨by simp, Or.inl ⟨rfl, rfl⟩⟩, bI⟩
  | some p =>
    go_enter Tryz.func89, Tryz.ntmps89
    go_wp2_with (at_builtin; go_must (refine wpList_append_own_at _ rfl _ _ 29 rfl w.heap.size 67 i0 _ 12 120 Tryz.underlying29 hi hz0 hz1 hz2 rfl (by omega) _ 0 [] rfl (World.ownsRow_made w #[] 0 (Nat.le_refl _) (Nat.zero_le _) rfl) p n cp cs rfl hl ?q1 hone.out (by unfold maxLen; omega) (by omega) (by simp) ?_))
    case q1 =>
      intro j u hj
      have hjn := (List.getElem?_eq_some_iff.1 hj).1
      obtain ⟨b, o, hA, hlb, hcell⟩ := HR.out (by omega)
      cases hA
      rw [Addr.add_lit]
      refine Lib.cell?_alloc_some _ ?_
      exact hcell j u hj
    intro v' w3 hown hg _ _
    go_wp2
    go_ret
    exact ⟨v', rfl, by simpa using hown, bel_own ((Bel.refl _).alloc _) (World.ownsRow_made (base := w.heap.size) (e := 67) (size := 12) w #[] 0 (Nat.le_refl _) (Nat.zero_le _) rfl) hg (Nat.le_refl _)⟩

set_option maxRecDepth 100000 in
set_option maxHeartbeats 8000000 in
theorem eachQ_any (v : Value) (L : List QM) (w : World) (h : QL w v L) (hn : L.length ≤ 100) (hms : ∀ x ∈ L, x.ms.length ≤ 1000) :
    Calls Tryz.prog 60 #[v, .func (.func 61) #[] #[]] w fun e w' => ∃ v' L', e = .returned v' ∧ QN w' w.heap.size v' L' ∧ CpQ L L' ∧ Bel w w' := by
  have eg : ∀ args w, (callFunc 61 args).run Tryz.prog w = .ok (.enter 61 args) w := enters_of Tryz.func61 (by kernel_rfl) rfl
  have HC := Lib.hid (cloneQue_any (qmc L) L.length v w h.rd (qmc_one L) (by omega))
  have HB := Lib.hid h
  have HMS := Lib.hid hms
  obtain ⟨A, c, rfl, _, _⟩ := h.form
  obtain ⟨n, Hn⟩ : ∃ n, Hid (n = L.length) := ⟨_, rfl⟩
  rw [← Hn.out] at HC hn ⊢
  clear h hms
  go_enter Tryz.func60, Tryz.ntmps60
  go_wp2_with fail
  refine HC.out.mono ?_; rintro e w1 ⟨v1, rfl, hown, hb1⟩
  obtain ⟨A1, c1, rfl⟩ := own_slice hown
  have hbl1 := HB.out.bel hb1
  have hbo : QO w1 w.heap.size (.slice A1 n c1) L := ⟨by rw [← Hn.out]; exact hown, hbl1.mem, fun x hx h0 k hk e => by
    have h1 := (hown.lt k e).1
    have h2 : k < w.heap.size := (HB.out.mem x hx).rd.own_lt h0 (by have hl := (HB.out.mem x hx).len; exact hk)
    omega⟩
  have HBO := Lib.hid hbo
  clear hbo hown hbl1
  go_wp2
  go_loopw [12] (fun iv wr => ∃ (i : Nat) (L' : List QM), iv = .int .i64 i ∧ i ≤ n ∧ Hid (CpQ L L' ∧ FrhQ w.heap.size L' i) ∧ Hid (QO wr w.heap.size (.slice A1 n c1) L') ∧ Bel w wr) (fun iv _ => n - (intOf iv).toNat)
  case atStart => exact ⟨0, L, rfl, by omega, Lib.hid ⟨CpQ.refl L, fun j x hj => absurd hj (by omega)⟩, HBO, hb1⟩
  case round =>
    clear HBO hb1
    obtain ⟨i, L', rfl, p1, HCP, HBO, hbr⟩ := hrel
    by_cases hlt : i < n
    · have i1 : (i : Int) < (n : Int) := by omega
      have hln := HCP.out.1.len
      obtain ⟨⟨⟨⟨i1, t1, k1, s1, n1, d1, f1, a1, l1, c3, m1⟩, du, st, tr⟩, ms1⟩, hx⟩ : ∃ x, L'[i]? = some x := ⟨L'[i]'(by have := Hn.out; omega), List.getElem?_eq_getElem _⟩
      obtain ⟨hl, hr, hi, hd⟩ := HBO.out.mem _ (List.mem_of_getElem? hx)
      simp only at hl hr hi hd
      subst hl
      have hm0 : Mems wr (Bu.at ⟨i1, t1, k1, s1, n1, d1, f1, ms1, m1⟩ a1 c3) ms1 := ⟨rfl, hr, hi, hd⟩
      have hms1 : ms1.length ≤ 1000 := by
        have h1 : (L'.map QM.qu)[i]? = some ⟨⟨i1, t1, k1, s1, n1, d1, f1, ms1, m1⟩, du, st, tr⟩ := by rw [List.getElem?_map, hx]; rfl
        rw [HCP.out.1.bu, List.getElem?_map] at h1
        cases h2 : L[i]? with
        | none => rw [h2] at h1; cases h1
        | some y =>
          rw [h2] at h1
          have h3 := HMS.out y (List.mem_of_getElem? h2)
          have h4 : y.ms = ms1 := by simp only [Option.map_some, Option.some.injEq, QM.qu, QM.bm, BM.bu, Qu.mk.injEq, Bu.mk.injEq] at h1; exact h1.1.2.2.2.2.2.2.2.1
          rw [h4] at h3; exact h3
      have HCB := Lib.hid (fun w' (hb : Bel wr w') => copyQueued_any ⟨i1, t1, k1, s1, n1, d1, f1, ms1, m1⟩ du st tr a1 c3 w' (hm0.bel hb) hms1)
      simp only [Bu.at] at HCB
      have HX0 := Lib.hid hx
      obtain ⟨l, Hl⟩ : ∃ l, Hid (l = ms1.length) := ⟨_, rfl⟩
      rw [← Hl.out] at HCB hx
      have HX := Lib.hid hx
      obtain ⟨g, c', hA, _, _⟩ := HBO.out.own.form (by rw [hln, ← Hn.out]; omega)
      obtain ⟨rfl, rfl⟩ : A1 = some ⟨g, 0, none⟩ ∧ c1 = c' := by injection hA with h1 h2 h3; exact ⟨h1, h3⟩
      obtain ⟨b', o', c2, hat⟩ := HBO.out.ql.at HX.out
      have hf := hat.form
      injection hf with hf1 hf2 hf3
      injection hf1 with hf4
      injection hf4 with hf5 hf6
      subst hf5; subst hf6
      have hrow := hat.row
      rw [Nat.zero_add] at hrow
      have gl := hat.lt
      have q0 := (hrow).cell 0 rfl
      have q1 := (hrow).cell 1 rfl
      have q2 := (hrow).cell 2 rfl
      have q3 := (hrow).cell 3 rfl
      have q4 := (hrow).cell 4 rfl
      have q5 := (hrow).cell 5 rfl
      have q6 := (hrow).cell 6 rfl
      have q7 := (hrow).cell 7 rfl
      have q8 := (hrow).cell 8 rfl
      have q9 := (hrow).cell 9 rfl
      have q10 := (hrow).cell 10 rfl
      have q11 := (hrow).cell 11 rfl
      rw [Nat.add_zero] at q0
      have HROW := Lib.hid hrow
      clear hat hrow hf2 hf3 hx hA hm0 hr hi hd hms1 hln
      go_wp2_with fail
      refine (HCB.out _ ((Bel.refl _).alloc _)).mono ?_; rintro e w2 ⟨A', c', rfl, hZ, hb2⟩
      have hb3 : Bel wr w2 := bI
      have hBO2 := HBO.out.keep hb3
      have hrow2 := HROW.out.bel hb3 gl
      have u0 := (hrow2).cell 0 rfl
      have u1 := (hrow2).cell 1 rfl
      have u2 := (hrow2).cell 2 rfl
      have u3 := (hrow2).cell 3 rfl
      have u4 := (hrow2).cell 4 rfl
      have u5 := (hrow2).cell 5 rfl
      have u6 := (hrow2).cell 6 rfl
      have u7 := (hrow2).cell 7 rfl
      have u8 := (hrow2).cell 8 rfl
      have u9 := (hrow2).cell 9 rfl
      have u10 := (hrow2).cell 10 rfl
      have u11 := (hrow2).cell 11 rfl
      rw [Nat.add_zero] at u0
      have gl2 : g < w2.heap.size := by have := hb3.size; omega
      have hLn : L'.length = n := by rw [HCP.out.1.len, Hn.out]
      rw [← hLn] at hBO2
      have gf := fun j => hBO2.own.frozenAt (g := g) j
      have hZ2 := hZ.2
      have HS := Lib.hid (QO.set hBO2 (y := ⟨⟨Bu.at ⟨i1, t1, k1, s1, n1, d1, f1, ms1, m1⟩ A' c', du, st, tr⟩, ms1⟩) HX0.out hZ.1 (fun _ q hq => by have h := hZ2 q hq; simp only [World.size_alloc] at h; omega))
      rw [List.length_set, hLn] at HS
      have HCP2 := Lib.hid (And.intro (HCP.out.1.set (y := ⟨⟨Bu.at ⟨i1, t1, k1, s1, n1, d1, f1, ms1, m1⟩ A' c', du, st, tr⟩, ms1⟩) HX0.out rfl) (HCP.out.2.set (y := ⟨⟨Bu.at ⟨i1, t1, k1, s1, n1, d1, f1, ms1, m1⟩ A' c', du, st, tr⟩, ms1⟩) (fun q hq => by have h := hZ2 q hq; simp only [World.size_alloc] at h; have := hbr.size; omega)))
      have hcells : (Qd.mk (Bu.at ⟨i1, t1, k1, s1, n1, d1, f1, ms1, m1⟩ A' c') du st tr).cells = [.int .i64 i1, .int .i64 t1, .int .i64 k1, .int .i64 s1, .int .i64 n1, .string d1, .bool f1, .slice A' l c', .int .i64 m1, .int .i64 du, .int .i64 st, .int .i64 tr] := by rw [Hl.out]; rfl
      rw [hcells] at HS
      have HBS := Lib.hid (Bel.setRow (B := g) (i := i * 12) [.int .i64 i1, .int .i64 t1, .int .i64 k1, .int .i64 s1, .int .i64 n1, .string d1, .bool f1, .slice A' l c', .int .i64 m1, .int .i64 du, .int .i64 st, .int .i64 tr] (hbr.trans hb3) (by omega))
      clear hrow2 hBO2 hZ hZ2 hb2 hcells hb3 q0 q1 q2 q3 q4 q5 q6 q7 q8 q9 q10 q11 hLn
      go_wp2
      go_roundw
      case rel => exact ⟨i + 1, _, by go_num, by omega, HCP2, HS, HBS.out⟩
      case measure => simp [intOf]; omega
    · obtain rfl : i = n := by omega
      have jk : decide ((i : Int) < (i : Int)) = false := by simp
      go_wp2
      go_ret
      exact ⟨_, L', rfl, ⟨HBO.out, by rw [show L'.length = i by rw [HCP.out.1.len, Hn.out]]; exact HCP.out.2⟩, HCP.out.1, hbr⟩
end Go.Proofs.YtpgjbocjhconoaaGreat
