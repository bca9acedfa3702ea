/- The reference's SameElevator, of two that are the same. -/
import Derived.Test.YtpgjbocjhconoaaGreatFairL
import Derived.Test.YtpgjbocjhconoaaGreatSameB
import Derived.Test.YtpgjbocjhconoaaGreatK7
namespace Go.Proofs.YtpgjbocjhconoaaGreat
open Go.RowKit Go.Maps
set_option linter.unusedSimpArgs false

theorem qu_cells {x y : QM} (h : x.qu = y.qu) : (x.q.b.id = y.q.b.id ∧ x.q.b.ten = y.q.b.ten ∧ x.q.b.knd = y.q.b.knd ∧ x.q.b.sec = y.q.b.sec ∧ x.q.b.cnt = y.q.b.cnt ∧ x.q.b.dat = y.q.b.dat ∧ x.q.b.fua = y.q.b.fua ∧ x.ms = y.ms ∧ x.q.b.tim = y.q.b.tim) ∧ x.q.due = y.q.due ∧ x.q.sta = y.q.sta ∧ x.q.tri = y.q.tri := by
  unfold QM.qu at h
  injection h with h1 h2 h3 h4
  unfold BM.bu at h1
  injection h1 with g1 g2 g3 g4 g5 g6 g7 g8 g9
  exact ⟨⟨g1, g2, g3, g4, g5, g6, g7, g8, g9⟩, h2, h3, h4⟩
theorem bkc_at {l : List Bk} {k j : Nat} {b : Bk} {u : Value} (h : l[k]? = some b) (hj : (bkCells b)[j]? = some u) : (bkc l)[k * 4 + j]? = some u := flat_at (f := bkCells) bkCells_len h hj

set_option maxRecDepth 100000 in
set_option maxHeartbeats 16000000 in
theorem sameElev_any (knd rd wt vt hd : Int) (fs : List (Int × Int)) (bs : List Bk) (L L' : List QM) (fl bu en fl' bu' en' : Value) (w : World)
    (hf : Rd w fl 2 fs.length (fcells fs)) (hf' : Rd w fl' 2 fs.length (fcells fs)) (hb : Rd w bu 4 bs.length (bkc bs)) (hb' : Rd w bu' 4 bs.length (bkc bs)) (hq : QL w en L) (hq' : QL w en' L') (hLL : L.map QM.qu = L'.map QM.qu)
    (hfn : fs.length ≤ 1000) (hbn : bs.length ≤ 1000) (hqn : L.length ≤ 1000) :
    Calls Tryz.prog 10 #[.agg #[.int .i64 knd, .int .i64 rd, .int .i64 wt, .int .i64 vt, fl, bu, en, .int .i64 hd], .agg #[.int .i64 knd, .int .i64 rd, .int .i64 wt, .int .i64 vt, fl', bu', en', .int .i64 hd]] w fun e w' => e = .returned (.bool true) ∧ Bel w w' := by
  have HSF := Lib.hid (fun w' (h : Bel w w') => sameFair_any vt fs fl fl' w' (hf.bel h) (hf'.bel h) hfn)
  obtain ⟨A1, c1, rfl, -, -⟩ := hf.form
  obtain ⟨A2, c2, rfl, -, -⟩ := hf'.form
  obtain ⟨A3, c3, rfl, hm3, hx3⟩ := hb.form
  obtain ⟨A4, c4, rfl, -, -⟩ := hb'.form
  obtain ⟨A5, c5, rfl, hm5, hx5⟩ := hq.form
  obtain ⟨A6, c6, rfl, -, -⟩ := hq'.form
  have hll : L'.length = L.length := by have := congrArg List.length hLL; simpa using this.symm
  obtain ⟨n, Hn⟩ : ∃ n, Hid (L.length = n) := ⟨_, rfl⟩
  obtain ⟨m, Hm⟩ : ∃ n, Hid (bs.length = n) := ⟨_, rfl⟩
  obtain ⟨z, Hz⟩ : ∃ n, Hid (fs.length = n) := ⟨_, rfl⟩
  have HL2 : Hid (L'.length = n) := by show _ = _; rw [hll, Hn.out]
  have HQ := Lib.hid hq
  have HQ' := Lib.hid hq'
  have HB := Lib.hid hb
  have HB' := Lib.hid hb'
  have HEQ : Hid (∀ (k : Nat) (x y : QM), L[k]? = some x → L'[k]? = some y → x.qu = y.qu) := fun k x y hx hy => by
    have h1 : (L.map QM.qu)[k]? = some x.qu := by rw [List.getElem?_map, hx]; rfl
    have h2 : (L'.map QM.qu)[k]? = some y.qu := by rw [List.getElem?_map, hy]; rfl
    rw [hLL, h2] at h1
    exact (Option.some.inj h1).symm
  rw [Hz.out] at HSF
  rw [hll, Hn.out, Hm.out, Hz.out]
  rw [Hn.out] at hqn
  rw [Hm.out] at hbn
  clear hf hf' hb hb' hq hq' hLL hll hm3 hm5 hx3 hx5 hfn
  have hX := (AtF.new w 31 [.int .i64 knd, .int .i64 rd, .int .i64 wt, .int .i64 vt, .slice A1 z c1, .slice A3 m c3, .slice A5 n c5, .int .i64 hd]).alloc (.cells [.int .i64 knd, .int .i64 rd, .int .i64 wt, .int .i64 vt, .slice A2 z c2, .slice A4 m c4, .slice A6 n c6, .int .i64 hd].toArray 31)
  have hY := AtF.new_at (w := w.alloc (.cells [.int .i64 knd, .int .i64 rd, .int .i64 wt, .int .i64 vt, .slice A1 z c1, .slice A3 m c3, .slice A5 n c5, .int .i64 hd].toArray 31)) (g := w.heap.size + 1) (by simp) 31 [.int .i64 knd, .int .i64 rd, .int .i64 wt, .int .i64 vt, .slice A2 z c2, .slice A4 m c4, .slice A6 n c6, .int .i64 hd]
  have hbX : Bel w ((w.alloc (.cells [.int .i64 knd, .int .i64 rd, .int .i64 wt, .int .i64 vt, .slice A1 z c1, .slice A3 m c3, .slice A5 n c5, .int .i64 hd].toArray 31)).alloc (.cells [.int .i64 knd, .int .i64 rd, .int .i64 wt, .int .i64 vt, .slice A2 z c2, .slice A4 m c4, .slice A6 n c6, .int .i64 hd].toArray 31)) := bI
  simp only [List.toArray] at hX hY hbX
  go_enter Tryz.func10, Tryz.ntmps10
  go_upto_region 1 with fail
  generalize hW1 : (w.alloc _).alloc _ = W1 at *
  clear hW1
  obtain ⟨X, HX⟩ : ∃ X, Hid (w.heap.size = X) := ⟨_, rfl⟩
  rw [HX.out] at hX hY ⊢
  have k0 := (hX).1.2 0 _ rfl
  have k1 := (hX).1.2 1 _ rfl
  have k2 := (hX).1.2 2 _ rfl
  have k3 := (hX).1.2 3 _ rfl
  have k4 := (hX).1.2 4 _ rfl
  have k5 := (hX).1.2 5 _ rfl
  have k6 := (hX).1.2 6 _ rfl
  have k7 := (hX).1.2 7 _ rfl
  have y0 := (hY).1.2 0 _ rfl
  have y1 := (hY).1.2 1 _ rfl
  have y2 := (hY).1.2 2 _ rfl
  have y3 := (hY).1.2 3 _ rfl
  have y4 := (hY).1.2 4 _ rfl
  have y5 := (hY).1.2 5 _ rfl
  have y6 := (hY).1.2 6 _ rfl
  have y7 := (hY).1.2 7 _ rfl
  have kl := hX.1.1
  have yl := hY.1.1
  go_wp2_with fail
  refine (HSF.out _ hbX).mono ?_; rintro e w2 ⟨rfl, hb2⟩
  have hX2 := hX.bel hb2
  have hY2 := hY.bel hb2
  have hbw := hbX.trans hb2
  clear k0 k1 k2 k3 k4 k5 k6 k7 kl y0 y1 y2 y3 y4 y5 y6 y7 yl hX hY hbX hb2 HSF
  have HS := Lib.hid (And.intro hX2 (And.intro hY2 hbw))
  clear hX2 hY2 hbw
  go_wp2
  go_loopw [5] (fun iv wr => ∃ i : Nat, iv = .int .i64 i ∧ i ≤ n ∧ Bel w2 wr) (fun iv _ => n - (intOf iv).toNat)
  case atStart => exact ⟨0, rfl, Nat.zero_le _, Bel.refl _⟩
  case round =>
    obtain ⟨i, rfl, p1, hbr⟩ := hrel
    obtain ⟨W3, rfl⟩ : ∃ X, X = wr := ⟨_, rfl⟩
    have hX := HS.out.1.bel hbr
    have hY := HS.out.2.1.bel hbr
    have e6 := hX.1.2 6 _ rfl
    have el := hX.1.1
    have f6 := hY.1.2 6 _ rfl
    have fl := hY.1.1
    by_cases hlt : i < n
    · have hin : (i : Int) < (n : Int) := by omega
      obtain ⟨x, hx⟩ : ∃ x, L[i]? = some x := ⟨L[i]'(by have := Hn.out; omega), List.getElem?_eq_getElem _⟩
      obtain ⟨y, hy⟩ : ∃ y, L'[i]? = some y := ⟨L'[i]'(by have := HL2.out; omega), List.getElem?_eq_getElem _⟩
      have hxy := HEQ.out i x y hx hy
      have hb3 := HS.out.2.2.trans hbr
      obtain ⟨g, o, cx, hatx⟩ := (HQ.out.bel hb3).at hx
      obtain ⟨g', o', cy, haty⟩ := (HQ'.out.bel hb3).at hy
      have hfx := hatx.form
      injection hfx with h1 h2 h3
      subst h1
      have hfy := haty.form
      injection hfy with h4 h5 h6
      subst h4
      clear h2 h3 h5 h6 hx hy
      have hrx := hatx.row
      have hry := haty.row
      have hmx := hatx.mem
      have hmy := haty.mem
      clear hatx haty
      obtain ⟨⟨e1, e2, e3, e4, e5, e7, e8, e9, e10⟩, e11, e12, e13⟩ := qu_cells hxy
      obtain ⟨⟨⟨i1, t1, k1, s1, n1, d1, f1, a1, l1, q1, m1⟩, u1, v1, z1⟩, ms1⟩ := x
      obtain ⟨⟨⟨i2, t2, k2, s2, n2, d2, f2, a2, l2, q2, m2⟩, u2, v2, z2⟩, ms2⟩ := y
      obtain ⟨hl1, hr1, -, -⟩ := hmx
      obtain ⟨hl2, hr2, -, -⟩ := hmy
      simp only at e1 e2 e3 e4 e5 e7 e8 e9 e10 e11 e12 e13 hl1 hr1 hl2 hr2 hrx hry
      subst e1 e2 e3 e4 e5 e7 e8 e9 e10 e11 e12 e13
      subst hl1 hl2
      have HSB := Lib.hid (fun W (hb : Bel W3 W) => sameBunch_any i1 t1 k1 s1 n1 d1 f1 m1 ms1 a1 a2 q1 q2 W (hr1.bel hb) (hr2.bel hb))
      clear hxy hr1 hr2
      have p0 := (hrx).cell 0 rfl
      have p1 := (hrx).cell 1 rfl
      have p2 := (hrx).cell 2 rfl
      have p3 := (hrx).cell 3 rfl
      have p4 := (hrx).cell 4 rfl
      have p5 := (hrx).cell 5 rfl
      have p6 := (hrx).cell 6 rfl
      have p7 := (hrx).cell 7 rfl
      have p8 := (hrx).cell 8 rfl
      have p9 := (hrx).cell 9 rfl
      have p10 := (hrx).cell 10 rfl
      have p11 := (hrx).cell 11 rfl
      rw [Nat.add_zero] at p0
      have yq0 := (hry).cell 0 rfl
      have yq1 := (hry).cell 1 rfl
      have yq2 := (hry).cell 2 rfl
      have yq3 := (hry).cell 3 rfl
      have yq4 := (hry).cell 4 rfl
      have yq5 := (hry).cell 5 rfl
      have yq6 := (hry).cell 6 rfl
      have yq7 := (hry).cell 7 rfl
      have yq8 := (hry).cell 8 rfl
      have yq9 := (hry).cell 9 rfl
      have yq10 := (hry).cell 10 rfl
      have yq11 := (hry).cell 11 rfl
      rw [Nat.add_zero] at yq0
      clear hrx hry
      obtain ⟨nm, Hnm⟩ : ∃ k, Hid (ms1.length = k) := ⟨_, rfl⟩
      rw [Hnm.out] at HSB p7 yq7
      go_upto_region 6 with fail
      go_cut [6, 7] (fun u v wx => ∃ XB YB : Nat, u = .pointer (some ⟨XB, 0, none⟩) ∧ v = .pointer (some ⟨YB, 0, none⟩) ∧ AtF wx XB [.int .i64 i1, .int .i64 t1, .int .i64 k1, .int .i64 s1, .int .i64 n1, .string d1, .bool f1, .slice a1 nm q1, .int .i64 m1, .int .i64 u1, .int .i64 v1, .int .i64 z1] ∧ AtF wx YB [.int .i64 i1, .int .i64 t1, .int .i64 k1, .int .i64 s1, .int .i64 n1, .string d1, .bool f1, .slice a2 nm q2, .int .i64 m1, .int .i64 u1, .int .i64 v1, .int .i64 z1] ∧ Bel W3 wx)
      case first =>
        have xr0 := fun d os => cell_regrown p0 d os
        have xr1 := fun d os => cell_regrown p1 d os
        have xr2 := fun d os => cell_regrown p2 d os
        have xr3 := fun d os => cell_regrown p3 d os
        have xr4 := fun d os => cell_regrown p4 d os
        have xr5 := fun d os => cell_regrown p5 d os
        have xr6 := fun d os => cell_regrown p6 d os
        have xr7 := fun d os => cell_regrown p7 d os
        have xr8 := fun d os => cell_regrown p8 d os
        have xr9 := fun d os => cell_regrown p9 d os
        have xr10 := fun d os => cell_regrown p10 d os
        have xr11 := fun d os => cell_regrown p11 d os
        have ys0 := fun d os => cell_regrown yq0 d os
        have ys1 := fun d os => cell_regrown yq1 d os
        have ys2 := fun d os => cell_regrown yq2 d os
        have ys3 := fun d os => cell_regrown yq3 d os
        have ys4 := fun d os => cell_regrown yq4 d os
        have ys5 := fun d os => cell_regrown yq5 d os
        have ys6 := fun d os => cell_regrown yq6 d os
        have ys7 := fun d os => cell_regrown yq7 d os
        have ys8 := fun d os => cell_regrown yq8 d os
        have ys9 := fun d os => cell_regrown yq9 d os
        have ys10 := fun d os => cell_regrown yq10 d os
        have ys11 := fun d os => cell_regrown yq11 d os
        have re6 := fun d os => cell_regrown e6 d os
        have rf6 := fun d os => cell_regrown f6 d os
        clear p0 p1 p2 p3 p4 p5 p6 p7 p8 p9 p10 p11 yq0 yq1 yq2 yq3 yq4 yq5 yq6 yq7 yq8 yq9 yq10 yq11
        refine wp_region_st [10, 11, 12, 13] 14 (by kernel_rfl) (by kernel_rfl) ?_
        with_reducible refine st_sel [0, 1, 2, 3, 4, 5, 6, 7, 8, 9] (by kernel_rfl) (by kernel_rfl) ?_
        simp only [picked, List.getElem?_cons_succ, List.getElem?_cons_zero, Option.toList_some, List.nil_append, List.cons_append, List.append_nil]
        try simp only [Act.put, List.setIfInBounds_toArray, List.set_cons_succ, List.set_cons_zero]
        repeat (go_big_quiet_step (fail))
        with_reducible refine wpQuiet_nil ?_
        refine st_branch [10, 11] (by kernel_rfl) (branch_cons (by simp only [List.getElem?_toArray, List.getElem?_cons_succ, List.getElem?_cons_zero]; rfl) ?_ (branch_cons (by simp only [List.getElem?_toArray, List.getElem?_cons_succ, List.getElem?_cons_zero]; rfl) ?_ branch_nil))
        · skip
          refine eff_made rfl (by simp [go_sem]; exact ⟨rfl, rfl⟩) bI ?_
          try simp only [List.nil_append, List.cons_append, Act.put, List.setIfInBounds_toArray, List.set_cons_succ, List.set_cons_zero]
          refine st_branch [11] (by kernel_rfl) (branch_cons (by simp only [List.getElem?_toArray, List.getElem?_cons_succ, List.getElem?_cons_zero]; rfl) ?_ branch_nil)
          refine eff_made rfl (by simp [go_sem]; exact ⟨rfl, rfl⟩) bI ?_
          try simp only [List.nil_append, List.cons_append, Act.put, List.setIfInBounds_toArray, List.set_cons_succ, List.set_cons_zero]
          refine st_branch [12] (by kernel_rfl) (branch_cons (by simp only [List.getElem?_toArray, List.getElem?_cons_succ, List.getElem?_cons_zero]; rfl) ?_ branch_nil)
          refine eff_done rfl (by simp [go_sem]; rfl) bI ?_
          try simp only [List.nil_append, List.cons_append, Act.put, List.setIfInBounds_toArray, List.set_cons_succ, List.set_cons_zero]
          refine st_branch [13] (by kernel_rfl) (branch_cons (by simp only [List.getElem?_toArray, List.getElem?_cons_succ, List.getElem?_cons_zero]; rfl) ?_ branch_nil)
          refine eff_done rfl (by simp [go_sem]; rfl) bI ?_
          try simp only [List.nil_append, List.cons_append, Act.put, List.setIfInBounds_toArray, List.set_cons_succ, List.set_cons_zero]
          refine st_end (by kernel_rfl) ?_
          simp only [List.drop_succ_cons, List.drop_zero, List.drop_nil]
          go_wp2_with fail
          go_meet
          exact ⟨_, _, rfl, rfl, ((AtF.new_at rfl _ _).alloc _).drew, (AtF.new_at (by simp) _ _).drew, bI⟩
        · skip
          refine eff_made rfl (by simp [go_sem]; exact ⟨rfl, rfl⟩) bI ?_
          try simp only [List.nil_append, List.cons_append, Act.put, List.setIfInBounds_toArray, List.set_cons_succ, List.set_cons_zero]
          refine st_branch [10] (by kernel_rfl) (branch_cons (by simp only [List.getElem?_toArray, List.getElem?_cons_succ, List.getElem?_cons_zero]; rfl) ?_ branch_nil)
          refine eff_made rfl (by simp [go_sem]; exact ⟨rfl, rfl⟩) bI ?_
          try simp only [List.nil_append, List.cons_append, Act.put, List.setIfInBounds_toArray, List.set_cons_succ, List.set_cons_zero]
          refine st_branch [12] (by kernel_rfl) (branch_cons (by simp only [List.getElem?_toArray, List.getElem?_cons_succ, List.getElem?_cons_zero]; rfl) ?_ branch_nil)
          refine eff_done rfl (by simp [go_sem]; rfl) bI ?_
          try simp only [List.nil_append, List.cons_append, Act.put, List.setIfInBounds_toArray, List.set_cons_succ, List.set_cons_zero]
          refine st_branch [13] (by kernel_rfl) (branch_cons (by simp only [List.getElem?_toArray, List.getElem?_cons_succ, List.getElem?_cons_zero]; rfl) ?_ branch_nil)
          refine eff_done rfl (by simp [go_sem]; rfl) bI ?_
          try simp only [List.nil_append, List.cons_append, Act.put, List.setIfInBounds_toArray, List.set_cons_succ, List.set_cons_zero]
          refine st_end (by kernel_rfl) ?_
          simp only [List.drop_succ_cons, List.drop_zero, List.drop_nil]
          go_wp2_with fail
          go_meet
          exact ⟨_, _, rfl, rfl, (AtF.new_at (by simp) _ _).drew, ((AtF.new_at rfl _ _).alloc _).drew, bI⟩
      case rest =>
        obtain ⟨XB, YB, rfl, rfl, hXA, hYA, hb4⟩ := hcut
        have hbd := hbr.trans hb4
        have p0 := (hXA).1.2 0 _ rfl
        have p1 := (hXA).1.2 1 _ rfl
        have p2 := (hXA).1.2 2 _ rfl
        have p3 := (hXA).1.2 3 _ rfl
        have p4 := (hXA).1.2 4 _ rfl
        have p5 := (hXA).1.2 5 _ rfl
        have p6 := (hXA).1.2 6 _ rfl
        have p7 := (hXA).1.2 7 _ rfl
        have p8 := (hXA).1.2 8 _ rfl
        have p9 := (hXA).1.2 9 _ rfl
        have p10 := (hXA).1.2 10 _ rfl
        have p11 := (hXA).1.2 11 _ rfl
        have yq0 := (hYA).1.2 0 _ rfl
        have yq1 := (hYA).1.2 1 _ rfl
        have yq2 := (hYA).1.2 2 _ rfl
        have yq3 := (hYA).1.2 3 _ rfl
        have yq4 := (hYA).1.2 4 _ rfl
        have yq5 := (hYA).1.2 5 _ rfl
        have yq6 := (hYA).1.2 6 _ rfl
        have yq7 := (hYA).1.2 7 _ rfl
        have yq8 := (hYA).1.2 8 _ rfl
        have yq9 := (hYA).1.2 9 _ rfl
        have yq10 := (hYA).1.2 10 _ rfl
        have yq11 := (hYA).1.2 11 _ rfl
        have pl := hXA.1.1
        have yql := hYA.1.1
        clear e6 el f6 fl hX hY
        go_wp2_with fail
        refine (HSB.out _ hb4).mono ?_; rintro e w5 ⟨rfl, hb5⟩
        clear p0 p1 p2 p3 p4 p5 p6 p7 p8 p9 p10 p11 pl yq0 yq1 yq2 yq3 yq4 yq5 yq6 yq7 yq8 yq9 yq10 yq11 yql hXA hYA
        have hbf := hbd.trans hb5
        go_wp2
        go_roundw
        case rel => exact ⟨i + 1, by go_num, by omega, hbf⟩
        case measure => simp [intOf]; omega
    · obtain rfl : i = n := by omega
      have jk : decide ((i : Int) < (i : Int)) = false := by simp
      go_wp2
      clear e6 el f6 fl
      go_loopw [8] (fun iv wr => ∃ j : Nat, iv = .int .i64 j ∧ j ≤ m ∧ Bel w2 wr) (fun iv _ => m - (intOf iv).toNat)
      case atStart => exact ⟨0, rfl, Nat.zero_le _, hbr⟩
      case round =>
        clear hbr hX hY
        obtain ⟨j, rfl, hj, hbj⟩ := hrel
        obtain ⟨W4, rfl⟩ : ∃ X, X = wr := ⟨_, rfl⟩
        have hX := HS.out.1.bel hbj
        have hY := HS.out.2.1.bel hbj
        have e5 := hX.1.2 5 _ rfl
        have el := hX.1.1
        have f5 := hY.1.2 5 _ rfl
        have fl := hY.1.1
        by_cases hjm : j < m
        · have hjn : (j : Int) < (m : Int) := by omega
          obtain ⟨⟨br, bb, bl, bt⟩, hx⟩ : ∃ x, bs[j]? = some x := ⟨bs[j]'(by have := Hm.out; omega), List.getElem?_eq_getElem _⟩
          have hb3 := HS.out.2.2.trans hbj
          obtain ⟨g, o, cx, hfx, hgl, hcx⟩ := (HB.out.bel hb3).at (by have := Hm.out; omega)
          obtain ⟨g', o', cy, hfy, hgl', hcy⟩ := (HB'.out.bel hb3).at (by have := Hm.out; omega)
          injection hfx with h1 h2 h3
          subst h1
          injection hfy with h4 h5 h6
          subst h4
          have p0 := hcx _ _ (bkc_at hx (j := 0) rfl)
          have p1 := hcx _ _ (bkc_at hx (j := 1) rfl)
          have p2 := hcx _ _ (bkc_at hx (j := 2) rfl)
          have p3 := hcx _ _ (bkc_at hx (j := 3) rfl)
          have q0 := hcy _ _ (bkc_at hx (j := 0) rfl)
          have q1 := hcy _ _ (bkc_at hx (j := 1) rfl)
          have q2 := hcy _ _ (bkc_at hx (j := 2) rfl)
          have q3 := hcy _ _ (bkc_at hx (j := 3) rfl)
          simp only [Nat.add_zero, ← Nat.add_assoc] at p0 p1 p2 p3 q0 q1 q2 q3
          clear h2 h3 h5 h6 hx hcx hcy
          have rp0 := fun d os => cell_regrown p0 d os
          have rp1 := fun d os => cell_regrown p1 d os
          have rp2 := fun d os => cell_regrown p2 d os
          have rp3 := fun d os => cell_regrown p3 d os
          have rq0 := fun d os => cell_regrown q0 d os
          have rq1 := fun d os => cell_regrown q1 d os
          have rq2 := fun d os => cell_regrown q2 d os
          have rq3 := fun d os => cell_regrown q3 d os
          have re5 := fun d os => cell_regrown e5 d os
          have rf5 := fun d os => cell_regrown f5 d os
          go_upto_region 12 with fail
          refine wp_region_lex [] 11 (by kernel_rfl) (by kernel_rfl) ?_
          simp only [List.take_succ_cons, List.take_zero, List.drop_succ_cons, List.drop_zero]
          with_reducible refine lex_seg 11 _ _ _ _ (by kernel_rfl) ?_
          simp only [List.take_succ_cons, List.take_zero, List.drop_succ_cons, List.drop_zero]
          try simp only [Act.put, List.setIfInBounds_toArray, List.set_cons_succ, List.set_cons_zero]
          repeat (go_big_quiet_step (fail))
          with_reducible refine wpQuiet_nil ?_
          with_reducible refine lex_nil ?_
          clear rp0 rp1 rp2 rp3 rq0 rq1 rq2 rq3 re5 rf5 p0 p1 p2 p3 q0 q1 q2 q3 e5 el f5 fl hX hY
          have hbf := hbj.drew
          go_wp2
          go_roundw
          case rel => exact ⟨j + 1, by go_num, by omega, hbf⟩
          case measure => simp [intOf]; omega
        · obtain rfl : j = m := by omega
          have jk2 : decide ((j : Int) < (j : Int)) = false := by simp
          go_wp2
          go_ret
          exact ⟨rfl, HS.out.2.2.trans hbj⟩
end Go.Proofs.YtpgjbocjhconoaaGreat
