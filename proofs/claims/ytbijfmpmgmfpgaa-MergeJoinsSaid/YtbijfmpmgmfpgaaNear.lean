/- The law's near: two bunches that stand side by side in most cases. -/
import Derived.Test.YtbijfmpmgmfpgaaBn
import Derived.Deep.DeepCutAuto
namespace Go.Proofs.Ytbijfmpmgmfpgaa
open Go.RowKit Go.Maps
set_option linter.unusedSimpArgs false

/-- What near keeps while it turns the second bunch: x in PA, y in PB, the members of y in A2. -/
structure NearAt (w wx : World) (PA PB A2 : Nat) (x y : BM) : Prop where
  a : AtF wx PA [.int .i64 (x.b).id, .int .i64 (x.b).ten, .int .i64 (x.b).knd, .int .i64 (x.b).sec, .int .i64 (x.b).cnt, .string (x.b).dat, .bool (x.b).fua, .slice (x.b).mA (x.b).mL (x.b).mC, .int .i64 (x.b).tim]
  b : AtF wx PB [.int .i64 (y.b).id, .int .i64 (y.b).ten, .int .i64 (y.b).knd, .int .i64 (y.b).sec, .int .i64 (y.b).cnt, .string (y.b).dat, .bool (y.b).fua, .slice (y.b).mA (y.b).mL (y.b).mC, .int .i64 (y.b).tim]
  c : AtF wx w.heap.size [.int .i64 0, .int .i64 0, .int .i64 0, .int .i64 0, .int .i64 0, .string ⟨#[]⟩, .bool false, .slice none 0 0, .int .i64 0]
  d : AtF wx (w.heap.size + 1) [.int .i64 0, .int .i64 0, .int .i64 0, .int .i64 0, .int .i64 0, .string ⟨#[]⟩, .bool false, .slice none 0 0, .int .i64 0]
  mx : Mems wx x.b x.ms
  my : Mems wx y.b y.ms
  my2 : AtF wx A2 (mcells y.ms)
  ya : y.b.mA = some ⟨A2, 0, none⟩
  yl : 0 < y.ms.length
  xa : ∃ A1, x.b.mA = some ⟨A1, 0, none⟩ ∧ A1 ≠ A2 ∧ A1 ≠ PA ∧ A1 ≠ PB ∧ A1 ≠ w.heap.size ∧ A1 ≠ w.heap.size + 1
  n1 : A2 ≠ PA
  n2 : A2 ≠ PB
  n3 : w.heap.size + 1 < A2
  n4 : w.heap.size + 1 < PA
  n5 : PA < PB
  cn : 1 ≤ y.b.cnt ∧ y.b.cnt ≤ 3
  bel : Bel w wx

theorem NearAt.upd {w wx : World} {PA PB A2 : Nat} {x y : BM} (h : NearAt w wx PA PB A2 x y) (i : Nat) (v : Value) (y' : Bun) (he : ([.int .i64 (y.b).id, .int .i64 (y.b).ten, .int .i64 (y.b).knd, .int .i64 (y.b).sec, .int .i64 (y.b).cnt, .string (y.b).dat, .bool (y.b).fua, .slice (y.b).mA (y.b).mL (y.b).mC, .int .i64 (y.b).tim]).set i v = [.int .i64 (y').id, .int .i64 (y').ten, .int .i64 (y').knd, .int .i64 (y').sec, .int .i64 (y').cnt, .string (y').dat, .bool (y').fua, .slice (y').mA (y').mL (y').mC, .int .i64 (y').tim]) (hi : i < 9)
    (h1 : y'.mA = y.b.mA) (h2 : y'.mL = y.b.mL) (h3 : y'.mC = y.b.mC) (hd : y'.dat.size ≤ maxLen) (hc : y'.cnt = y.b.cnt) : NearAt w (wx.setCell ⟨PB, i, none⟩ v) PA PB A2 x ⟨y', y.ms⟩ := by
  obtain ⟨A1, g1, g2, g3, g4, g5, g6⟩ := h.xa
  have e1 := h.n1
  have e2 := h.n2
  have e3 := h.n3
  have e4 := h.n4
  have e5 := h.n5
  refine ⟨h.a.other (by omega) _ _, ?_, h.c.other (by omega) _ _, h.d.other (by omega) _ _, ?_, ?_, h.my2.other (by omega) _ _, h1.trans h.ya, h.yl, ⟨A1, g1, g2, g3, g4, g5, g6⟩, e1, e2, e3, e4, e5, by rw [hc]; exact h.cn, h.bel.setNew (by show w.heap.size ≤ PB; omega) _⟩
  · have := h.b.set i (by simpa using hi) v
    rw [he] at this
    exact this
  · exact ⟨h.mx.len, h.mx.rd.far (by rw [g1]; simp [Value.ownBlock]; omega) _, h.mx.ids, h.mx.dl⟩
  · refine ⟨h2.trans h.my.len, ?_, h.my.ids, hd⟩
    show Rd _ (.slice y'.mA y'.mL y'.mC) _ _ _
    rw [h1, h2, h3]
    exact h.my.rd.far (by rw [h.ya]; simp [Value.ownBlock]; omega) _
theorem NearAt.updM {w wx : World} {PA PB A2 : Nat} {x y : BM} (h : NearAt w wx PA PB A2 x y) (v : Int) (hv : IsInt v) : ∃ ms', NearAt w (wx.setCell ⟨A2, 0, none⟩ (.int .i64 v)) PA PB A2 x ⟨y.b, ms'⟩ := by
  obtain ⟨A1, g1, g2, g3, g4, g5, g6⟩ := h.xa
  have e1 := h.n1
  have e2 := h.n2
  have e3 := h.n3
  have e4 := h.n4
  have e5 := h.n5
  obtain ⟨yb, yms⟩ := y
  cases yms with
  | nil => exact absurd h.yl (by simp)
  | cons z rest =>
    have h2 := h.my2.set 0 (by simp [mcells, Mem.cells]) (.int .i64 v)
    have e : (mcells (z :: rest)).set 0 (.int .i64 v) = mcells (⟨v, z.off, z.cnt⟩ :: rest) := by simp [mcells, Mem.cells]
    simp only at h2
    rw [e] at h2
    have hl := h.my.len
    refine ⟨⟨v, z.off, z.cnt⟩ :: rest, h.a.other (by omega) _ _, h.b.other (by omega) _ _, h.c.other (by omega) _ _, h.d.other (by omega) _ _, ⟨h.mx.len, h.mx.rd.far (by rw [g1]; simp [Value.ownBlock]; omega) _, h.mx.ids, h.mx.dl⟩, ⟨by simpa using hl, ?_, ?_, h.my.dl⟩, h2, h.ya, by simp, ⟨A1, g1, g2, g3, g4, g5, g6⟩, e1, e2, e3, e4, e5, h.cn, h.bel.setNew (by show w.heap.size ≤ A2; omega) _⟩
    · obtain ⟨q1, A, c, q2, q3, q4, q5⟩ := h.my.rd
      refine ⟨by rw [mcells_len], A, c, q2, q3, q4, fun hn => ?_⟩
      obtain ⟨b, o, hA, hb, hcl⟩ := q5 hn
      have : A = some ⟨A2, 0, none⟩ := by
        have hy := h.ya
        simp only at hy q2
        rw [hy] at q2
        injection q2 with q6
        exact q6.symm
      rw [this] at hA
      injection hA with hA
      injection hA with hA1 hA2
      subst hA1 hA2
      exact ⟨A2, 0, this, h2.1.1, fun j u hu => by rw [Nat.zero_add]; exact h2.1.2 j u hu⟩
    · intro m hm
      rcases List.mem_cons.1 hm with rfl | hm
      · exact hv
      · exact h.my.ids m (by simp [hm])

theorem NearAt.grow {w wx wy : World} {PA PB A2 : Nat} {x y : BM} (h : NearAt w wx PA PB A2 x y) (hb : Bel wx wy) : NearAt w wy PA PB A2 x y :=
  ⟨h.a.bel hb, h.b.bel hb, h.c.bel hb, h.d.bel hb, h.mx.bel hb, h.my.bel hb, h.my2.bel hb, h.ya, h.yl, h.xa, h.n1, h.n2, h.n3, h.n4, h.n5, h.cn, h.bel.trans hb⟩
theorem NearAt.fin {w wx : World} {PA PB A2 : Nat} {x y : BM} (h : NearAt w wx PA PB A2 x y) (vs us : List Value) (hv : vs.length = 9) (hu : us.length = 9) :
    AtF (setRow (setRow wx w.heap.size 0 vs) (w.heap.size + 1) 0 us) w.heap.size vs ∧ AtF (setRow (setRow wx w.heap.size 0 vs) (w.heap.size + 1) 0 us) (w.heap.size + 1) us ∧
    Mems (setRow (setRow wx w.heap.size 0 vs) (w.heap.size + 1) 0 us) x.b x.ms ∧ Mems (setRow (setRow wx w.heap.size 0 vs) (w.heap.size + 1) 0 us) y.b y.ms ∧ Bel w (setRow (setRow wx w.heap.size 0 vs) (w.heap.size + 1) 0 us) := by
  obtain ⟨A1, g1, g2, g3, g4, g5, g6⟩ := h.xa
  have e3 := h.n3
  refine ⟨(h.c.setRow vs (by rw [hv]; rfl)).setRow_other us (by omega), (h.d.setRow_other vs (by omega)).setRow us (by rw [hu]; rfl), ⟨h.mx.len, ?_, h.mx.ids, h.mx.dl⟩, ⟨h.my.len, ?_, h.my.ids, h.my.dl⟩, (h.bel.setRow vs (Nat.le_refl _)).setRow us (Nat.le_succ _)⟩
  · exact (h.mx.rd.setRow vs (by rw [g1]; simp [Value.ownBlock]; omega)).setRow us (by rw [g1]; simp [Value.ownBlock]; omega)
  · exact (h.my.rd.setRow vs (by rw [h.ya]; simp [Value.ownBlock]; omega)).setRow us (by rw [h.ya]; simp [Value.ownBlock]; omega)

set_option maxRecDepth 100000 in
set_option maxHeartbeats 8000000 in
theorem near_any (n m : Int) (w : World) :
    Calls Try.prog 21 #[.int .i64 n, .int .i64 m] w fun e w' => ∃ x y : BM, e = .returned (.tuple #[.agg #[.int .i64 (x.b).id, .int .i64 (x.b).ten, .int .i64 (x.b).knd, .int .i64 (x.b).sec, .int .i64 (x.b).cnt, .string (x.b).dat, .bool (x.b).fua, .slice (x.b).mA (x.b).mL (x.b).mC, .int .i64 (x.b).tim], .agg #[.int .i64 (y.b).id, .int .i64 (y.b).ten, .int .i64 (y.b).knd, .int .i64 (y.b).sec, .int .i64 (y.b).cnt, .string (y.b).dat, .bool (y.b).fua, .slice (y.b).mA (y.b).mL (y.b).mC, .int .i64 (y.b).tim]]) ∧ Mems w' x.b x.ms ∧ Mems w' y.b y.ms ∧ Bel w w' := by
  have hr := rnd_lo (m / 16777216) 8
  have hr2 := rnd_hi (m / 16777216) 8 (by omega)
  have HRD := Lib.hid (fun w' => round_any (m / 16777216) 8 w' (by omega))
  generalize rnd (m / 16777216) 8 = r at *
  go_enter Try.func21, Try.ntmps21
  go_wp2_with fail
  refine (bunchF_any n 1 _ (by omega)).mono ?_; rintro e w1 ⟨A1, rfl, hA1, ⟨hm1, -⟩, hb1⟩
  obtain ⟨X, HX⟩ : ∃ X, Hid (X = bnB n 1 A1) := ⟨_, rfl⟩
  have hxa : X.mA = some ⟨A1, 0, none⟩ := by rw [HX.out]; rfl
  have hxl : 0 < (bnM n 1).length := by unfold bnM; split <;> simp
  rw [← HX.out] at hm1 ⊢
  have hlA1 : A1 < w1.heap.size := hm1.rd.own_lt hxl (by rw [hxa]; rfl)
  generalize bnM n 1 = ms1 at *
  obtain ⟨i1, t1, k1, s1, n1, d1, f1, a1, l1, c1, m1⟩ := X
  simp only at hxa
  subst hxa
  simp only [Bun.arr]
  go_wp2_with fail
  refine (bunchF_any m 2 _ (by omega)).mono ?_; rintro e w2 ⟨A2, rfl, hA2, ⟨hm2, hf2⟩, hb2⟩
  obtain ⟨Y, HY⟩ : ∃ Y, Hid (Y = bnB m 2 A2) := ⟨_, rfl⟩
  have hya : Y.mA = some ⟨A2, 0, none⟩ := by rw [HY.out]; rfl
  have hyl : 0 < (bnM m 2).length := by unfold bnM; split <;> simp
  have HI1 : IsInt i1 := by have := HX.out; simp only [bnB, Bun.mk.injEq] at this; unfold IsInt; omega
  have HNX : Hid (0 ≤ s1 ∧ s1 < 14 ∧ 1 ≤ n1 ∧ n1 ≤ 3) := by
    have := HX.out; simp only [bnB, Bun.mk.injEq] at this
    have h3 := bnC_bd n
    have h4 := rnd_lo (n / 16) 14
    have h5 := rnd_hi (n / 16) 14 (by omega)
    show _ ∧ _
    omega
  have hyc : 1 ≤ Y.cnt ∧ Y.cnt ≤ 3 := by
    have := bnC_bd m
    rw [HY.out]
    show 1 ≤ 1 + bnC m ∧ 1 + bnC m ≤ 3
    omega
  rw [← HY.out] at hm2 ⊢
  have hlA2 : A2 < w2.heap.size := hf2.1.1
  generalize bnM m 2 = ms2 at *
  obtain ⟨i2, t2, k2, s2, n2, d2, f2, a2, l2, c2, m2⟩ := Y
  simp only at hya hyc
  subst hya
  simp only [Bun.arr]
  simp only [World.size_alloc] at hA1
  have hz1 := hb1.size
  have hz2 := hb2.size
  simp only [World.size_alloc] at hz1
  go_wp2_with fail
  refine (HRD.out _).mono ?_; rintro e w3 ⟨rfl, rfl⟩
  have H0 : NearAt w ((w2.alloc (.cells #[.int .i64 i1, .int .i64 t1, .int .i64 k1, .int .i64 s1, .int .i64 n1, .string d1, .bool f1, .slice (some ⟨A1, 0, none⟩) l1 c1, .int .i64 m1] 27)).alloc (.cells #[.int .i64 i2, .int .i64 t2, .int .i64 k2, .int .i64 s2, .int .i64 n2, .string d2, .bool f2, .slice (some ⟨A2, 0, none⟩) l2 c2, .int .i64 m2] 27)) w2.heap.size (w2.heap.size + 1) A2 ⟨⟨i1, t1, k1, s1, n1, d1, f1, some ⟨A1, 0, none⟩, l1, c1, m1⟩, ms1⟩ ⟨⟨i2, t2, k2, s2, n2, d2, f2, some ⟨A2, 0, none⟩, l2, c2, m2⟩, ms2⟩ := by
    have hc := ((((AtF.new_at (w := w) rfl 27 [.int .i64 0, .int .i64 0, .int .i64 0, .int .i64 0, .int .i64 0, .string ⟨#[]⟩, .bool false, .slice none 0 0, .int .i64 0]).alloc (.cells [.int .i64 0, .int .i64 0, .int .i64 0, .int .i64 0, .int .i64 0, .string ⟨#[]⟩, .bool false, .slice none 0 0, .int .i64 0].toArray 27)).bel hb1).bel hb2)
    have hd := (((AtF.new_at (w := w.alloc (.cells [.int .i64 0, .int .i64 0, .int .i64 0, .int .i64 0, .int .i64 0, .string ⟨#[]⟩, .bool false, .slice none 0 0, .int .i64 0].toArray 27)) (g := w.heap.size + 1) (by simp) 27 [.int .i64 0, .int .i64 0, .int .i64 0, .int .i64 0, .int .i64 0, .string ⟨#[]⟩, .bool false, .slice none 0 0, .int .i64 0]).bel hb1).bel hb2)
    exact ⟨(AtF.new_at rfl _ _).alloc _, AtF.new_at (by simp) _ _, (hc.alloc _).alloc _, (hd.alloc _).alloc _, ((hm1.bel hb2).bel ((Bel.refl _).alloc _)).bel ((Bel.refl _).alloc _), (hm2.bel ((Bel.refl _).alloc _)).bel ((Bel.refl _).alloc _), (hf2.alloc _).alloc _, rfl, hyl, ⟨A1, rfl, by omega, by omega, by omega, by omega, by omega⟩, by omega, by omega, by omega, by omega, by omega, hyc, (((((((Bel.refl _).alloc _).alloc _).trans hb1).trans hb2).alloc _).alloc _)⟩
  have hnl : 0 < l2 := by have := hm2.len; simp only at this; omega
  have hnc : l2 ≤ c2 := by
    have := hm2.rd.form
    obtain ⟨A, c, h1, h2, h3⟩ := this
    have h4 := hm2.len
    simp only at h1 h4
    injection h1 with h5 h6 h7
    omega
  obtain ⟨x1, x2, x3, x4⟩ := HNX.out
  have hn2 : ((n2.toNat : Nat) : Int) = n2 := by omega
  have HDT := Lib.hid (fun w' => data_any m n2.toNat w' (by omega) (by omega))
  rw [hn2] at HDT
  have hdz : (dataB m n2.toNat).size ≤ maxLen := by rw [dataB_size]; unfold maxLen; omega
  generalize dataB m n2.toNat = db at *
  obtain ⟨y1, y2⟩ := hyc
  clear hn2
  clear hb1 hb2 hm1 hm2 hf2 hyl HX HNX HY hA1 hA2 hlA1 hlA2 hz1 hz2 hxl
  generalize World.alloc _ _ = W at H0 ⊢
  generalize w2.heap.size = PA at *
  obtain ⟨hdl1, hdl2⟩ := Hid.out (show Hid (d1.size ≤ maxLen ∧ d2.size ≤ maxLen) from ⟨H0.mx.dl, H0.my.dl⟩)
  go_upto_region 3 with fail
  have hr3 : r = 0 ∨ r = 1 ∨ r = 2 ∨ r = 3 ∨ r = 4 ∨ r = 5 ∨ r = 6 ∨ r = 7 := by omega
  rcases hr3 with rfl | rfl | rfl | rfl | rfl | rfl | rfl | rfl
  · skip
    have p0 := (H0.a).1.2 0 _ rfl
    have p1 := (H0.a).1.2 1 _ rfl
    have p2 := (H0.a).1.2 2 _ rfl
    have p3 := (H0.a).1.2 3 _ rfl
    have p4 := (H0.a).1.2 4 _ rfl
    have p5 := (H0.a).1.2 5 _ rfl
    have p6 := (H0.a).1.2 6 _ rfl
    have p7 := (H0.a).1.2 7 _ rfl
    have p8 := (H0.a).1.2 8 _ rfl
    have q0 := (H0.b).1.2 0 _ rfl
    have q1 := (H0.b).1.2 1 _ rfl
    have q2 := (H0.b).1.2 2 _ rfl
    have q3 := (H0.b).1.2 3 _ rfl
    have q4 := (H0.b).1.2 4 _ rfl
    have q5 := (H0.b).1.2 5 _ rfl
    have q6 := (H0.b).1.2 6 _ rfl
    have q7 := (H0.b).1.2 7 _ rfl
    have q8 := (H0.b).1.2 8 _ rfl
    have qf := H0.b.2
    let NRS : World → Prop := fun W' => AtF W' PA [.int .i64 i1, .int .i64 t1, .int .i64 k1, .int .i64 s1, .int .i64 n1, .string d1, .bool f1, .slice (some ⟨A1, 0, none⟩) l1 c1, .int .i64 m1]
    haveI nnS : Nonempty (InS NRS) := ⟨⟨W, H0.a⟩⟩
    go_wp2_with fail
    have rg1 := fun (p : InS NRS) => p.h.1.2 1 _ rfl
    have rg2 := fun (p : InS NRS) => p.h.1.2 2 _ rfl
    have rg3 := fun (p : InS NRS) => p.h.1.2 3 _ rfl
    have rg4 := fun (p : InS NRS) => p.h.1.2 4 _ rfl
    have rg6 := fun (p : InS NRS) => p.h.1.2 6 _ rfl
    refine wp_region_sts NRS [12, 14, 16] 18 (by kernel_rfl) (by kernel_rfl) ?hS0 ?_
    case hS0 => exact H0.a.drew
    with_reducible refine st_sel [0, 1, 2, 3, 4, 5, 6, 7, 8, 9, 10, 11] (by kernel_rfl) (by kernel_rfl) ?_
    simp only [picked, List.getElem?_cons_succ, List.getElem?_cons_zero, Option.toList_some, List.nil_append, List.cons_append, List.append_nil]
    try simp only [Act.put, List.setIfInBounds_toArray, List.set_cons_succ, List.set_cons_zero]
    repeat (go_big_quiet_step (fail))
    with_reducible refine wpQuiet_nil ?_
    refine st_branch [12] (by kernel_rfl) (branch_cons (by simp only [List.getElem?_toArray, List.getElem?_cons_succ, List.getElem?_cons_zero]; rfl) ?_ branch_nil)
    refine eff_done_s rfl (by simp [go_sem, q1, q2, q3, q6, qf]; rfl) ?hS1 ?_
    case hS1 => exact (by repeat (first | (with_reducible exact H0.a) | (with_reducible exact H0.a.drew) | (refine AtF.other ?_ (by omega) _ _)))
    try simp only [List.nil_append, List.cons_append, Act.put, List.setIfInBounds_toArray, List.set_cons_succ, List.set_cons_zero]
    with_reducible refine st_sel [13] (by kernel_rfl) (by kernel_rfl) ?_
    simp only [picked, List.getElem?_cons_succ, List.getElem?_cons_zero, Option.toList_some, List.nil_append, List.cons_append, List.append_nil]
    try simp only [Act.put, List.setIfInBounds_toArray, List.set_cons_succ, List.set_cons_zero]
    repeat (go_big_quiet_step (fail))
    with_reducible refine wpQuiet_nil ?_
    refine st_branch [14] (by kernel_rfl) (branch_cons (by simp only [List.getElem?_toArray, List.getElem?_cons_succ, List.getElem?_cons_zero]; rfl) ?_ branch_nil)
    refine eff_done_s rfl (by simp [go_sem, q1, q2, q3, q6, qf]; rfl) ?hS1 ?_
    case hS1 => exact (by repeat (first | (with_reducible exact H0.a) | (with_reducible exact H0.a.drew) | (refine AtF.other ?_ (by omega) _ _)))
    try simp only [List.nil_append, List.cons_append, Act.put, List.setIfInBounds_toArray, List.set_cons_succ, List.set_cons_zero]
    with_reducible refine st_sel [15] (by kernel_rfl) (by kernel_rfl) ?_
    simp only [picked, List.getElem?_cons_succ, List.getElem?_cons_zero, Option.toList_some, List.nil_append, List.cons_append, List.append_nil]
    try simp only [Act.put, List.setIfInBounds_toArray, List.set_cons_succ, List.set_cons_zero]
    repeat (go_big_quiet_step (fail))
    with_reducible refine wpQuiet_nil ?_
    refine st_branch [16] (by kernel_rfl) (branch_cons (by simp only [List.getElem?_toArray, List.getElem?_cons_succ, List.getElem?_cons_zero]; rfl) ?_ branch_nil)
    refine eff_done_s rfl (by simp [go_sem, q1, q2, q3, q6, qf]; rfl) ?hS1 ?_
    case hS1 => exact (by repeat (first | (with_reducible exact H0.a) | (with_reducible exact H0.a.drew) | (refine AtF.other ?_ (by omega) _ _)))
    try simp only [List.nil_append, List.cons_append, Act.put, List.setIfInBounds_toArray, List.set_cons_succ, List.set_cons_zero]
    with_reducible refine st_sel [17] (by kernel_rfl) (by kernel_rfl) ?_
    simp only [picked, List.getElem?_cons_succ, List.getElem?_cons_zero, Option.toList_some, List.nil_append, List.cons_append, List.append_nil]
    try simp only [Act.put, List.setIfInBounds_toArray, List.set_cons_succ, List.set_cons_zero]
    repeat (go_big_quiet_step (fail))
    with_reducible refine wpQuiet_nil ?_
    refine st_end (by kernel_rfl) ?_
    simp only [List.drop_succ_cons, List.drop_zero, List.drop_nil]
    skip
    clear rg1 rg2 rg3 rg4 rg6
    have H1 := ((((H0.upd 3 (.int .i64 (s1 + n1)) ⟨i2, t2, k2, s1 + n1, n2, d2, f2, some ⟨A2, 0, none⟩, l2, c2, m2⟩ rfl (by omega) rfl rfl rfl hdl2 rfl).upd 2 (.int .i64 k1) ⟨i2, t2, k1, s1 + n1, n2, d2, f2, some ⟨A2, 0, none⟩, l2, c2, m2⟩ rfl (by omega) rfl rfl rfl hdl2 rfl).upd 1 (.int .i64 t1) ⟨i2, t1, k1, s1 + n1, n2, d2, f2, some ⟨A2, 0, none⟩, l2, c2, m2⟩ rfl (by omega) rfl rfl rfl hdl2 rfl).upd 6 (.bool f1) ⟨i2, t1, k1, s1 + n1, n2, d2, f1, some ⟨A2, 0, none⟩, l2, c2, m2⟩ rfl (by omega) rfl rfl rfl hdl2 rfl).grow (Bel.drew (Bel.refl _))
    go_upto_region 14 with fail
    generalize World.drew _ = W1 at H1 ⊢
    clear p0 p1 p2 p3 p4 p5 p6 p7 p8 q0 q1 q2 q3 q4 q5 q6 q7 q8 qf nnS NRS H0
    have q2 := H1.b.1.2 2 _ rfl
    have q4 := H1.b.1.2 4 _ rfl
    have q5 := H1.b.1.2 5 _ rfl
    have qf := H1.b.2
    have ql := H1.b.1.1
    by_cases hk : k1 = 1
    · have hkb : (k1 == 1) = true := by simpa using hk
      have H2 := H1.upd 5 (.string ⟨#[]⟩) ⟨i2, t1, k1, (s1 + n1), n2, ⟨#[]⟩, f1, some ⟨A2, 0, none⟩, l2, c2, m2⟩ rfl (by omega) rfl rfl rfl (by show 0 ≤ maxLen; unfold maxLen; omega) rfl
      clear hk
      go_upto_region 18 with fail
      generalize World.setCell _ _ _ = W2 at H2 ⊢
      clear q2 q4 q5 qf ql H1
      let NFS : World → Prop := fun W' => AtF W' PA [.int .i64 i1, .int .i64 t1, .int .i64 k1, .int .i64 s1, .int .i64 n1, .string d1, .bool f1, .slice (some ⟨A1, 0, none⟩) l1 c1, .int .i64 m1] ∧ AtF W' (PA + 1) [.int .i64 i2, .int .i64 t1, .int .i64 k1, .int .i64 (s1 + n1), .int .i64 n2, .string ⟨#[]⟩, .bool f1, .slice (some ⟨A2, 0, none⟩) l2 c2, .int .i64 m2]
      haveI nnS : Nonempty (InS NFS) := ⟨⟨W2, H2.a, H2.b⟩⟩
      have e4 := H2.n4
      have ra0 := fun (p : InS NFS) => p.h.1.1.2 0 _ rfl
      have rb0 := fun (p : InS NFS) => p.h.2.1.2 0 _ rfl
      have ra1 := fun (p : InS NFS) => p.h.1.1.2 1 _ rfl
      have rb1 := fun (p : InS NFS) => p.h.2.1.2 1 _ rfl
      have ra2 := fun (p : InS NFS) => p.h.1.1.2 2 _ rfl
      have rb2 := fun (p : InS NFS) => p.h.2.1.2 2 _ rfl
      have ra3 := fun (p : InS NFS) => p.h.1.1.2 3 _ rfl
      have rb3 := fun (p : InS NFS) => p.h.2.1.2 3 _ rfl
      have ra4 := fun (p : InS NFS) => p.h.1.1.2 4 _ rfl
      have rb4 := fun (p : InS NFS) => p.h.2.1.2 4 _ rfl
      have ra5 := fun (p : InS NFS) => p.h.1.1.2 5 _ rfl
      have rb5 := fun (p : InS NFS) => p.h.2.1.2 5 _ rfl
      have ra6 := fun (p : InS NFS) => p.h.1.1.2 6 _ rfl
      have rb6 := fun (p : InS NFS) => p.h.2.1.2 6 _ rfl
      have ra7 := fun (p : InS NFS) => p.h.1.1.2 7 _ rfl
      have rb7 := fun (p : InS NFS) => p.h.2.1.2 7 _ rfl
      have ra8 := fun (p : InS NFS) => p.h.1.1.2 8 _ rfl
      have rb8 := fun (p : InS NFS) => p.h.2.1.2 8 _ rfl
      have z0 := (H2.c).1.2 0 _ rfl
      have z1 := (H2.c).1.2 1 _ rfl
      have z2 := (H2.c).1.2 2 _ rfl
      have z3 := (H2.c).1.2 3 _ rfl
      have z4 := (H2.c).1.2 4 _ rfl
      have z5 := (H2.c).1.2 5 _ rfl
      have z6 := (H2.c).1.2 6 _ rfl
      have z7 := (H2.c).1.2 7 _ rfl
      have z8 := (H2.c).1.2 8 _ rfl
      have u0 := (H2.d).1.2 0 _ rfl
      have u1 := (H2.d).1.2 1 _ rfl
      have u2 := (H2.d).1.2 2 _ rfl
      have u3 := (H2.d).1.2 3 _ rfl
      have u4 := (H2.d).1.2 4 _ rfl
      have u5 := (H2.d).1.2 5 _ rfl
      have u6 := (H2.d).1.2 6 _ rfl
      have u7 := (H2.d).1.2 7 _ rfl
      have u8 := (H2.d).1.2 8 _ rfl
      have cf := H2.c.2
      have uf := H2.d.2
      have cl := H2.c.1.1
      have ul := H2.d.1.1
      have HA := H2.a
      have HB := H2.b
      refine wp_region_sts NFS [2] 3 (by kernel_rfl) (by kernel_rfl) ?hS0 ?_
      case hS0 => exact ⟨HA.drew, HB.drew⟩
      with_reducible refine st_sel [0, 1] (by kernel_rfl) (by kernel_rfl) ?_
      simp only [picked, List.getElem?_cons_succ, List.getElem?_cons_zero, Option.toList_some, List.nil_append, List.cons_append, List.append_nil]
      try simp only [Act.put, List.setIfInBounds_toArray, List.set_cons_succ, List.set_cons_zero]
      repeat (go_big_quiet_step (fail))
      with_reducible refine wpQuiet_nil ?_
      refine st_branch [2] (by kernel_rfl) (branch_cons (by simp only [List.getElem?_toArray, List.getElem?_cons_succ, List.getElem?_cons_zero]; rfl) ?_ branch_nil)
      refine eff_done_s rfl (by simp [go_sem, z0, z1, z2, z3, z4, z5, z6, z7, z8, cf]; rfl) ?hS1 ?_
      case hS1 => exact (by constructor <;> repeat (first | (with_reducible exact HA) | (with_reducible exact HB) | (with_reducible refine AtF.drew ?_) | (with_reducible refine AtF.other ?_ (by omega) _ _)))
      try simp only [List.nil_append, List.cons_append, Act.put, List.setIfInBounds_toArray, List.set_cons_succ, List.set_cons_zero]
      refine st_end (by kernel_rfl) ?_
      simp only [List.drop_succ_cons, List.drop_zero, List.drop_nil]
      skip
      clear ra0 ra1 ra2 ra3 ra4 ra5 ra6 ra7 ra8 rb0 rb1 rb2 rb3 rb4 rb5 rb6 rb7 rb8 nnS NFS
      go_wp2
      have H3 := H2.fin [.int .i64 i1, .int .i64 t1, .int .i64 k1, .int .i64 s1, .int .i64 n1, .string d1, .bool f1, .slice (some ⟨A1, 0, none⟩) l1 c1, .int .i64 m1] [.int .i64 i2, .int .i64 t1, .int .i64 k1, .int .i64 (s1 + n1), .int .i64 n2, .string ⟨#[]⟩, .bool f1, .slice (some ⟨A2, 0, none⟩) l2 c2, .int .i64 m2] rfl rfl
      have g1 := H3.1.drew
      have g2 := H3.2.1.drew
      have g5 := H3.2.2.2.2.drew
      clear z0 z1 z2 z3 z4 z5 z6 z7 z8 u0 u1 u2 u3 u4 u5 u6 u7 u8
      have z0 := (g1).1.2 0 _ rfl
      have z1 := (g1).1.2 1 _ rfl
      have z2 := (g1).1.2 2 _ rfl
      have z3 := (g1).1.2 3 _ rfl
      have z4 := (g1).1.2 4 _ rfl
      have z5 := (g1).1.2 5 _ rfl
      have z6 := (g1).1.2 6 _ rfl
      have z7 := (g1).1.2 7 _ rfl
      have z8 := (g1).1.2 8 _ rfl
      have u0 := (g2).1.2 0 _ rfl
      have u1 := (g2).1.2 1 _ rfl
      have u2 := (g2).1.2 2 _ rfl
      have u3 := (g2).1.2 3 _ rfl
      have u4 := (g2).1.2 4 _ rfl
      have u5 := (g2).1.2 5 _ rfl
      have u6 := (g2).1.2 6 _ rfl
      have u7 := (g2).1.2 7 _ rfl
      have u8 := (g2).1.2 8 _ rfl
      exact bodyPost_ret (v := .tuple #[.agg #[.int .i64 i1, .int .i64 t1, .int .i64 k1, .int .i64 s1, .int .i64 n1, .string d1, .bool f1, .slice (some ⟨A1, 0, none⟩) l1 c1, .int .i64 m1], .agg #[.int .i64 i2, .int .i64 t1, .int .i64 k1, .int .i64 (s1 + n1), .int .i64 n2, .string ⟨#[]⟩, .bool f1, .slice (some ⟨A2, 0, none⟩) l2 c2, .int .i64 m2]])
        (by simp only [setRow] at z0 z1 z2 z3 z4 z5 z6 z7 z8 u0 u1 u2 u3 u4 u5 u6 u7 u8; simp [results, Try.results21, go_sem, z0, z1, z2, z3, z4, z5, z6, z7, z8, u0, u1, u2, u3, u4, u5, u6, u7, u8])
        rfl ⟨⟨⟨i1, t1, k1, s1, n1, d1, f1, some ⟨A1, 0, none⟩, l1, c1, m1⟩, _⟩, ⟨⟨i2, t1, k1, (s1 + n1), n2, ⟨#[]⟩, f1, some ⟨A2, 0, none⟩, l2, c2, m2⟩, _⟩, rfl, H3.2.2.1.bel (Bel.drew (Bel.refl _)), H3.2.2.2.1.bel (Bel.drew (Bel.refl _)), g5⟩
    · have hkb : (k1 == 1) = false := by simpa using hk
      clear hk
      rcases Bool.eq_false_or_eq_true d2.toList.isEmpty with hdb | hdb
      · go_wp2_with fail
        refine (HDT.out _).mono ?_; rintro e wd ⟨rfl, hbd⟩
        have H1' := H1.grow hbd
        have q5' := H1'.b.1.2 5 _ rfl
        have qf' := H1'.b.2
        have ql' := H1'.b.1.1
        have H2 := H1'.upd 5 (.string db) ⟨i2, t1, k1, (s1 + n1), n2, db, f1, some ⟨A2, 0, none⟩, l2, c2, m2⟩ rfl (by omega) rfl rfl rfl hdz rfl
        clear q2 q4 q5 qf ql H1 hbd H1'
        go_upto_region 18 with fail
        generalize World.setCell _ _ _ = W2 at H2 ⊢
        clear q5' qf' ql'
        let NFS : World → Prop := fun W' => AtF W' PA [.int .i64 i1, .int .i64 t1, .int .i64 k1, .int .i64 s1, .int .i64 n1, .string d1, .bool f1, .slice (some ⟨A1, 0, none⟩) l1 c1, .int .i64 m1] ∧ AtF W' (PA + 1) [.int .i64 i2, .int .i64 t1, .int .i64 k1, .int .i64 (s1 + n1), .int .i64 n2, .string db, .bool f1, .slice (some ⟨A2, 0, none⟩) l2 c2, .int .i64 m2]
        haveI nnS : Nonempty (InS NFS) := ⟨⟨W2, H2.a, H2.b⟩⟩
        have e4 := H2.n4
        have ra0 := fun (p : InS NFS) => p.h.1.1.2 0 _ rfl
        have rb0 := fun (p : InS NFS) => p.h.2.1.2 0 _ rfl
        have ra1 := fun (p : InS NFS) => p.h.1.1.2 1 _ rfl
        have rb1 := fun (p : InS NFS) => p.h.2.1.2 1 _ rfl
        have ra2 := fun (p : InS NFS) => p.h.1.1.2 2 _ rfl
        have rb2 := fun (p : InS NFS) => p.h.2.1.2 2 _ rfl
        have ra3 := fun (p : InS NFS) => p.h.1.1.2 3 _ rfl
        have rb3 := fun (p : InS NFS) => p.h.2.1.2 3 _ rfl
        have ra4 := fun (p : InS NFS) => p.h.1.1.2 4 _ rfl
        have rb4 := fun (p : InS NFS) => p.h.2.1.2 4 _ rfl
        have ra5 := fun (p : InS NFS) => p.h.1.1.2 5 _ rfl
        have rb5 := fun (p : InS NFS) => p.h.2.1.2 5 _ rfl
        have ra6 := fun (p : InS NFS) => p.h.1.1.2 6 _ rfl
        have rb6 := fun (p : InS NFS) => p.h.2.1.2 6 _ rfl
        have ra7 := fun (p : InS NFS) => p.h.1.1.2 7 _ rfl
        have rb7 := fun (p : InS NFS) => p.h.2.1.2 7 _ rfl
        have ra8 := fun (p : InS NFS) => p.h.1.1.2 8 _ rfl
        have rb8 := fun (p : InS NFS) => p.h.2.1.2 8 _ rfl
        have z0 := (H2.c).1.2 0 _ rfl
        have z1 := (H2.c).1.2 1 _ rfl
        have z2 := (H2.c).1.2 2 _ rfl
        have z3 := (H2.c).1.2 3 _ rfl
        have z4 := (H2.c).1.2 4 _ rfl
        have z5 := (H2.c).1.2 5 _ rfl
        have z6 := (H2.c).1.2 6 _ rfl
        have z7 := (H2.c).1.2 7 _ rfl
        have z8 := (H2.c).1.2 8 _ rfl
        have u0 := (H2.d).1.2 0 _ rfl
        have u1 := (H2.d).1.2 1 _ rfl
        have u2 := (H2.d).1.2 2 _ rfl
        have u3 := (H2.d).1.2 3 _ rfl
        have u4 := (H2.d).1.2 4 _ rfl
        have u5 := (H2.d).1.2 5 _ rfl
        have u6 := (H2.d).1.2 6 _ rfl
        have u7 := (H2.d).1.2 7 _ rfl
        have u8 := (H2.d).1.2 8 _ rfl
        have cf := H2.c.2
        have uf := H2.d.2
        have cl := H2.c.1.1
        have ul := H2.d.1.1
        have HA := H2.a
        have HB := H2.b
        refine wp_region_sts NFS [2] 3 (by kernel_rfl) (by kernel_rfl) ?hS0 ?_
        case hS0 => exact ⟨HA.drew, HB.drew⟩
        with_reducible refine st_sel [0, 1] (by kernel_rfl) (by kernel_rfl) ?_
        simp only [picked, List.getElem?_cons_succ, List.getElem?_cons_zero, Option.toList_some, List.nil_append, List.cons_append, List.append_nil]
        try simp only [Act.put, List.setIfInBounds_toArray, List.set_cons_succ, List.set_cons_zero]
        repeat (go_big_quiet_step (fail))
        with_reducible refine wpQuiet_nil ?_
        refine st_branch [2] (by kernel_rfl) (branch_cons (by simp only [List.getElem?_toArray, List.getElem?_cons_succ, List.getElem?_cons_zero]; rfl) ?_ branch_nil)
        refine eff_done_s rfl (by simp [go_sem, z0, z1, z2, z3, z4, z5, z6, z7, z8, cf]; rfl) ?hS1 ?_
        case hS1 => exact (by constructor <;> repeat (first | (with_reducible exact HA) | (with_reducible exact HB) | (with_reducible refine AtF.drew ?_) | (with_reducible refine AtF.other ?_ (by omega) _ _)))
        try simp only [List.nil_append, List.cons_append, Act.put, List.setIfInBounds_toArray, List.set_cons_succ, List.set_cons_zero]
        refine st_end (by kernel_rfl) ?_
        simp only [List.drop_succ_cons, List.drop_zero, List.drop_nil]
        skip
        clear ra0 ra1 ra2 ra3 ra4 ra5 ra6 ra7 ra8 rb0 rb1 rb2 rb3 rb4 rb5 rb6 rb7 rb8 nnS NFS
        go_wp2
        have H3 := H2.fin [.int .i64 i1, .int .i64 t1, .int .i64 k1, .int .i64 s1, .int .i64 n1, .string d1, .bool f1, .slice (some ⟨A1, 0, none⟩) l1 c1, .int .i64 m1] [.int .i64 i2, .int .i64 t1, .int .i64 k1, .int .i64 (s1 + n1), .int .i64 n2, .string db, .bool f1, .slice (some ⟨A2, 0, none⟩) l2 c2, .int .i64 m2] rfl rfl
        have g1 := H3.1.drew
        have g2 := H3.2.1.drew
        have g5 := H3.2.2.2.2.drew
        clear z0 z1 z2 z3 z4 z5 z6 z7 z8 u0 u1 u2 u3 u4 u5 u6 u7 u8
        have z0 := (g1).1.2 0 _ rfl
        have z1 := (g1).1.2 1 _ rfl
        have z2 := (g1).1.2 2 _ rfl
        have z3 := (g1).1.2 3 _ rfl
        have z4 := (g1).1.2 4 _ rfl
        have z5 := (g1).1.2 5 _ rfl
        have z6 := (g1).1.2 6 _ rfl
        have z7 := (g1).1.2 7 _ rfl
        have z8 := (g1).1.2 8 _ rfl
        have u0 := (g2).1.2 0 _ rfl
        have u1 := (g2).1.2 1 _ rfl
        have u2 := (g2).1.2 2 _ rfl
        have u3 := (g2).1.2 3 _ rfl
        have u4 := (g2).1.2 4 _ rfl
        have u5 := (g2).1.2 5 _ rfl
        have u6 := (g2).1.2 6 _ rfl
        have u7 := (g2).1.2 7 _ rfl
        have u8 := (g2).1.2 8 _ rfl
        exact bodyPost_ret (v := .tuple #[.agg #[.int .i64 i1, .int .i64 t1, .int .i64 k1, .int .i64 s1, .int .i64 n1, .string d1, .bool f1, .slice (some ⟨A1, 0, none⟩) l1 c1, .int .i64 m1], .agg #[.int .i64 i2, .int .i64 t1, .int .i64 k1, .int .i64 (s1 + n1), .int .i64 n2, .string db, .bool f1, .slice (some ⟨A2, 0, none⟩) l2 c2, .int .i64 m2]])
          (by simp only [setRow] at z0 z1 z2 z3 z4 z5 z6 z7 z8 u0 u1 u2 u3 u4 u5 u6 u7 u8; simp [results, Try.results21, go_sem, z0, z1, z2, z3, z4, z5, z6, z7, z8, u0, u1, u2, u3, u4, u5, u6, u7, u8])
          rfl ⟨⟨⟨i1, t1, k1, s1, n1, d1, f1, some ⟨A1, 0, none⟩, l1, c1, m1⟩, _⟩, ⟨⟨i2, t1, k1, (s1 + n1), n2, db, f1, some ⟨A2, 0, none⟩, l2, c2, m2⟩, _⟩, rfl, H3.2.2.1.bel (Bel.drew (Bel.refl _)), H3.2.2.2.1.bel (Bel.drew (Bel.refl _)), g5⟩
      · go_upto_region 18 with fail
        clear q2 q4 q5 qf ql
        have H2 := H1
        clear H1
        obtain ⟨W2, rfl⟩ : ∃ W2, W2 = W1 := ⟨_, rfl⟩
        let NFS : World → Prop := fun W' => AtF W' PA [.int .i64 i1, .int .i64 t1, .int .i64 k1, .int .i64 s1, .int .i64 n1, .string d1, .bool f1, .slice (some ⟨A1, 0, none⟩) l1 c1, .int .i64 m1] ∧ AtF W' (PA + 1) [.int .i64 i2, .int .i64 t1, .int .i64 k1, .int .i64 (s1 + n1), .int .i64 n2, .string d2, .bool f1, .slice (some ⟨A2, 0, none⟩) l2 c2, .int .i64 m2]
        haveI nnS : Nonempty (InS NFS) := ⟨⟨W2, H2.a, H2.b⟩⟩
        have e4 := H2.n4
        have ra0 := fun (p : InS NFS) => p.h.1.1.2 0 _ rfl
        have rb0 := fun (p : InS NFS) => p.h.2.1.2 0 _ rfl
        have ra1 := fun (p : InS NFS) => p.h.1.1.2 1 _ rfl
        have rb1 := fun (p : InS NFS) => p.h.2.1.2 1 _ rfl
        have ra2 := fun (p : InS NFS) => p.h.1.1.2 2 _ rfl
        have rb2 := fun (p : InS NFS) => p.h.2.1.2 2 _ rfl
        have ra3 := fun (p : InS NFS) => p.h.1.1.2 3 _ rfl
        have rb3 := fun (p : InS NFS) => p.h.2.1.2 3 _ rfl
        have ra4 := fun (p : InS NFS) => p.h.1.1.2 4 _ rfl
        have rb4 := fun (p : InS NFS) => p.h.2.1.2 4 _ rfl
        have ra5 := fun (p : InS NFS) => p.h.1.1.2 5 _ rfl
        have rb5 := fun (p : InS NFS) => p.h.2.1.2 5 _ rfl
        have ra6 := fun (p : InS NFS) => p.h.1.1.2 6 _ rfl
        have rb6 := fun (p : InS NFS) => p.h.2.1.2 6 _ rfl
        have ra7 := fun (p : InS NFS) => p.h.1.1.2 7 _ rfl
        have rb7 := fun (p : InS NFS) => p.h.2.1.2 7 _ rfl
        have ra8 := fun (p : InS NFS) => p.h.1.1.2 8 _ rfl
        have rb8 := fun (p : InS NFS) => p.h.2.1.2 8 _ rfl
        have z0 := (H2.c).1.2 0 _ rfl
        have z1 := (H2.c).1.2 1 _ rfl
        have z2 := (H2.c).1.2 2 _ rfl
        have z3 := (H2.c).1.2 3 _ rfl
        have z4 := (H2.c).1.2 4 _ rfl
        have z5 := (H2.c).1.2 5 _ rfl
        have z6 := (H2.c).1.2 6 _ rfl
        have z7 := (H2.c).1.2 7 _ rfl
        have z8 := (H2.c).1.2 8 _ rfl
        have u0 := (H2.d).1.2 0 _ rfl
        have u1 := (H2.d).1.2 1 _ rfl
        have u2 := (H2.d).1.2 2 _ rfl
        have u3 := (H2.d).1.2 3 _ rfl
        have u4 := (H2.d).1.2 4 _ rfl
        have u5 := (H2.d).1.2 5 _ rfl
        have u6 := (H2.d).1.2 6 _ rfl
        have u7 := (H2.d).1.2 7 _ rfl
        have u8 := (H2.d).1.2 8 _ rfl
        have cf := H2.c.2
        have uf := H2.d.2
        have cl := H2.c.1.1
        have ul := H2.d.1.1
        have HA := H2.a
        have HB := H2.b
        refine wp_region_sts NFS [2] 3 (by kernel_rfl) (by kernel_rfl) ?hS0 ?_
        case hS0 => exact ⟨HA.drew, HB.drew⟩
        with_reducible refine st_sel [0, 1] (by kernel_rfl) (by kernel_rfl) ?_
        simp only [picked, List.getElem?_cons_succ, List.getElem?_cons_zero, Option.toList_some, List.nil_append, List.cons_append, List.append_nil]
        try simp only [Act.put, List.setIfInBounds_toArray, List.set_cons_succ, List.set_cons_zero]
        repeat (go_big_quiet_step (fail))
        with_reducible refine wpQuiet_nil ?_
        refine st_branch [2] (by kernel_rfl) (branch_cons (by simp only [List.getElem?_toArray, List.getElem?_cons_succ, List.getElem?_cons_zero]; rfl) ?_ branch_nil)
        refine eff_done_s rfl (by simp [go_sem, z0, z1, z2, z3, z4, z5, z6, z7, z8, cf]; rfl) ?hS1 ?_
        case hS1 => exact (by constructor <;> repeat (first | (with_reducible exact HA) | (with_reducible exact HB) | (with_reducible refine AtF.drew ?_) | (with_reducible refine AtF.other ?_ (by omega) _ _)))
        try simp only [List.nil_append, List.cons_append, Act.put, List.setIfInBounds_toArray, List.set_cons_succ, List.set_cons_zero]
        refine st_end (by kernel_rfl) ?_
        simp only [List.drop_succ_cons, List.drop_zero, List.drop_nil]
        skip
        clear ra0 ra1 ra2 ra3 ra4 ra5 ra6 ra7 ra8 rb0 rb1 rb2 rb3 rb4 rb5 rb6 rb7 rb8 nnS NFS
        go_wp2
        have H3 := H2.fin [.int .i64 i1, .int .i64 t1, .int .i64 k1, .int .i64 s1, .int .i64 n1, .string d1, .bool f1, .slice (some ⟨A1, 0, none⟩) l1 c1, .int .i64 m1] [.int .i64 i2, .int .i64 t1, .int .i64 k1, .int .i64 (s1 + n1), .int .i64 n2, .string d2, .bool f1, .slice (some ⟨A2, 0, none⟩) l2 c2, .int .i64 m2] rfl rfl
        have g1 := H3.1.drew
        have g2 := H3.2.1.drew
        have g5 := H3.2.2.2.2.drew
        clear z0 z1 z2 z3 z4 z5 z6 z7 z8 u0 u1 u2 u3 u4 u5 u6 u7 u8
        have z0 := (g1).1.2 0 _ rfl
        have z1 := (g1).1.2 1 _ rfl
        have z2 := (g1).1.2 2 _ rfl
        have z3 := (g1).1.2 3 _ rfl
        have z4 := (g1).1.2 4 _ rfl
        have z5 := (g1).1.2 5 _ rfl
        have z6 := (g1).1.2 6 _ rfl
        have z7 := (g1).1.2 7 _ rfl
        have z8 := (g1).1.2 8 _ rfl
        have u0 := (g2).1.2 0 _ rfl
        have u1 := (g2).1.2 1 _ rfl
        have u2 := (g2).1.2 2 _ rfl
        have u3 := (g2).1.2 3 _ rfl
        have u4 := (g2).1.2 4 _ rfl
        have u5 := (g2).1.2 5 _ rfl
        have u6 := (g2).1.2 6 _ rfl
        have u7 := (g2).1.2 7 _ rfl
        have u8 := (g2).1.2 8 _ rfl
        exact bodyPost_ret (v := .tuple #[.agg #[.int .i64 i1, .int .i64 t1, .int .i64 k1, .int .i64 s1, .int .i64 n1, .string d1, .bool f1, .slice (some ⟨A1, 0, none⟩) l1 c1, .int .i64 m1], .agg #[.int .i64 i2, .int .i64 t1, .int .i64 k1, .int .i64 (s1 + n1), .int .i64 n2, .string d2, .bool f1, .slice (some ⟨A2, 0, none⟩) l2 c2, .int .i64 m2]])
          (by simp only [setRow] at z0 z1 z2 z3 z4 z5 z6 z7 z8 u0 u1 u2 u3 u4 u5 u6 u7 u8; simp [results, Try.results21, go_sem, z0, z1, z2, z3, z4, z5, z6, z7, z8, u0, u1, u2, u3, u4, u5, u6, u7, u8])
          rfl ⟨⟨⟨i1, t1, k1, s1, n1, d1, f1, some ⟨A1, 0, none⟩, l1, c1, m1⟩, _⟩, ⟨⟨i2, t1, k1, (s1 + n1), n2, d2, f1, some ⟨A2, 0, none⟩, l2, c2, m2⟩, _⟩, rfl, H3.2.2.1.bel (Bel.drew (Bel.refl _)), H3.2.2.2.1.bel (Bel.drew (Bel.refl _)), g5⟩
  · skip
    have p0 := (H0.a).1.2 0 _ rfl
    have p1 := (H0.a).1.2 1 _ rfl
    have p2 := (H0.a).1.2 2 _ rfl
    have p3 := (H0.a).1.2 3 _ rfl
    have p4 := (H0.a).1.2 4 _ rfl
    have p5 := (H0.a).1.2 5 _ rfl
    have p6 := (H0.a).1.2 6 _ rfl
    have p7 := (H0.a).1.2 7 _ rfl
    have p8 := (H0.a).1.2 8 _ rfl
    have q0 := (H0.b).1.2 0 _ rfl
    have q1 := (H0.b).1.2 1 _ rfl
    have q2 := (H0.b).1.2 2 _ rfl
    have q3 := (H0.b).1.2 3 _ rfl
    have q4 := (H0.b).1.2 4 _ rfl
    have q5 := (H0.b).1.2 5 _ rfl
    have q6 := (H0.b).1.2 6 _ rfl
    have q7 := (H0.b).1.2 7 _ rfl
    have q8 := (H0.b).1.2 8 _ rfl
    have qf := H0.b.2
    let NRS : World → Prop := fun W' => AtF W' PA [.int .i64 i1, .int .i64 t1, .int .i64 k1, .int .i64 s1, .int .i64 n1, .string d1, .bool f1, .slice (some ⟨A1, 0, none⟩) l1 c1, .int .i64 m1]
    haveI nnS : Nonempty (InS NRS) := ⟨⟨W, H0.a⟩⟩
    go_wp2_with fail
    have rg1 := fun (p : InS NRS) => p.h.1.2 1 _ rfl
    have rg2 := fun (p : InS NRS) => p.h.1.2 2 _ rfl
    have rg3 := fun (p : InS NRS) => p.h.1.2 3 _ rfl
    have rg4 := fun (p : InS NRS) => p.h.1.2 4 _ rfl
    have rg6 := fun (p : InS NRS) => p.h.1.2 6 _ rfl
    refine wp_region_sts NRS [12, 14, 16] 18 (by kernel_rfl) (by kernel_rfl) ?hS0 ?_
    case hS0 => exact H0.a.drew
    with_reducible refine st_sel [0, 1, 2, 3, 4, 5, 6, 7, 8, 9, 10, 11] (by kernel_rfl) (by kernel_rfl) ?_
    simp only [picked, List.getElem?_cons_succ, List.getElem?_cons_zero, Option.toList_some, List.nil_append, List.cons_append, List.append_nil]
    try simp only [Act.put, List.setIfInBounds_toArray, List.set_cons_succ, List.set_cons_zero]
    repeat (go_big_quiet_step (fail))
    with_reducible refine wpQuiet_nil ?_
    refine st_branch [12] (by kernel_rfl) (branch_cons (by simp only [List.getElem?_toArray, List.getElem?_cons_succ, List.getElem?_cons_zero]; rfl) ?_ branch_nil)
    refine eff_done_s rfl (by simp [go_sem, q1, q2, q3, q6, qf]; rfl) ?hS1 ?_
    case hS1 => exact (by repeat (first | (with_reducible exact H0.a) | (with_reducible exact H0.a.drew) | (refine AtF.other ?_ (by omega) _ _)))
    try simp only [List.nil_append, List.cons_append, Act.put, List.setIfInBounds_toArray, List.set_cons_succ, List.set_cons_zero]
    with_reducible refine st_sel [13] (by kernel_rfl) (by kernel_rfl) ?_
    simp only [picked, List.getElem?_cons_succ, List.getElem?_cons_zero, Option.toList_some, List.nil_append, List.cons_append, List.append_nil]
    try simp only [Act.put, List.setIfInBounds_toArray, List.set_cons_succ, List.set_cons_zero]
    repeat (go_big_quiet_step (fail))
    with_reducible refine wpQuiet_nil ?_
    refine st_branch [14] (by kernel_rfl) (branch_cons (by simp only [List.getElem?_toArray, List.getElem?_cons_succ, List.getElem?_cons_zero]; rfl) ?_ branch_nil)
    refine eff_done_s rfl (by simp [go_sem, q1, q2, q3, q6, qf]; rfl) ?hS1 ?_
    case hS1 => exact (by repeat (first | (with_reducible exact H0.a) | (with_reducible exact H0.a.drew) | (refine AtF.other ?_ (by omega) _ _)))
    try simp only [List.nil_append, List.cons_append, Act.put, List.setIfInBounds_toArray, List.set_cons_succ, List.set_cons_zero]
    with_reducible refine st_sel [15] (by kernel_rfl) (by kernel_rfl) ?_
    simp only [picked, List.getElem?_cons_succ, List.getElem?_cons_zero, Option.toList_some, List.nil_append, List.cons_append, List.append_nil]
    try simp only [Act.put, List.setIfInBounds_toArray, List.set_cons_succ, List.set_cons_zero]
    repeat (go_big_quiet_step (fail))
    with_reducible refine wpQuiet_nil ?_
    refine st_branch [16] (by kernel_rfl) (branch_cons (by simp only [List.getElem?_toArray, List.getElem?_cons_succ, List.getElem?_cons_zero]; rfl) ?_ branch_nil)
    refine eff_done_s rfl (by simp [go_sem, q1, q2, q3, q6, qf]; rfl) ?hS1 ?_
    case hS1 => exact (by repeat (first | (with_reducible exact H0.a) | (with_reducible exact H0.a.drew) | (refine AtF.other ?_ (by omega) _ _)))
    try simp only [List.nil_append, List.cons_append, Act.put, List.setIfInBounds_toArray, List.set_cons_succ, List.set_cons_zero]
    with_reducible refine st_sel [17] (by kernel_rfl) (by kernel_rfl) ?_
    simp only [picked, List.getElem?_cons_succ, List.getElem?_cons_zero, Option.toList_some, List.nil_append, List.cons_append, List.append_nil]
    try simp only [Act.put, List.setIfInBounds_toArray, List.set_cons_succ, List.set_cons_zero]
    repeat (go_big_quiet_step (fail))
    with_reducible refine wpQuiet_nil ?_
    refine st_end (by kernel_rfl) ?_
    simp only [List.drop_succ_cons, List.drop_zero, List.drop_nil]
    skip
    clear rg1 rg2 rg3 rg4 rg6
    have H1 := ((((H0.upd 3 (.int .i64 (s1 + n1)) ⟨i2, t2, k2, s1 + n1, n2, d2, f2, some ⟨A2, 0, none⟩, l2, c2, m2⟩ rfl (by omega) rfl rfl rfl hdl2 rfl).upd 2 (.int .i64 k1) ⟨i2, t2, k1, s1 + n1, n2, d2, f2, some ⟨A2, 0, none⟩, l2, c2, m2⟩ rfl (by omega) rfl rfl rfl hdl2 rfl).upd 1 (.int .i64 t1) ⟨i2, t1, k1, s1 + n1, n2, d2, f2, some ⟨A2, 0, none⟩, l2, c2, m2⟩ rfl (by omega) rfl rfl rfl hdl2 rfl).upd 6 (.bool f1) ⟨i2, t1, k1, s1 + n1, n2, d2, f1, some ⟨A2, 0, none⟩, l2, c2, m2⟩ rfl (by omega) rfl rfl rfl hdl2 rfl).grow (Bel.drew (Bel.refl _))
    go_upto_region 14 with fail
    generalize World.drew _ = W1 at H1 ⊢
    clear p0 p1 p2 p3 p4 p5 p6 p7 p8 q0 q1 q2 q3 q4 q5 q6 q7 q8 qf nnS NRS H0
    have q2 := H1.b.1.2 2 _ rfl
    have q4 := H1.b.1.2 4 _ rfl
    have q5 := H1.b.1.2 5 _ rfl
    have qf := H1.b.2
    have ql := H1.b.1.1
    by_cases hk : k1 = 1
    · have hkb : (k1 == 1) = true := by simpa using hk
      have H2 := H1.upd 5 (.string ⟨#[]⟩) ⟨i2, t1, k1, (s1 + n1), n2, ⟨#[]⟩, f1, some ⟨A2, 0, none⟩, l2, c2, m2⟩ rfl (by omega) rfl rfl rfl (by show 0 ≤ maxLen; unfold maxLen; omega) rfl
      clear hk
      go_upto_region 18 with fail
      generalize World.setCell _ _ _ = W2 at H2 ⊢
      clear q2 q4 q5 qf ql H1
      let NFS : World → Prop := fun W' => AtF W' PA [.int .i64 i1, .int .i64 t1, .int .i64 k1, .int .i64 s1, .int .i64 n1, .string d1, .bool f1, .slice (some ⟨A1, 0, none⟩) l1 c1, .int .i64 m1] ∧ AtF W' (PA + 1) [.int .i64 i2, .int .i64 t1, .int .i64 k1, .int .i64 (s1 + n1), .int .i64 n2, .string ⟨#[]⟩, .bool f1, .slice (some ⟨A2, 0, none⟩) l2 c2, .int .i64 m2]
      haveI nnS : Nonempty (InS NFS) := ⟨⟨W2, H2.a, H2.b⟩⟩
      have e4 := H2.n4
      have ra0 := fun (p : InS NFS) => p.h.1.1.2 0 _ rfl
      have rb0 := fun (p : InS NFS) => p.h.2.1.2 0 _ rfl
      have ra1 := fun (p : InS NFS) => p.h.1.1.2 1 _ rfl
      have rb1 := fun (p : InS NFS) => p.h.2.1.2 1 _ rfl
      have ra2 := fun (p : InS NFS) => p.h.1.1.2 2 _ rfl
      have rb2 := fun (p : InS NFS) => p.h.2.1.2 2 _ rfl
      have ra3 := fun (p : InS NFS) => p.h.1.1.2 3 _ rfl
      have rb3 := fun (p : InS NFS) => p.h.2.1.2 3 _ rfl
      have ra4 := fun (p : InS NFS) => p.h.1.1.2 4 _ rfl
      have rb4 := fun (p : InS NFS) => p.h.2.1.2 4 _ rfl
      have ra5 := fun (p : InS NFS) => p.h.1.1.2 5 _ rfl
      have rb5 := fun (p : InS NFS) => p.h.2.1.2 5 _ rfl
      have ra6 := fun (p : InS NFS) => p.h.1.1.2 6 _ rfl
      have rb6 := fun (p : InS NFS) => p.h.2.1.2 6 _ rfl
      have ra7 := fun (p : InS NFS) => p.h.1.1.2 7 _ rfl
      have rb7 := fun (p : InS NFS) => p.h.2.1.2 7 _ rfl
      have ra8 := fun (p : InS NFS) => p.h.1.1.2 8 _ rfl
      have rb8 := fun (p : InS NFS) => p.h.2.1.2 8 _ rfl
      have z0 := (H2.c).1.2 0 _ rfl
      have z1 := (H2.c).1.2 1 _ rfl
      have z2 := (H2.c).1.2 2 _ rfl
      have z3 := (H2.c).1.2 3 _ rfl
      have z4 := (H2.c).1.2 4 _ rfl
      have z5 := (H2.c).1.2 5 _ rfl
      have z6 := (H2.c).1.2 6 _ rfl
      have z7 := (H2.c).1.2 7 _ rfl
      have z8 := (H2.c).1.2 8 _ rfl
      have u0 := (H2.d).1.2 0 _ rfl
      have u1 := (H2.d).1.2 1 _ rfl
      have u2 := (H2.d).1.2 2 _ rfl
      have u3 := (H2.d).1.2 3 _ rfl
      have u4 := (H2.d).1.2 4 _ rfl
      have u5 := (H2.d).1.2 5 _ rfl
      have u6 := (H2.d).1.2 6 _ rfl
      have u7 := (H2.d).1.2 7 _ rfl
      have u8 := (H2.d).1.2 8 _ rfl
      have cf := H2.c.2
      have uf := H2.d.2
      have cl := H2.c.1.1
      have ul := H2.d.1.1
      have HA := H2.a
      have HB := H2.b
      refine wp_region_sts NFS [2] 3 (by kernel_rfl) (by kernel_rfl) ?hS0 ?_
      case hS0 => exact ⟨HA.drew, HB.drew⟩
      with_reducible refine st_sel [0, 1] (by kernel_rfl) (by kernel_rfl) ?_
      simp only [picked, List.getElem?_cons_succ, List.getElem?_cons_zero, Option.toList_some, List.nil_append, List.cons_append, List.append_nil]
      try simp only [Act.put, List.setIfInBounds_toArray, List.set_cons_succ, List.set_cons_zero]
      repeat (go_big_quiet_step (fail))
      with_reducible refine wpQuiet_nil ?_
      refine st_branch [2] (by kernel_rfl) (branch_cons (by simp only [List.getElem?_toArray, List.getElem?_cons_succ, List.getElem?_cons_zero]; rfl) ?_ branch_nil)
      refine eff_done_s rfl (by simp [go_sem, z0, z1, z2, z3, z4, z5, z6, z7, z8, cf]; rfl) ?hS1 ?_
      case hS1 => exact (by constructor <;> repeat (first | (with_reducible exact HA) | (with_reducible exact HB) | (with_reducible refine AtF.drew ?_) | (with_reducible refine AtF.other ?_ (by omega) _ _)))
      try simp only [List.nil_append, List.cons_append, Act.put, List.setIfInBounds_toArray, List.set_cons_succ, List.set_cons_zero]
      refine st_end (by kernel_rfl) ?_
      simp only [List.drop_succ_cons, List.drop_zero, List.drop_nil]
      skip
      clear ra0 ra1 ra2 ra3 ra4 ra5 ra6 ra7 ra8 rb0 rb1 rb2 rb3 rb4 rb5 rb6 rb7 rb8 nnS NFS
      go_wp2
      have H3 := H2.fin [.int .i64 i1, .int .i64 t1, .int .i64 k1, .int .i64 s1, .int .i64 n1, .string d1, .bool f1, .slice (some ⟨A1, 0, none⟩) l1 c1, .int .i64 m1] [.int .i64 i2, .int .i64 t1, .int .i64 k1, .int .i64 (s1 + n1), .int .i64 n2, .string ⟨#[]⟩, .bool f1, .slice (some ⟨A2, 0, none⟩) l2 c2, .int .i64 m2] rfl rfl
      have g1 := H3.1.drew
      have g2 := H3.2.1.drew
      have g5 := H3.2.2.2.2.drew
      clear z0 z1 z2 z3 z4 z5 z6 z7 z8 u0 u1 u2 u3 u4 u5 u6 u7 u8
      have z0 := (g1).1.2 0 _ rfl
      have z1 := (g1).1.2 1 _ rfl
      have z2 := (g1).1.2 2 _ rfl
      have z3 := (g1).1.2 3 _ rfl
      have z4 := (g1).1.2 4 _ rfl
      have z5 := (g1).1.2 5 _ rfl
      have z6 := (g1).1.2 6 _ rfl
      have z7 := (g1).1.2 7 _ rfl
      have z8 := (g1).1.2 8 _ rfl
      have u0 := (g2).1.2 0 _ rfl
      have u1 := (g2).1.2 1 _ rfl
      have u2 := (g2).1.2 2 _ rfl
      have u3 := (g2).1.2 3 _ rfl
      have u4 := (g2).1.2 4 _ rfl
      have u5 := (g2).1.2 5 _ rfl
      have u6 := (g2).1.2 6 _ rfl
      have u7 := (g2).1.2 7 _ rfl
      have u8 := (g2).1.2 8 _ rfl
      exact bodyPost_ret (v := .tuple #[.agg #[.int .i64 i1, .int .i64 t1, .int .i64 k1, .int .i64 s1, .int .i64 n1, .string d1, .bool f1, .slice (some ⟨A1, 0, none⟩) l1 c1, .int .i64 m1], .agg #[.int .i64 i2, .int .i64 t1, .int .i64 k1, .int .i64 (s1 + n1), .int .i64 n2, .string ⟨#[]⟩, .bool f1, .slice (some ⟨A2, 0, none⟩) l2 c2, .int .i64 m2]])
        (by simp only [setRow] at z0 z1 z2 z3 z4 z5 z6 z7 z8 u0 u1 u2 u3 u4 u5 u6 u7 u8; simp [results, Try.results21, go_sem, z0, z1, z2, z3, z4, z5, z6, z7, z8, u0, u1, u2, u3, u4, u5, u6, u7, u8])
        rfl ⟨⟨⟨i1, t1, k1, s1, n1, d1, f1, some ⟨A1, 0, none⟩, l1, c1, m1⟩, _⟩, ⟨⟨i2, t1, k1, (s1 + n1), n2, ⟨#[]⟩, f1, some ⟨A2, 0, none⟩, l2, c2, m2⟩, _⟩, rfl, H3.2.2.1.bel (Bel.drew (Bel.refl _)), H3.2.2.2.1.bel (Bel.drew (Bel.refl _)), g5⟩
    · have hkb : (k1 == 1) = false := by simpa using hk
      clear hk
      rcases Bool.eq_false_or_eq_true d2.toList.isEmpty with hdb | hdb
      · go_wp2_with fail
        refine (HDT.out _).mono ?_; rintro e wd ⟨rfl, hbd⟩
        have H1' := H1.grow hbd
        have q5' := H1'.b.1.2 5 _ rfl
        have qf' := H1'.b.2
        have ql' := H1'.b.1.1
        have H2 := H1'.upd 5 (.string db) ⟨i2, t1, k1, (s1 + n1), n2, db, f1, some ⟨A2, 0, none⟩, l2, c2, m2⟩ rfl (by omega) rfl rfl rfl hdz rfl
        clear q2 q4 q5 qf ql H1 hbd H1'
        go_upto_region 18 with fail
        generalize World.setCell _ _ _ = W2 at H2 ⊢
        clear q5' qf' ql'
        let NFS : World → Prop := fun W' => AtF W' PA [.int .i64 i1, .int .i64 t1, .int .i64 k1, .int .i64 s1, .int .i64 n1, .string d1, .bool f1, .slice (some ⟨A1, 0, none⟩) l1 c1, .int .i64 m1] ∧ AtF W' (PA + 1) [.int .i64 i2, .int .i64 t1, .int .i64 k1, .int .i64 (s1 + n1), .int .i64 n2, .string db, .bool f1, .slice (some ⟨A2, 0, none⟩) l2 c2, .int .i64 m2]
        haveI nnS : Nonempty (InS NFS) := ⟨⟨W2, H2.a, H2.b⟩⟩
        have e4 := H2.n4
        have ra0 := fun (p : InS NFS) => p.h.1.1.2 0 _ rfl
        have rb0 := fun (p : InS NFS) => p.h.2.1.2 0 _ rfl
        have ra1 := fun (p : InS NFS) => p.h.1.1.2 1 _ rfl
        have rb1 := fun (p : InS NFS) => p.h.2.1.2 1 _ rfl
        have ra2 := fun (p : InS NFS) => p.h.1.1.2 2 _ rfl
        have rb2 := fun (p : InS NFS) => p.h.2.1.2 2 _ rfl
        have ra3 := fun (p : InS NFS) => p.h.1.1.2 3 _ rfl
        have rb3 := fun (p : InS NFS) => p.h.2.1.2 3 _ rfl
        have ra4 := fun (p : InS NFS) => p.h.1.1.2 4 _ rfl
        have rb4 := fun (p : InS NFS) => p.h.2.1.2 4 _ rfl
        have ra5 := fun (p : InS NFS) => p.h.1.1.2 5 _ rfl
        have rb5 := fun (p : InS NFS) => p.h.2.1.2 5 _ rfl
        have ra6 := fun (p : InS NFS) => p.h.1.1.2 6 _ rfl
        have rb6 := fun (p : InS NFS) => p.h.2.1.2 6 _ rfl
        have ra7 := fun (p : InS NFS) => p.h.1.1.2 7 _ rfl
        have rb7 := fun (p : InS NFS) => p.h.2.1.2 7 _ rfl
        have ra8 := fun (p : InS NFS) => p.h.1.1.2 8 _ rfl
        have rb8 := fun (p : InS NFS) => p.h.2.1.2 8 _ rfl
        have z0 := (H2.c).1.2 0 _ rfl
        have z1 := (H2.c).1.2 1 _ rfl
        have z2 := (H2.c).1.2 2 _ rfl
        have z3 := (H2.c).1.2 3 _ rfl
        have z4 := (H2.c).1.2 4 _ rfl
        have z5 := (H2.c).1.2 5 _ rfl
        have z6 := (H2.c).1.2 6 _ rfl
        have z7 := (H2.c).1.2 7 _ rfl
        have z8 := (H2.c).1.2 8 _ rfl
        have u0 := (H2.d).1.2 0 _ rfl
        have u1 := (H2.d).1.2 1 _ rfl
        have u2 := (H2.d).1.2 2 _ rfl
        have u3 := (H2.d).1.2 3 _ rfl
        have u4 := (H2.d).1.2 4 _ rfl
        have u5 := (H2.d).1.2 5 _ rfl
        have u6 := (H2.d).1.2 6 _ rfl
        have u7 := (H2.d).1.2 7 _ rfl
        have u8 := (H2.d).1.2 8 _ rfl
        have cf := H2.c.2
        have uf := H2.d.2
        have cl := H2.c.1.1
        have ul := H2.d.1.1
        have HA := H2.a
        have HB := H2.b
        refine wp_region_sts NFS [2] 3 (by kernel_rfl) (by kernel_rfl) ?hS0 ?_
        case hS0 => exact ⟨HA.drew, HB.drew⟩
        with_reducible refine st_sel [0, 1] (by kernel_rfl) (by kernel_rfl) ?_
        simp only [picked, List.getElem?_cons_succ, List.getElem?_cons_zero, Option.toList_some, List.nil_append, List.cons_append, List.append_nil]
        try simp only [Act.put, List.setIfInBounds_toArray, List.set_cons_succ, List.set_cons_zero]
        repeat (go_big_quiet_step (fail))
        with_reducible refine wpQuiet_nil ?_
        refine st_branch [2] (by kernel_rfl) (branch_cons (by simp only [List.getElem?_toArray, List.getElem?_cons_succ, List.getElem?_cons_zero]; rfl) ?_ branch_nil)
        refine eff_done_s rfl (by simp [go_sem, z0, z1, z2, z3, z4, z5, z6, z7, z8, cf]; rfl) ?hS1 ?_
        case hS1 => exact (by constructor <;> repeat (first | (with_reducible exact HA) | (with_reducible exact HB) | (with_reducible refine AtF.drew ?_) | (with_reducible refine AtF.other ?_ (by omega) _ _)))
        try simp only [List.nil_append, List.cons_append, Act.put, List.setIfInBounds_toArray, List.set_cons_succ, List.set_cons_zero]
        refine st_end (by kernel_rfl) ?_
        simp only [List.drop_succ_cons, List.drop_zero, List.drop_nil]
        skip
        clear ra0 ra1 ra2 ra3 ra4 ra5 ra6 ra7 ra8 rb0 rb1 rb2 rb3 rb4 rb5 rb6 rb7 rb8 nnS NFS
        go_wp2
        have H3 := H2.fin [.int .i64 i1, .int .i64 t1, .int .i64 k1, .int .i64 s1, .int .i64 n1, .string d1, .bool f1, .slice (some ⟨A1, 0, none⟩) l1 c1, .int .i64 m1] [.int .i64 i2, .int .i64 t1, .int .i64 k1, .int .i64 (s1 + n1), .int .i64 n2, .string db, .bool f1, .slice (some ⟨A2, 0, none⟩) l2 c2, .int .i64 m2] rfl rfl
        have g1 := H3.1.drew
        have g2 := H3.2.1.drew
        have g5 := H3.2.2.2.2.drew
        clear z0 z1 z2 z3 z4 z5 z6 z7 z8 u0 u1 u2 u3 u4 u5 u6 u7 u8
        have z0 := (g1).1.2 0 _ rfl
        have z1 := (g1).1.2 1 _ rfl
        have z2 := (g1).1.2 2 _ rfl
        have z3 := (g1).1.2 3 _ rfl
        have z4 := (g1).1.2 4 _ rfl
        have z5 := (g1).1.2 5 _ rfl
        have z6 := (g1).1.2 6 _ rfl
        have z7 := (g1).1.2 7 _ rfl
        have z8 := (g1).1.2 8 _ rfl
        have u0 := (g2).1.2 0 _ rfl
        have u1 := (g2).1.2 1 _ rfl
        have u2 := (g2).1.2 2 _ rfl
        have u3 := (g2).1.2 3 _ rfl
        have u4 := (g2).1.2 4 _ rfl
        have u5 := (g2).1.2 5 _ rfl
        have u6 := (g2).1.2 6 _ rfl
        have u7 := (g2).1.2 7 _ rfl
        have u8 := (g2).1.2 8 _ rfl
        exact bodyPost_ret (v := .tuple #[.agg #[.int .i64 i1, .int .i64 t1, .int .i64 k1, .int .i64 s1, .int .i64 n1, .string d1, .bool f1, .slice (some ⟨A1, 0, none⟩) l1 c1, .int .i64 m1], .agg #[.int .i64 i2, .int .i64 t1, .int .i64 k1, .int .i64 (s1 + n1), .int .i64 n2, .string db, .bool f1, .slice (some ⟨A2, 0, none⟩) l2 c2, .int .i64 m2]])
          (by simp only [setRow] at z0 z1 z2 z3 z4 z5 z6 z7 z8 u0 u1 u2 u3 u4 u5 u6 u7 u8; simp [results, Try.results21, go_sem, z0, z1, z2, z3, z4, z5, z6, z7, z8, u0, u1, u2, u3, u4, u5, u6, u7, u8])
          rfl ⟨⟨⟨i1, t1, k1, s1, n1, d1, f1, some ⟨A1, 0, none⟩, l1, c1, m1⟩, _⟩, ⟨⟨i2, t1, k1, (s1 + n1), n2, db, f1, some ⟨A2, 0, none⟩, l2, c2, m2⟩, _⟩, rfl, H3.2.2.1.bel (Bel.drew (Bel.refl _)), H3.2.2.2.1.bel (Bel.drew (Bel.refl _)), g5⟩
      · go_upto_region 18 with fail
        clear q2 q4 q5 qf ql
        have H2 := H1
        clear H1
        obtain ⟨W2, rfl⟩ : ∃ W2, W2 = W1 := ⟨_, rfl⟩
        let NFS : World → Prop := fun W' => AtF W' PA [.int .i64 i1, .int .i64 t1, .int .i64 k1, .int .i64 s1, .int .i64 n1, .string d1, .bool f1, .slice (some ⟨A1, 0, none⟩) l1 c1, .int .i64 m1] ∧ AtF W' (PA + 1) [.int .i64 i2, .int .i64 t1, .int .i64 k1, .int .i64 (s1 + n1), .int .i64 n2, .string d2, .bool f1, .slice (some ⟨A2, 0, none⟩) l2 c2, .int .i64 m2]
        haveI nnS : Nonempty (InS NFS) := ⟨⟨W2, H2.a, H2.b⟩⟩
        have e4 := H2.n4
        have ra0 := fun (p : InS NFS) => p.h.1.1.2 0 _ rfl
        have rb0 := fun (p : InS NFS) => p.h.2.1.2 0 _ rfl
        have ra1 := fun (p : InS NFS) => p.h.1.1.2 1 _ rfl
        have rb1 := fun (p : InS NFS) => p.h.2.1.2 1 _ rfl
        have ra2 := fun (p : InS NFS) => p.h.1.1.2 2 _ rfl
        have rb2 := fun (p : InS NFS) => p.h.2.1.2 2 _ rfl
        have ra3 := fun (p : InS NFS) => p.h.1.1.2 3 _ rfl
        have rb3 := fun (p : InS NFS) => p.h.2.1.2 3 _ rfl
        have ra4 := fun (p : InS NFS) => p.h.1.1.2 4 _ rfl
        have rb4 := fun (p : InS NFS) => p.h.2.1.2 4 _ rfl
        have ra5 := fun (p : InS NFS) => p.h.1.1.2 5 _ rfl
        have rb5 := fun (p : InS NFS) => p.h.2.1.2 5 _ rfl
        have ra6 := fun (p : InS NFS) => p.h.1.1.2 6 _ rfl
        have rb6 := fun (p : InS NFS) => p.h.2.1.2 6 _ rfl
        have ra7 := fun (p : InS NFS) => p.h.1.1.2 7 _ rfl
        have rb7 := fun (p : InS NFS) => p.h.2.1.2 7 _ rfl
        have ra8 := fun (p : InS NFS) => p.h.1.1.2 8 _ rfl
        have rb8 := fun (p : InS NFS) => p.h.2.1.2 8 _ rfl
        have z0 := (H2.c).1.2 0 _ rfl
        have z1 := (H2.c).1.2 1 _ rfl
        have z2 := (H2.c).1.2 2 _ rfl
        have z3 := (H2.c).1.2 3 _ rfl
        have z4 := (H2.c).1.2 4 _ rfl
        have z5 := (H2.c).1.2 5 _ rfl
        have z6 := (H2.c).1.2 6 _ rfl
        have z7 := (H2.c).1.2 7 _ rfl
        have z8 := (H2.c).1.2 8 _ rfl
        have u0 := (H2.d).1.2 0 _ rfl
        have u1 := (H2.d).1.2 1 _ rfl
        have u2 := (H2.d).1.2 2 _ rfl
        have u3 := (H2.d).1.2 3 _ rfl
        have u4 := (H2.d).1.2 4 _ rfl
        have u5 := (H2.d).1.2 5 _ rfl
        have u6 := (H2.d).1.2 6 _ rfl
        have u7 := (H2.d).1.2 7 _ rfl
        have u8 := (H2.d).1.2 8 _ rfl
        have cf := H2.c.2
        have uf := H2.d.2
        have cl := H2.c.1.1
        have ul := H2.d.1.1
        have HA := H2.a
        have HB := H2.b
        refine wp_region_sts NFS [2] 3 (by kernel_rfl) (by kernel_rfl) ?hS0 ?_
        case hS0 => exact ⟨HA.drew, HB.drew⟩
        with_reducible refine st_sel [0, 1] (by kernel_rfl) (by kernel_rfl) ?_
        simp only [picked, List.getElem?_cons_succ, List.getElem?_cons_zero, Option.toList_some, List.nil_append, List.cons_append, List.append_nil]
        try simp only [Act.put, List.setIfInBounds_toArray, List.set_cons_succ, List.set_cons_zero]
        repeat (go_big_quiet_step (fail))
        with_reducible refine wpQuiet_nil ?_
        refine st_branch [2] (by kernel_rfl) (branch_cons (by simp only [List.getElem?_toArray, List.getElem?_cons_succ, List.getElem?_cons_zero]; rfl) ?_ branch_nil)
        refine eff_done_s rfl (by simp [go_sem, z0, z1, z2, z3, z4, z5, z6, z7, z8, cf]; rfl) ?hS1 ?_
        case hS1 => exact (by constructor <;> repeat (first | (with_reducible exact HA) | (with_reducible exact HB) | (with_reducible refine AtF.drew ?_) | (with_reducible refine AtF.other ?_ (by omega) _ _)))
        try simp only [List.nil_append, List.cons_append, Act.put, List.setIfInBounds_toArray, List.set_cons_succ, List.set_cons_zero]
        refine st_end (by kernel_rfl) ?_
        simp only [List.drop_succ_cons, List.drop_zero, List.drop_nil]
        skip
        clear ra0 ra1 ra2 ra3 ra4 ra5 ra6 ra7 ra8 rb0 rb1 rb2 rb3 rb4 rb5 rb6 rb7 rb8 nnS NFS
        go_wp2
        have H3 := H2.fin [.int .i64 i1, .int .i64 t1, .int .i64 k1, .int .i64 s1, .int .i64 n1, .string d1, .bool f1, .slice (some ⟨A1, 0, none⟩) l1 c1, .int .i64 m1] [.int .i64 i2, .int .i64 t1, .int .i64 k1, .int .i64 (s1 + n1), .int .i64 n2, .string d2, .bool f1, .slice (some ⟨A2, 0, none⟩) l2 c2, .int .i64 m2] rfl rfl
        have g1 := H3.1.drew
        have g2 := H3.2.1.drew
        have g5 := H3.2.2.2.2.drew
        clear z0 z1 z2 z3 z4 z5 z6 z7 z8 u0 u1 u2 u3 u4 u5 u6 u7 u8
        have z0 := (g1).1.2 0 _ rfl
        have z1 := (g1).1.2 1 _ rfl
        have z2 := (g1).1.2 2 _ rfl
        have z3 := (g1).1.2 3 _ rfl
        have z4 := (g1).1.2 4 _ rfl
        have z5 := (g1).1.2 5 _ rfl
        have z6 := (g1).1.2 6 _ rfl
        have z7 := (g1).1.2 7 _ rfl
        have z8 := (g1).1.2 8 _ rfl
        have u0 := (g2).1.2 0 _ rfl
        have u1 := (g2).1.2 1 _ rfl
        have u2 := (g2).1.2 2 _ rfl
        have u3 := (g2).1.2 3 _ rfl
        have u4 := (g2).1.2 4 _ rfl
        have u5 := (g2).1.2 5 _ rfl
        have u6 := (g2).1.2 6 _ rfl
        have u7 := (g2).1.2 7 _ rfl
        have u8 := (g2).1.2 8 _ rfl
        exact bodyPost_ret (v := .tuple #[.agg #[.int .i64 i1, .int .i64 t1, .int .i64 k1, .int .i64 s1, .int .i64 n1, .string d1, .bool f1, .slice (some ⟨A1, 0, none⟩) l1 c1, .int .i64 m1], .agg #[.int .i64 i2, .int .i64 t1, .int .i64 k1, .int .i64 (s1 + n1), .int .i64 n2, .string d2, .bool f1, .slice (some ⟨A2, 0, none⟩) l2 c2, .int .i64 m2]])
          (by simp only [setRow] at z0 z1 z2 z3 z4 z5 z6 z7 z8 u0 u1 u2 u3 u4 u5 u6 u7 u8; simp [results, Try.results21, go_sem, z0, z1, z2, z3, z4, z5, z6, z7, z8, u0, u1, u2, u3, u4, u5, u6, u7, u8])
          rfl ⟨⟨⟨i1, t1, k1, s1, n1, d1, f1, some ⟨A1, 0, none⟩, l1, c1, m1⟩, _⟩, ⟨⟨i2, t1, k1, (s1 + n1), n2, d2, f1, some ⟨A2, 0, none⟩, l2, c2, m2⟩, _⟩, rfl, H3.2.2.1.bel (Bel.drew (Bel.refl _)), H3.2.2.2.1.bel (Bel.drew (Bel.refl _)), g5⟩
  · skip
    have p0 := (H0.a).1.2 0 _ rfl
    have p1 := (H0.a).1.2 1 _ rfl
    have p2 := (H0.a).1.2 2 _ rfl
    have p3 := (H0.a).1.2 3 _ rfl
    have p4 := (H0.a).1.2 4 _ rfl
    have p5 := (H0.a).1.2 5 _ rfl
    have p6 := (H0.a).1.2 6 _ rfl
    have p7 := (H0.a).1.2 7 _ rfl
    have p8 := (H0.a).1.2 8 _ rfl
    have q0 := (H0.b).1.2 0 _ rfl
    have q1 := (H0.b).1.2 1 _ rfl
    have q2 := (H0.b).1.2 2 _ rfl
    have q3 := (H0.b).1.2 3 _ rfl
    have q4 := (H0.b).1.2 4 _ rfl
    have q5 := (H0.b).1.2 5 _ rfl
    have q6 := (H0.b).1.2 6 _ rfl
    have q7 := (H0.b).1.2 7 _ rfl
    have q8 := (H0.b).1.2 8 _ rfl
    have qf := H0.b.2
    let NRS : World → Prop := fun W' => AtF W' PA [.int .i64 i1, .int .i64 t1, .int .i64 k1, .int .i64 s1, .int .i64 n1, .string d1, .bool f1, .slice (some ⟨A1, 0, none⟩) l1 c1, .int .i64 m1]
    haveI nnS : Nonempty (InS NRS) := ⟨⟨W, H0.a⟩⟩
    go_wp2_with fail
    have rg1 := fun (p : InS NRS) => p.h.1.2 1 _ rfl
    have rg2 := fun (p : InS NRS) => p.h.1.2 2 _ rfl
    have rg3 := fun (p : InS NRS) => p.h.1.2 3 _ rfl
    have rg4 := fun (p : InS NRS) => p.h.1.2 4 _ rfl
    have rg6 := fun (p : InS NRS) => p.h.1.2 6 _ rfl
    refine wp_region_sts NRS [12, 14, 16] 18 (by kernel_rfl) (by kernel_rfl) ?hS0 ?_
    case hS0 => exact H0.a.drew
    with_reducible refine st_sel [0, 1, 2, 3, 4, 5, 6, 7, 8, 9, 10, 11] (by kernel_rfl) (by kernel_rfl) ?_
    simp only [picked, List.getElem?_cons_succ, List.getElem?_cons_zero, Option.toList_some, List.nil_append, List.cons_append, List.append_nil]
    try simp only [Act.put, List.setIfInBounds_toArray, List.set_cons_succ, List.set_cons_zero]
    repeat (go_big_quiet_step (fail))
    with_reducible refine wpQuiet_nil ?_
    refine st_branch [12] (by kernel_rfl) (branch_cons (by simp only [List.getElem?_toArray, List.getElem?_cons_succ, List.getElem?_cons_zero]; rfl) ?_ branch_nil)
    refine eff_done_s rfl (by simp [go_sem, q1, q2, q3, q6, qf]; rfl) ?hS1 ?_
    case hS1 => exact (by repeat (first | (with_reducible exact H0.a) | (with_reducible exact H0.a.drew) | (refine AtF.other ?_ (by omega) _ _)))
    try simp only [List.nil_append, List.cons_append, Act.put, List.setIfInBounds_toArray, List.set_cons_succ, List.set_cons_zero]
    with_reducible refine st_sel [13] (by kernel_rfl) (by kernel_rfl) ?_
    simp only [picked, List.getElem?_cons_succ, List.getElem?_cons_zero, Option.toList_some, List.nil_append, List.cons_append, List.append_nil]
    try simp only [Act.put, List.setIfInBounds_toArray, List.set_cons_succ, List.set_cons_zero]
    repeat (go_big_quiet_step (fail))
    with_reducible refine wpQuiet_nil ?_
    refine st_branch [14] (by kernel_rfl) (branch_cons (by simp only [List.getElem?_toArray, List.getElem?_cons_succ, List.getElem?_cons_zero]; rfl) ?_ branch_nil)
    refine eff_done_s rfl (by simp [go_sem, q1, q2, q3, q6, qf]; rfl) ?hS1 ?_
    case hS1 => exact (by repeat (first | (with_reducible exact H0.a) | (with_reducible exact H0.a.drew) | (refine AtF.other ?_ (by omega) _ _)))
    try simp only [List.nil_append, List.cons_append, Act.put, List.setIfInBounds_toArray, List.set_cons_succ, List.set_cons_zero]
    with_reducible refine st_sel [15] (by kernel_rfl) (by kernel_rfl) ?_
    simp only [picked, List.getElem?_cons_succ, List.getElem?_cons_zero, Option.toList_some, List.nil_append, List.cons_append, List.append_nil]
    try simp only [Act.put, List.setIfInBounds_toArray, List.set_cons_succ, List.set_cons_zero]
    repeat (go_big_quiet_step (fail))
    with_reducible refine wpQuiet_nil ?_
    refine st_branch [16] (by kernel_rfl) (branch_cons (by simp only [List.getElem?_toArray, List.getElem?_cons_succ, List.getElem?_cons_zero]; rfl) ?_ branch_nil)
    refine eff_done_s rfl (by simp [go_sem, q1, q2, q3, q6, qf]; rfl) ?hS1 ?_
    case hS1 => exact (by repeat (first | (with_reducible exact H0.a) | (with_reducible exact H0.a.drew) | (refine AtF.other ?_ (by omega) _ _)))
    try simp only [List.nil_append, List.cons_append, Act.put, List.setIfInBounds_toArray, List.set_cons_succ, List.set_cons_zero]
    with_reducible refine st_sel [17] (by kernel_rfl) (by kernel_rfl) ?_
    simp only [picked, List.getElem?_cons_succ, List.getElem?_cons_zero, Option.toList_some, List.nil_append, List.cons_append, List.append_nil]
    try simp only [Act.put, List.setIfInBounds_toArray, List.set_cons_succ, List.set_cons_zero]
    repeat (go_big_quiet_step (fail))
    with_reducible refine wpQuiet_nil ?_
    refine st_end (by kernel_rfl) ?_
    simp only [List.drop_succ_cons, List.drop_zero, List.drop_nil]
    skip
    clear rg1 rg2 rg3 rg4 rg6
    have H1 := ((((H0.upd 3 (.int .i64 (s1 + n1)) ⟨i2, t2, k2, s1 + n1, n2, d2, f2, some ⟨A2, 0, none⟩, l2, c2, m2⟩ rfl (by omega) rfl rfl rfl hdl2 rfl).upd 2 (.int .i64 k1) ⟨i2, t2, k1, s1 + n1, n2, d2, f2, some ⟨A2, 0, none⟩, l2, c2, m2⟩ rfl (by omega) rfl rfl rfl hdl2 rfl).upd 1 (.int .i64 t1) ⟨i2, t1, k1, s1 + n1, n2, d2, f2, some ⟨A2, 0, none⟩, l2, c2, m2⟩ rfl (by omega) rfl rfl rfl hdl2 rfl).upd 6 (.bool f1) ⟨i2, t1, k1, s1 + n1, n2, d2, f1, some ⟨A2, 0, none⟩, l2, c2, m2⟩ rfl (by omega) rfl rfl rfl hdl2 rfl).grow (Bel.drew (Bel.refl _))
    go_upto_region 14 with fail
    generalize World.drew _ = W1 at H1 ⊢
    clear p0 p1 p2 p3 p4 p5 p6 p7 p8 q0 q1 q2 q3 q4 q5 q6 q7 q8 qf nnS NRS H0
    have q2 := H1.b.1.2 2 _ rfl
    have q4 := H1.b.1.2 4 _ rfl
    have q5 := H1.b.1.2 5 _ rfl
    have qf := H1.b.2
    have ql := H1.b.1.1
    by_cases hk : k1 = 1
    · have hkb : (k1 == 1) = true := by simpa using hk
      have H2 := H1.upd 5 (.string ⟨#[]⟩) ⟨i2, t1, k1, (s1 + n1), n2, ⟨#[]⟩, f1, some ⟨A2, 0, none⟩, l2, c2, m2⟩ rfl (by omega) rfl rfl rfl (by show 0 ≤ maxLen; unfold maxLen; omega) rfl
      clear hk
      go_upto_region 18 with fail
      generalize World.setCell _ _ _ = W2 at H2 ⊢
      clear q2 q4 q5 qf ql H1
      let NFS : World → Prop := fun W' => AtF W' PA [.int .i64 i1, .int .i64 t1, .int .i64 k1, .int .i64 s1, .int .i64 n1, .string d1, .bool f1, .slice (some ⟨A1, 0, none⟩) l1 c1, .int .i64 m1] ∧ AtF W' (PA + 1) [.int .i64 i2, .int .i64 t1, .int .i64 k1, .int .i64 (s1 + n1), .int .i64 n2, .string ⟨#[]⟩, .bool f1, .slice (some ⟨A2, 0, none⟩) l2 c2, .int .i64 m2]
      haveI nnS : Nonempty (InS NFS) := ⟨⟨W2, H2.a, H2.b⟩⟩
      have e4 := H2.n4
      have ra0 := fun (p : InS NFS) => p.h.1.1.2 0 _ rfl
      have rb0 := fun (p : InS NFS) => p.h.2.1.2 0 _ rfl
      have ra1 := fun (p : InS NFS) => p.h.1.1.2 1 _ rfl
      have rb1 := fun (p : InS NFS) => p.h.2.1.2 1 _ rfl
      have ra2 := fun (p : InS NFS) => p.h.1.1.2 2 _ rfl
      have rb2 := fun (p : InS NFS) => p.h.2.1.2 2 _ rfl
      have ra3 := fun (p : InS NFS) => p.h.1.1.2 3 _ rfl
      have rb3 := fun (p : InS NFS) => p.h.2.1.2 3 _ rfl
      have ra4 := fun (p : InS NFS) => p.h.1.1.2 4 _ rfl
      have rb4 := fun (p : InS NFS) => p.h.2.1.2 4 _ rfl
      have ra5 := fun (p : InS NFS) => p.h.1.1.2 5 _ rfl
      have rb5 := fun (p : InS NFS) => p.h.2.1.2 5 _ rfl
      have ra6 := fun (p : InS NFS) => p.h.1.1.2 6 _ rfl
      have rb6 := fun (p : InS NFS) => p.h.2.1.2 6 _ rfl
      have ra7 := fun (p : InS NFS) => p.h.1.1.2 7 _ rfl
      have rb7 := fun (p : InS NFS) => p.h.2.1.2 7 _ rfl
      have ra8 := fun (p : InS NFS) => p.h.1.1.2 8 _ rfl
      have rb8 := fun (p : InS NFS) => p.h.2.1.2 8 _ rfl
      have z0 := (H2.c).1.2 0 _ rfl
      have z1 := (H2.c).1.2 1 _ rfl
      have z2 := (H2.c).1.2 2 _ rfl
      have z3 := (H2.c).1.2 3 _ rfl
      have z4 := (H2.c).1.2 4 _ rfl
      have z5 := (H2.c).1.2 5 _ rfl
      have z6 := (H2.c).1.2 6 _ rfl
      have z7 := (H2.c).1.2 7 _ rfl
      have z8 := (H2.c).1.2 8 _ rfl
      have u0 := (H2.d).1.2 0 _ rfl
      have u1 := (H2.d).1.2 1 _ rfl
      have u2 := (H2.d).1.2 2 _ rfl
      have u3 := (H2.d).1.2 3 _ rfl
      have u4 := (H2.d).1.2 4 _ rfl
      have u5 := (H2.d).1.2 5 _ rfl
      have u6 := (H2.d).1.2 6 _ rfl
      have u7 := (H2.d).1.2 7 _ rfl
      have u8 := (H2.d).1.2 8 _ rfl
      have cf := H2.c.2
      have uf := H2.d.2
      have cl := H2.c.1.1
      have ul := H2.d.1.1
      have HA := H2.a
      have HB := H2.b
      refine wp_region_sts NFS [2] 3 (by kernel_rfl) (by kernel_rfl) ?hS0 ?_
      case hS0 => exact ⟨HA.drew, HB.drew⟩
      with_reducible refine st_sel [0, 1] (by kernel_rfl) (by kernel_rfl) ?_
      simp only [picked, List.getElem?_cons_succ, List.getElem?_cons_zero, Option.toList_some, List.nil_append, List.cons_append, List.append_nil]
      try simp only [Act.put, List.setIfInBounds_toArray, List.set_cons_succ, List.set_cons_zero]
      repeat (go_big_quiet_step (fail))
      with_reducible refine wpQuiet_nil ?_
      refine st_branch [2] (by kernel_rfl) (branch_cons (by simp only [List.getElem?_toArray, List.getElem?_cons_succ, List.getElem?_cons_zero]; rfl) ?_ branch_nil)
      refine eff_done_s rfl (by simp [go_sem, z0, z1, z2, z3, z4, z5, z6, z7, z8, cf]; rfl) ?hS1 ?_
      case hS1 => exact (by constructor <;> repeat (first | (with_reducible exact HA) | (with_reducible exact HB) | (with_reducible refine AtF.drew ?_) | (with_reducible refine AtF.other ?_ (by omega) _ _)))
      try simp only [List.nil_append, List.cons_append, Act.put, List.setIfInBounds_toArray, List.set_cons_succ, List.set_cons_zero]
      refine st_end (by kernel_rfl) ?_
      simp only [List.drop_succ_cons, List.drop_zero, List.drop_nil]
      skip
      clear ra0 ra1 ra2 ra3 ra4 ra5 ra6 ra7 ra8 rb0 rb1 rb2 rb3 rb4 rb5 rb6 rb7 rb8 nnS NFS
      go_wp2
      have H3 := H2.fin [.int .i64 i1, .int .i64 t1, .int .i64 k1, .int .i64 s1, .int .i64 n1, .string d1, .bool f1, .slice (some ⟨A1, 0, none⟩) l1 c1, .int .i64 m1] [.int .i64 i2, .int .i64 t1, .int .i64 k1, .int .i64 (s1 + n1), .int .i64 n2, .string ⟨#[]⟩, .bool f1, .slice (some ⟨A2, 0, none⟩) l2 c2, .int .i64 m2] rfl rfl
      have g1 := H3.1.drew
      have g2 := H3.2.1.drew
      have g5 := H3.2.2.2.2.drew
      clear z0 z1 z2 z3 z4 z5 z6 z7 z8 u0 u1 u2 u3 u4 u5 u6 u7 u8
      have z0 := (g1).1.2 0 _ rfl
      have z1 := (g1).1.2 1 _ rfl
      have z2 := (g1).1.2 2 _ rfl
      have z3 := (g1).1.2 3 _ rfl
      have z4 := (g1).1.2 4 _ rfl
      have z5 := (g1).1.2 5 _ rfl
      have z6 := (g1).1.2 6 _ rfl
      have z7 := (g1).1.2 7 _ rfl
      have z8 := (g1).1.2 8 _ rfl
      have u0 := (g2).1.2 0 _ rfl
      have u1 := (g2).1.2 1 _ rfl
      have u2 := (g2).1.2 2 _ rfl
      have u3 := (g2).1.2 3 _ rfl
      have u4 := (g2).1.2 4 _ rfl
      have u5 := (g2).1.2 5 _ rfl
      have u6 := (g2).1.2 6 _ rfl
      have u7 := (g2).1.2 7 _ rfl
      have u8 := (g2).1.2 8 _ rfl
      exact bodyPost_ret (v := .tuple #[.agg #[.int .i64 i1, .int .i64 t1, .int .i64 k1, .int .i64 s1, .int .i64 n1, .string d1, .bool f1, .slice (some ⟨A1, 0, none⟩) l1 c1, .int .i64 m1], .agg #[.int .i64 i2, .int .i64 t1, .int .i64 k1, .int .i64 (s1 + n1), .int .i64 n2, .string ⟨#[]⟩, .bool f1, .slice (some ⟨A2, 0, none⟩) l2 c2, .int .i64 m2]])
        (by simp only [setRow] at z0 z1 z2 z3 z4 z5 z6 z7 z8 u0 u1 u2 u3 u4 u5 u6 u7 u8; simp [results, Try.results21, go_sem, z0, z1, z2, z3, z4, z5, z6, z7, z8, u0, u1, u2, u3, u4, u5, u6, u7, u8])
        rfl ⟨⟨⟨i1, t1, k1, s1, n1, d1, f1, some ⟨A1, 0, none⟩, l1, c1, m1⟩, _⟩, ⟨⟨i2, t1, k1, (s1 + n1), n2, ⟨#[]⟩, f1, some ⟨A2, 0, none⟩, l2, c2, m2⟩, _⟩, rfl, H3.2.2.1.bel (Bel.drew (Bel.refl _)), H3.2.2.2.1.bel (Bel.drew (Bel.refl _)), g5⟩
    · have hkb : (k1 == 1) = false := by simpa using hk
      clear hk
      rcases Bool.eq_false_or_eq_true d2.toList.isEmpty with hdb | hdb
      · go_wp2_with fail
        refine (HDT.out _).mono ?_; rintro e wd ⟨rfl, hbd⟩
        have H1' := H1.grow hbd
        have q5' := H1'.b.1.2 5 _ rfl
        have qf' := H1'.b.2
        have ql' := H1'.b.1.1
        have H2 := H1'.upd 5 (.string db) ⟨i2, t1, k1, (s1 + n1), n2, db, f1, some ⟨A2, 0, none⟩, l2, c2, m2⟩ rfl (by omega) rfl rfl rfl hdz rfl
        clear q2 q4 q5 qf ql H1 hbd H1'
        go_upto_region 18 with fail
        generalize World.setCell _ _ _ = W2 at H2 ⊢
        clear q5' qf' ql'
        let NFS : World → Prop := fun W' => AtF W' PA [.int .i64 i1, .int .i64 t1, .int .i64 k1, .int .i64 s1, .int .i64 n1, .string d1, .bool f1, .slice (some ⟨A1, 0, none⟩) l1 c1, .int .i64 m1] ∧ AtF W' (PA + 1) [.int .i64 i2, .int .i64 t1, .int .i64 k1, .int .i64 (s1 + n1), .int .i64 n2, .string db, .bool f1, .slice (some ⟨A2, 0, none⟩) l2 c2, .int .i64 m2]
        haveI nnS : Nonempty (InS NFS) := ⟨⟨W2, H2.a, H2.b⟩⟩
        have e4 := H2.n4
        have ra0 := fun (p : InS NFS) => p.h.1.1.2 0 _ rfl
        have rb0 := fun (p : InS NFS) => p.h.2.1.2 0 _ rfl
        have ra1 := fun (p : InS NFS) => p.h.1.1.2 1 _ rfl
        have rb1 := fun (p : InS NFS) => p.h.2.1.2 1 _ rfl
        have ra2 := fun (p : InS NFS) => p.h.1.1.2 2 _ rfl
        have rb2 := fun (p : InS NFS) => p.h.2.1.2 2 _ rfl
        have ra3 := fun (p : InS NFS) => p.h.1.1.2 3 _ rfl
        have rb3 := fun (p : InS NFS) => p.h.2.1.2 3 _ rfl
        have ra4 := fun (p : InS NFS) => p.h.1.1.2 4 _ rfl
        have rb4 := fun (p : InS NFS) => p.h.2.1.2 4 _ rfl
        have ra5 := fun (p : InS NFS) => p.h.1.1.2 5 _ rfl
        have rb5 := fun (p : InS NFS) => p.h.2.1.2 5 _ rfl
        have ra6 := fun (p : InS NFS) => p.h.1.1.2 6 _ rfl
        have rb6 := fun (p : InS NFS) => p.h.2.1.2 6 _ rfl
        have ra7 := fun (p : InS NFS) => p.h.1.1.2 7 _ rfl
        have rb7 := fun (p : InS NFS) => p.h.2.1.2 7 _ rfl
        have ra8 := fun (p : InS NFS) => p.h.1.1.2 8 _ rfl
        have rb8 := fun (p : InS NFS) => p.h.2.1.2 8 _ rfl
        have z0 := (H2.c).1.2 0 _ rfl
        have z1 := (H2.c).1.2 1 _ rfl
        have z2 := (H2.c).1.2 2 _ rfl
        have z3 := (H2.c).1.2 3 _ rfl
        have z4 := (H2.c).1.2 4 _ rfl
        have z5 := (H2.c).1.2 5 _ rfl
        have z6 := (H2.c).1.2 6 _ rfl
        have z7 := (H2.c).1.2 7 _ rfl
        have z8 := (H2.c).1.2 8 _ rfl
        have u0 := (H2.d).1.2 0 _ rfl
        have u1 := (H2.d).1.2 1 _ rfl
        have u2 := (H2.d).1.2 2 _ rfl
        have u3 := (H2.d).1.2 3 _ rfl
        have u4 := (H2.d).1.2 4 _ rfl
        have u5 := (H2.d).1.2 5 _ rfl
        have u6 := (H2.d).1.2 6 _ rfl
        have u7 := (H2.d).1.2 7 _ rfl
        have u8 := (H2.d).1.2 8 _ rfl
        have cf := H2.c.2
        have uf := H2.d.2
        have cl := H2.c.1.1
        have ul := H2.d.1.1
        have HA := H2.a
        have HB := H2.b
        refine wp_region_sts NFS [2] 3 (by kernel_rfl) (by kernel_rfl) ?hS0 ?_
        case hS0 => exact ⟨HA.drew, HB.drew⟩
        with_reducible refine st_sel [0, 1] (by kernel_rfl) (by kernel_rfl) ?_
        simp only [picked, List.getElem?_cons_succ, List.getElem?_cons_zero, Option.toList_some, List.nil_append, List.cons_append, List.append_nil]
        try simp only [Act.put, List.setIfInBounds_toArray, List.set_cons_succ, List.set_cons_zero]
        repeat (go_big_quiet_step (fail))
        with_reducible refine wpQuiet_nil ?_
        refine st_branch [2] (by kernel_rfl) (branch_cons (by simp only [List.getElem?_toArray, List.getElem?_cons_succ, List.getElem?_cons_zero]; rfl) ?_ branch_nil)
        refine eff_done_s rfl (by simp [go_sem, z0, z1, z2, z3, z4, z5, z6, z7, z8, cf]; rfl) ?hS1 ?_
        case hS1 => exact (by constructor <;> repeat (first | (with_reducible exact HA) | (with_reducible exact HB) | (with_reducible refine AtF.drew ?_) | (with_reducible refine AtF.other ?_ (by omega) _ _)))
        try simp only [List.nil_append, List.cons_append, Act.put, List.setIfInBounds_toArray, List.set_cons_succ, List.set_cons_zero]
        refine st_end (by kernel_rfl) ?_
        simp only [List.drop_succ_cons, List.drop_zero, List.drop_nil]
        skip
        clear ra0 ra1 ra2 ra3 ra4 ra5 ra6 ra7 ra8 rb0 rb1 rb2 rb3 rb4 rb5 rb6 rb7 rb8 nnS NFS
        go_wp2
        have H3 := H2.fin [.int .i64 i1, .int .i64 t1, .int .i64 k1, .int .i64 s1, .int .i64 n1, .string d1, .bool f1, .slice (some ⟨A1, 0, none⟩) l1 c1, .int .i64 m1] [.int .i64 i2, .int .i64 t1, .int .i64 k1, .int .i64 (s1 + n1), .int .i64 n2, .string db, .bool f1, .slice (some ⟨A2, 0, none⟩) l2 c2, .int .i64 m2] rfl rfl
        have g1 := H3.1.drew
        have g2 := H3.2.1.drew
        have g5 := H3.2.2.2.2.drew
        clear z0 z1 z2 z3 z4 z5 z6 z7 z8 u0 u1 u2 u3 u4 u5 u6 u7 u8
        have z0 := (g1).1.2 0 _ rfl
        have z1 := (g1).1.2 1 _ rfl
        have z2 := (g1).1.2 2 _ rfl
        have z3 := (g1).1.2 3 _ rfl
        have z4 := (g1).1.2 4 _ rfl
        have z5 := (g1).1.2 5 _ rfl
        have z6 := (g1).1.2 6 _ rfl
        have z7 := (g1).1.2 7 _ rfl
        have z8 := (g1).1.2 8 _ rfl
        have u0 := (g2).1.2 0 _ rfl
        have u1 := (g2).1.2 1 _ rfl
        have u2 := (g2).1.2 2 _ rfl
        have u3 := (g2).1.2 3 _ rfl
        have u4 := (g2).1.2 4 _ rfl
        have u5 := (g2).1.2 5 _ rfl
        have u6 := (g2).1.2 6 _ rfl
        have u7 := (g2).1.2 7 _ rfl
        have u8 := (g2).1.2 8 _ rfl
        exact bodyPost_ret (v := .tuple #[.agg #[.int .i64 i1, .int .i64 t1, .int .i64 k1, .int .i64 s1, .int .i64 n1, .string d1, .bool f1, .slice (some ⟨A1, 0, none⟩) l1 c1, .int .i64 m1], .agg #[.int .i64 i2, .int .i64 t1, .int .i64 k1, .int .i64 (s1 + n1), .int .i64 n2, .string db, .bool f1, .slice (some ⟨A2, 0, none⟩) l2 c2, .int .i64 m2]])
          (by simp only [setRow] at z0 z1 z2 z3 z4 z5 z6 z7 z8 u0 u1 u2 u3 u4 u5 u6 u7 u8; simp [results, Try.results21, go_sem, z0, z1, z2, z3, z4, z5, z6, z7, z8, u0, u1, u2, u3, u4, u5, u6, u7, u8])
          rfl ⟨⟨⟨i1, t1, k1, s1, n1, d1, f1, some ⟨A1, 0, none⟩, l1, c1, m1⟩, _⟩, ⟨⟨i2, t1, k1, (s1 + n1), n2, db, f1, some ⟨A2, 0, none⟩, l2, c2, m2⟩, _⟩, rfl, H3.2.2.1.bel (Bel.drew (Bel.refl _)), H3.2.2.2.1.bel (Bel.drew (Bel.refl _)), g5⟩
      · go_upto_region 18 with fail
        clear q2 q4 q5 qf ql
        have H2 := H1
        clear H1
        obtain ⟨W2, rfl⟩ : ∃ W2, W2 = W1 := ⟨_, rfl⟩
        let NFS : World → Prop := fun W' => AtF W' PA [.int .i64 i1, .int .i64 t1, .int .i64 k1, .int .i64 s1, .int .i64 n1, .string d1, .bool f1, .slice (some ⟨A1, 0, none⟩) l1 c1, .int .i64 m1] ∧ AtF W' (PA + 1) [.int .i64 i2, .int .i64 t1, .int .i64 k1, .int .i64 (s1 + n1), .int .i64 n2, .string d2, .bool f1, .slice (some ⟨A2, 0, none⟩) l2 c2, .int .i64 m2]
        haveI nnS : Nonempty (InS NFS) := ⟨⟨W2, H2.a, H2.b⟩⟩
        have e4 := H2.n4
        have ra0 := fun (p : InS NFS) => p.h.1.1.2 0 _ rfl
        have rb0 := fun (p : InS NFS) => p.h.2.1.2 0 _ rfl
        have ra1 := fun (p : InS NFS) => p.h.1.1.2 1 _ rfl
        have rb1 := fun (p : InS NFS) => p.h.2.1.2 1 _ rfl
        have ra2 := fun (p : InS NFS) => p.h.1.1.2 2 _ rfl
        have rb2 := fun (p : InS NFS) => p.h.2.1.2 2 _ rfl
        have ra3 := fun (p : InS NFS) => p.h.1.1.2 3 _ rfl
        have rb3 := fun (p : InS NFS) => p.h.2.1.2 3 _ rfl
        have ra4 := fun (p : InS NFS) => p.h.1.1.2 4 _ rfl
        have rb4 := fun (p : InS NFS) => p.h.2.1.2 4 _ rfl
        have ra5 := fun (p : InS NFS) => p.h.1.1.2 5 _ rfl
        have rb5 := fun (p : InS NFS) => p.h.2.1.2 5 _ rfl
        have ra6 := fun (p : InS NFS) => p.h.1.1.2 6 _ rfl
        have rb6 := fun (p : InS NFS) => p.h.2.1.2 6 _ rfl
        have ra7 := fun (p : InS NFS) => p.h.1.1.2 7 _ rfl
        have rb7 := fun (p : InS NFS) => p.h.2.1.2 7 _ rfl
        have ra8 := fun (p : InS NFS) => p.h.1.1.2 8 _ rfl
        have rb8 := fun (p : InS NFS) => p.h.2.1.2 8 _ rfl
        have z0 := (H2.c).1.2 0 _ rfl
        have z1 := (H2.c).1.2 1 _ rfl
        have z2 := (H2.c).1.2 2 _ rfl
        have z3 := (H2.c).1.2 3 _ rfl
        have z4 := (H2.c).1.2 4 _ rfl
        have z5 := (H2.c).1.2 5 _ rfl
        have z6 := (H2.c).1.2 6 _ rfl
        have z7 := (H2.c).1.2 7 _ rfl
        have z8 := (H2.c).1.2 8 _ rfl
        have u0 := (H2.d).1.2 0 _ rfl
        have u1 := (H2.d).1.2 1 _ rfl
        have u2 := (H2.d).1.2 2 _ rfl
        have u3 := (H2.d).1.2 3 _ rfl
        have u4 := (H2.d).1.2 4 _ rfl
        have u5 := (H2.d).1.2 5 _ rfl
        have u6 := (H2.d).1.2 6 _ rfl
        have u7 := (H2.d).1.2 7 _ rfl
        have u8 := (H2.d).1.2 8 _ rfl
        have cf := H2.c.2
        have uf := H2.d.2
        have cl := H2.c.1.1
        have ul := H2.d.1.1
        have HA := H2.a
        have HB := H2.b
        refine wp_region_sts NFS [2] 3 (by kernel_rfl) (by kernel_rfl) ?hS0 ?_
        case hS0 => exact ⟨HA.drew, HB.drew⟩
        with_reducible refine st_sel [0, 1] (by kernel_rfl) (by kernel_rfl) ?_
        simp only [picked, List.getElem?_cons_succ, List.getElem?_cons_zero, Option.toList_some, List.nil_append, List.cons_append, List.append_nil]
        try simp only [Act.put, List.setIfInBounds_toArray, List.set_cons_succ, List.set_cons_zero]
        repeat (go_big_quiet_step (fail))
        with_reducible refine wpQuiet_nil ?_
        refine st_branch [2] (by kernel_rfl) (branch_cons (by simp only [List.getElem?_toArray, List.getElem?_cons_succ, List.getElem?_cons_zero]; rfl) ?_ branch_nil)
        refine eff_done_s rfl (by simp [go_sem, z0, z1, z2, z3, z4, z5, z6, z7, z8, cf]; rfl) ?hS1 ?_
        case hS1 => exact (by constructor <;> repeat (first | (with_reducible exact HA) | (with_reducible exact HB) | (with_reducible refine AtF.drew ?_) | (with_reducible refine AtF.other ?_ (by omega) _ _)))
        try simp only [List.nil_append, List.cons_append, Act.put, List.setIfInBounds_toArray, List.set_cons_succ, List.set_cons_zero]
        refine st_end (by kernel_rfl) ?_
        simp only [List.drop_succ_cons, List.drop_zero, List.drop_nil]
        skip
        clear ra0 ra1 ra2 ra3 ra4 ra5 ra6 ra7 ra8 rb0 rb1 rb2 rb3 rb4 rb5 rb6 rb7 rb8 nnS NFS
        go_wp2
        have H3 := H2.fin [.int .i64 i1, .int .i64 t1, .int .i64 k1, .int .i64 s1, .int .i64 n1, .string d1, .bool f1, .slice (some ⟨A1, 0, none⟩) l1 c1, .int .i64 m1] [.int .i64 i2, .int .i64 t1, .int .i64 k1, .int .i64 (s1 + n1), .int .i64 n2, .string d2, .bool f1, .slice (some ⟨A2, 0, none⟩) l2 c2, .int .i64 m2] rfl rfl
        have g1 := H3.1.drew
        have g2 := H3.2.1.drew
        have g5 := H3.2.2.2.2.drew
        clear z0 z1 z2 z3 z4 z5 z6 z7 z8 u0 u1 u2 u3 u4 u5 u6 u7 u8
        have z0 := (g1).1.2 0 _ rfl
        have z1 := (g1).1.2 1 _ rfl
        have z2 := (g1).1.2 2 _ rfl
        have z3 := (g1).1.2 3 _ rfl
        have z4 := (g1).1.2 4 _ rfl
        have z5 := (g1).1.2 5 _ rfl
        have z6 := (g1).1.2 6 _ rfl
        have z7 := (g1).1.2 7 _ rfl
        have z8 := (g1).1.2 8 _ rfl
        have u0 := (g2).1.2 0 _ rfl
        have u1 := (g2).1.2 1 _ rfl
        have u2 := (g2).1.2 2 _ rfl
        have u3 := (g2).1.2 3 _ rfl
        have u4 := (g2).1.2 4 _ rfl
        have u5 := (g2).1.2 5 _ rfl
        have u6 := (g2).1.2 6 _ rfl
        have u7 := (g2).1.2 7 _ rfl
        have u8 := (g2).1.2 8 _ rfl
        exact bodyPost_ret (v := .tuple #[.agg #[.int .i64 i1, .int .i64 t1, .int .i64 k1, .int .i64 s1, .int .i64 n1, .string d1, .bool f1, .slice (some ⟨A1, 0, none⟩) l1 c1, .int .i64 m1], .agg #[.int .i64 i2, .int .i64 t1, .int .i64 k1, .int .i64 (s1 + n1), .int .i64 n2, .string d2, .bool f1, .slice (some ⟨A2, 0, none⟩) l2 c2, .int .i64 m2]])
          (by simp only [setRow] at z0 z1 z2 z3 z4 z5 z6 z7 z8 u0 u1 u2 u3 u4 u5 u6 u7 u8; simp [results, Try.results21, go_sem, z0, z1, z2, z3, z4, z5, z6, z7, z8, u0, u1, u2, u3, u4, u5, u6, u7, u8])
          rfl ⟨⟨⟨i1, t1, k1, s1, n1, d1, f1, some ⟨A1, 0, none⟩, l1, c1, m1⟩, _⟩, ⟨⟨i2, t1, k1, (s1 + n1), n2, d2, f1, some ⟨A2, 0, none⟩, l2, c2, m2⟩, _⟩, rfl, H3.2.2.1.bel (Bel.drew (Bel.refl _)), H3.2.2.2.1.bel (Bel.drew (Bel.refl _)), g5⟩
  · skip
    have p0 := (H0.a).1.2 0 _ rfl
    have p1 := (H0.a).1.2 1 _ rfl
    have p2 := (H0.a).1.2 2 _ rfl
    have p3 := (H0.a).1.2 3 _ rfl
    have p4 := (H0.a).1.2 4 _ rfl
    have p5 := (H0.a).1.2 5 _ rfl
    have p6 := (H0.a).1.2 6 _ rfl
    have p7 := (H0.a).1.2 7 _ rfl
    have p8 := (H0.a).1.2 8 _ rfl
    have q0 := (H0.b).1.2 0 _ rfl
    have q1 := (H0.b).1.2 1 _ rfl
    have q2 := (H0.b).1.2 2 _ rfl
    have q3 := (H0.b).1.2 3 _ rfl
    have q4 := (H0.b).1.2 4 _ rfl
    have q5 := (H0.b).1.2 5 _ rfl
    have q6 := (H0.b).1.2 6 _ rfl
    have q7 := (H0.b).1.2 7 _ rfl
    have q8 := (H0.b).1.2 8 _ rfl
    have qf := H0.b.2
    let NRS : World → Prop := fun W' => AtF W' PA [.int .i64 i1, .int .i64 t1, .int .i64 k1, .int .i64 s1, .int .i64 n1, .string d1, .bool f1, .slice (some ⟨A1, 0, none⟩) l1 c1, .int .i64 m1]
    haveI nnS : Nonempty (InS NRS) := ⟨⟨W, H0.a⟩⟩
    go_wp2_with fail
    have rg1 := fun (p : InS NRS) => p.h.1.2 1 _ rfl
    have rg2 := fun (p : InS NRS) => p.h.1.2 2 _ rfl
    have rg6 := fun (p : InS NRS) => p.h.1.2 6 _ rfl
    refine wp_region_sts NRS [7, 9] 11 (by kernel_rfl) (by kernel_rfl) ?hS0 ?_
    case hS0 => exact H0.a.drew
    with_reducible refine st_sel [0, 1, 2, 3, 4, 5, 6] (by kernel_rfl) (by kernel_rfl) ?_
    simp only [picked, List.getElem?_cons_succ, List.getElem?_cons_zero, Option.toList_some, List.nil_append, List.cons_append, List.append_nil]
    try simp only [Act.put, List.setIfInBounds_toArray, List.set_cons_succ, List.set_cons_zero]
    repeat (go_big_quiet_step (fail))
    with_reducible refine wpQuiet_nil ?_
    refine st_branch [7] (by kernel_rfl) (branch_cons (by simp only [List.getElem?_toArray, List.getElem?_cons_succ, List.getElem?_cons_zero]; rfl) ?_ branch_nil)
    refine eff_done_s rfl (by simp [go_sem, q1, q2, q3, q6, qf]; rfl) ?hS1 ?_
    case hS1 => exact (by repeat (first | (with_reducible exact H0.a) | (with_reducible exact H0.a.drew) | (refine AtF.other ?_ (by omega) _ _)))
    try simp only [List.nil_append, List.cons_append, Act.put, List.setIfInBounds_toArray, List.set_cons_succ, List.set_cons_zero]
    with_reducible refine st_sel [8] (by kernel_rfl) (by kernel_rfl) ?_
    simp only [picked, List.getElem?_cons_succ, List.getElem?_cons_zero, Option.toList_some, List.nil_append, List.cons_append, List.append_nil]
    try simp only [Act.put, List.setIfInBounds_toArray, List.set_cons_succ, List.set_cons_zero]
    repeat (go_big_quiet_step (fail))
    with_reducible refine wpQuiet_nil ?_
    refine st_branch [9] (by kernel_rfl) (branch_cons (by simp only [List.getElem?_toArray, List.getElem?_cons_succ, List.getElem?_cons_zero]; rfl) ?_ branch_nil)
    refine eff_done_s rfl (by simp [go_sem, q1, q2, q3, q6, qf]; rfl) ?hS1 ?_
    case hS1 => exact (by repeat (first | (with_reducible exact H0.a) | (with_reducible exact H0.a.drew) | (refine AtF.other ?_ (by omega) _ _)))
    try simp only [List.nil_append, List.cons_append, Act.put, List.setIfInBounds_toArray, List.set_cons_succ, List.set_cons_zero]
    with_reducible refine st_sel [10] (by kernel_rfl) (by kernel_rfl) ?_
    simp only [picked, List.getElem?_cons_succ, List.getElem?_cons_zero, Option.toList_some, List.nil_append, List.cons_append, List.append_nil]
    try simp only [Act.put, List.setIfInBounds_toArray, List.set_cons_succ, List.set_cons_zero]
    repeat (go_big_quiet_step (fail))
    with_reducible refine wpQuiet_nil ?_
    refine st_end (by kernel_rfl) ?_
    simp only [List.drop_succ_cons, List.drop_zero, List.drop_nil]
    skip
    clear rg1 rg2 rg6
    have H1 := (((H0.upd 2 (.int .i64 k1) ⟨i2, t2, k1, s2, n2, d2, f2, some ⟨A2, 0, none⟩, l2, c2, m2⟩ rfl (by omega) rfl rfl rfl hdl2 rfl).upd 1 (.int .i64 t1) ⟨i2, t1, k1, s2, n2, d2, f2, some ⟨A2, 0, none⟩, l2, c2, m2⟩ rfl (by omega) rfl rfl rfl hdl2 rfl).upd 6 (.bool f1) ⟨i2, t1, k1, s2, n2, d2, f1, some ⟨A2, 0, none⟩, l2, c2, m2⟩ rfl (by omega) rfl rfl rfl hdl2 rfl).grow (Bel.drew (Bel.refl _))
    go_upto_region 10 with fail
    generalize World.drew _ = W1 at H1 ⊢
    clear p0 p1 p2 p3 p4 p5 p6 p7 p8 q0 q1 q2 q3 q4 q5 q6 q7 q8 qf nnS NRS H0
    have p3 := H1.a.1.2 3 _ rfl
    have q3 := H1.b.1.2 3 _ rfl
    have q4 := H1.b.1.2 4 _ rfl
    have qf := H1.b.2
    by_cases hsn : n2 ≤ s1
    · have H1' := H1.upd 3 (.int .i64 (s1 - n2)) ⟨i2, t1, k1, s1 - n2, n2, d2, f1, some ⟨A2, 0, none⟩, l2, c2, m2⟩ rfl (by omega) rfl rfl rfl hdl2 rfl
      go_upto_region 14 with fail
      generalize World.setCell _ _ _ = W3 at H1' ⊢
      clear p3 q3 q4 qf H1 hsn
      have H1 := H1'
      clear H1'
      obtain ⟨W1, rfl⟩ : ∃ W1, W1 = W3 := ⟨_, rfl⟩
      have q2 := H1.b.1.2 2 _ rfl
      have q4 := H1.b.1.2 4 _ rfl
      have q5 := H1.b.1.2 5 _ rfl
      have qf := H1.b.2
      have ql := H1.b.1.1
      by_cases hk : k1 = 1
      · have hkb : (k1 == 1) = true := by simpa using hk
        have H2 := H1.upd 5 (.string ⟨#[]⟩) ⟨i2, t1, k1, (s1 - n2), n2, ⟨#[]⟩, f1, some ⟨A2, 0, none⟩, l2, c2, m2⟩ rfl (by omega) rfl rfl rfl (by show 0 ≤ maxLen; unfold maxLen; omega) rfl
        clear hk
        go_upto_region 18 with fail
        generalize World.setCell _ _ _ = W2 at H2 ⊢
        clear q2 q4 q5 qf ql H1
        let NFS : World → Prop := fun W' => AtF W' PA [.int .i64 i1, .int .i64 t1, .int .i64 k1, .int .i64 s1, .int .i64 n1, .string d1, .bool f1, .slice (some ⟨A1, 0, none⟩) l1 c1, .int .i64 m1] ∧ AtF W' (PA + 1) [.int .i64 i2, .int .i64 t1, .int .i64 k1, .int .i64 (s1 - n2), .int .i64 n2, .string ⟨#[]⟩, .bool f1, .slice (some ⟨A2, 0, none⟩) l2 c2, .int .i64 m2]
        haveI nnS : Nonempty (InS NFS) := ⟨⟨W2, H2.a, H2.b⟩⟩
        have e4 := H2.n4
        have ra0 := fun (p : InS NFS) => p.h.1.1.2 0 _ rfl
        have rb0 := fun (p : InS NFS) => p.h.2.1.2 0 _ rfl
        have ra1 := fun (p : InS NFS) => p.h.1.1.2 1 _ rfl
        have rb1 := fun (p : InS NFS) => p.h.2.1.2 1 _ rfl
        have ra2 := fun (p : InS NFS) => p.h.1.1.2 2 _ rfl
        have rb2 := fun (p : InS NFS) => p.h.2.1.2 2 _ rfl
        have ra3 := fun (p : InS NFS) => p.h.1.1.2 3 _ rfl
        have rb3 := fun (p : InS NFS) => p.h.2.1.2 3 _ rfl
        have ra4 := fun (p : InS NFS) => p.h.1.1.2 4 _ rfl
        have rb4 := fun (p : InS NFS) => p.h.2.1.2 4 _ rfl
        have ra5 := fun (p : InS NFS) => p.h.1.1.2 5 _ rfl
        have rb5 := fun (p : InS NFS) => p.h.2.1.2 5 _ rfl
        have ra6 := fun (p : InS NFS) => p.h.1.1.2 6 _ rfl
        have rb6 := fun (p : InS NFS) => p.h.2.1.2 6 _ rfl
        have ra7 := fun (p : InS NFS) => p.h.1.1.2 7 _ rfl
        have rb7 := fun (p : InS NFS) => p.h.2.1.2 7 _ rfl
        have ra8 := fun (p : InS NFS) => p.h.1.1.2 8 _ rfl
        have rb8 := fun (p : InS NFS) => p.h.2.1.2 8 _ rfl
        have z0 := (H2.c).1.2 0 _ rfl
        have z1 := (H2.c).1.2 1 _ rfl
        have z2 := (H2.c).1.2 2 _ rfl
        have z3 := (H2.c).1.2 3 _ rfl
        have z4 := (H2.c).1.2 4 _ rfl
        have z5 := (H2.c).1.2 5 _ rfl
        have z6 := (H2.c).1.2 6 _ rfl
        have z7 := (H2.c).1.2 7 _ rfl
        have z8 := (H2.c).1.2 8 _ rfl
        have u0 := (H2.d).1.2 0 _ rfl
        have u1 := (H2.d).1.2 1 _ rfl
        have u2 := (H2.d).1.2 2 _ rfl
        have u3 := (H2.d).1.2 3 _ rfl
        have u4 := (H2.d).1.2 4 _ rfl
        have u5 := (H2.d).1.2 5 _ rfl
        have u6 := (H2.d).1.2 6 _ rfl
        have u7 := (H2.d).1.2 7 _ rfl
        have u8 := (H2.d).1.2 8 _ rfl
        have cf := H2.c.2
        have uf := H2.d.2
        have cl := H2.c.1.1
        have ul := H2.d.1.1
        have HA := H2.a
        have HB := H2.b
        refine wp_region_sts NFS [2] 3 (by kernel_rfl) (by kernel_rfl) ?hS0 ?_
        case hS0 => exact ⟨HA.drew, HB.drew⟩
        with_reducible refine st_sel [0, 1] (by kernel_rfl) (by kernel_rfl) ?_
        simp only [picked, List.getElem?_cons_succ, List.getElem?_cons_zero, Option.toList_some, List.nil_append, List.cons_append, List.append_nil]
        try simp only [Act.put, List.setIfInBounds_toArray, List.set_cons_succ, List.set_cons_zero]
        repeat (go_big_quiet_step (fail))
        with_reducible refine wpQuiet_nil ?_
        refine st_branch [2] (by kernel_rfl) (branch_cons (by simp only [List.getElem?_toArray, List.getElem?_cons_succ, List.getElem?_cons_zero]; rfl) ?_ branch_nil)
        refine eff_done_s rfl (by simp [go_sem, z0, z1, z2, z3, z4, z5, z6, z7, z8, cf]; rfl) ?hS1 ?_
        case hS1 => exact (by constructor <;> repeat (first | (with_reducible exact HA) | (with_reducible exact HB) | (with_reducible refine AtF.drew ?_) | (with_reducible refine AtF.other ?_ (by omega) _ _)))
        try simp only [List.nil_append, List.cons_append, Act.put, List.setIfInBounds_toArray, List.set_cons_succ, List.set_cons_zero]
        refine st_end (by kernel_rfl) ?_
        simp only [List.drop_succ_cons, List.drop_zero, List.drop_nil]
        skip
        clear ra0 ra1 ra2 ra3 ra4 ra5 ra6 ra7 ra8 rb0 rb1 rb2 rb3 rb4 rb5 rb6 rb7 rb8 nnS NFS
        go_wp2
        have H3 := H2.fin [.int .i64 i1, .int .i64 t1, .int .i64 k1, .int .i64 s1, .int .i64 n1, .string d1, .bool f1, .slice (some ⟨A1, 0, none⟩) l1 c1, .int .i64 m1] [.int .i64 i2, .int .i64 t1, .int .i64 k1, .int .i64 (s1 - n2), .int .i64 n2, .string ⟨#[]⟩, .bool f1, .slice (some ⟨A2, 0, none⟩) l2 c2, .int .i64 m2] rfl rfl
        have g1 := H3.1.drew
        have g2 := H3.2.1.drew
        have g5 := H3.2.2.2.2.drew
        clear z0 z1 z2 z3 z4 z5 z6 z7 z8 u0 u1 u2 u3 u4 u5 u6 u7 u8
        have z0 := (g1).1.2 0 _ rfl
        have z1 := (g1).1.2 1 _ rfl
        have z2 := (g1).1.2 2 _ rfl
        have z3 := (g1).1.2 3 _ rfl
        have z4 := (g1).1.2 4 _ rfl
        have z5 := (g1).1.2 5 _ rfl
        have z6 := (g1).1.2 6 _ rfl
        have z7 := (g1).1.2 7 _ rfl
        have z8 := (g1).1.2 8 _ rfl
        have u0 := (g2).1.2 0 _ rfl
        have u1 := (g2).1.2 1 _ rfl
        have u2 := (g2).1.2 2 _ rfl
        have u3 := (g2).1.2 3 _ rfl
        have u4 := (g2).1.2 4 _ rfl
        have u5 := (g2).1.2 5 _ rfl
        have u6 := (g2).1.2 6 _ rfl
        have u7 := (g2).1.2 7 _ rfl
        have u8 := (g2).1.2 8 _ rfl
        exact bodyPost_ret (v := .tuple #[.agg #[.int .i64 i1, .int .i64 t1, .int .i64 k1, .int .i64 s1, .int .i64 n1, .string d1, .bool f1, .slice (some ⟨A1, 0, none⟩) l1 c1, .int .i64 m1], .agg #[.int .i64 i2, .int .i64 t1, .int .i64 k1, .int .i64 (s1 - n2), .int .i64 n2, .string ⟨#[]⟩, .bool f1, .slice (some ⟨A2, 0, none⟩) l2 c2, .int .i64 m2]])
          (by simp only [setRow] at z0 z1 z2 z3 z4 z5 z6 z7 z8 u0 u1 u2 u3 u4 u5 u6 u7 u8; simp [results, Try.results21, go_sem, z0, z1, z2, z3, z4, z5, z6, z7, z8, u0, u1, u2, u3, u4, u5, u6, u7, u8])
          rfl ⟨⟨⟨i1, t1, k1, s1, n1, d1, f1, some ⟨A1, 0, none⟩, l1, c1, m1⟩, _⟩, ⟨⟨i2, t1, k1, (s1 - n2), n2, ⟨#[]⟩, f1, some ⟨A2, 0, none⟩, l2, c2, m2⟩, _⟩, rfl, H3.2.2.1.bel (Bel.drew (Bel.refl _)), H3.2.2.2.1.bel (Bel.drew (Bel.refl _)), g5⟩
      · have hkb : (k1 == 1) = false := by simpa using hk
        clear hk
        rcases Bool.eq_false_or_eq_true d2.toList.isEmpty with hdb | hdb
        · go_wp2_with fail
          refine (HDT.out _).mono ?_; rintro e wd ⟨rfl, hbd⟩
          have H1' := H1.grow hbd
          have q5' := H1'.b.1.2 5 _ rfl
          have qf' := H1'.b.2
          have ql' := H1'.b.1.1
          have H2 := H1'.upd 5 (.string db) ⟨i2, t1, k1, (s1 - n2), n2, db, f1, some ⟨A2, 0, none⟩, l2, c2, m2⟩ rfl (by omega) rfl rfl rfl hdz rfl
          clear q2 q4 q5 qf ql H1 hbd H1'
          go_upto_region 18 with fail
          generalize World.setCell _ _ _ = W2 at H2 ⊢
          clear q5' qf' ql'
          let NFS : World → Prop := fun W' => AtF W' PA [.int .i64 i1, .int .i64 t1, .int .i64 k1, .int .i64 s1, .int .i64 n1, .string d1, .bool f1, .slice (some ⟨A1, 0, none⟩) l1 c1, .int .i64 m1] ∧ AtF W' (PA + 1) [.int .i64 i2, .int .i64 t1, .int .i64 k1, .int .i64 (s1 - n2), .int .i64 n2, .string db, .bool f1, .slice (some ⟨A2, 0, none⟩) l2 c2, .int .i64 m2]
          haveI nnS : Nonempty (InS NFS) := ⟨⟨W2, H2.a, H2.b⟩⟩
          have e4 := H2.n4
          have ra0 := fun (p : InS NFS) => p.h.1.1.2 0 _ rfl
          have rb0 := fun (p : InS NFS) => p.h.2.1.2 0 _ rfl
          have ra1 := fun (p : InS NFS) => p.h.1.1.2 1 _ rfl
          have rb1 := fun (p : InS NFS) => p.h.2.1.2 1 _ rfl
          have ra2 := fun (p : InS NFS) => p.h.1.1.2 2 _ rfl
          have rb2 := fun (p : InS NFS) => p.h.2.1.2 2 _ rfl
          have ra3 := fun (p : InS NFS) => p.h.1.1.2 3 _ rfl
          have rb3 := fun (p : InS NFS) => p.h.2.1.2 3 _ rfl
          have ra4 := fun (p : InS NFS) => p.h.1.1.2 4 _ rfl
          have rb4 := fun (p : InS NFS) => p.h.2.1.2 4 _ rfl
          have ra5 := fun (p : InS NFS) => p.h.1.1.2 5 _ rfl
          have rb5 := fun (p : InS NFS) => p.h.2.1.2 5 _ rfl
          have ra6 := fun (p : InS NFS) => p.h.1.1.2 6 _ rfl
          have rb6 := fun (p : InS NFS) => p.h.2.1.2 6 _ rfl
          have ra7 := fun (p : InS NFS) => p.h.1.1.2 7 _ rfl
          have rb7 := fun (p : InS NFS) => p.h.2.1.2 7 _ rfl
          have ra8 := fun (p : InS NFS) => p.h.1.1.2 8 _ rfl
          have rb8 := fun (p : InS NFS) => p.h.2.1.2 8 _ rfl
          have z0 := (H2.c).1.2 0 _ rfl
          have z1 := (H2.c).1.2 1 _ rfl
          have z2 := (H2.c).1.2 2 _ rfl
          have z3 := (H2.c).1.2 3 _ rfl
          have z4 := (H2.c).1.2 4 _ rfl
          have z5 := (H2.c).1.2 5 _ rfl
          have z6 := (H2.c).1.2 6 _ rfl
          have z7 := (H2.c).1.2 7 _ rfl
          have z8 := (H2.c).1.2 8 _ rfl
          have u0 := (H2.d).1.2 0 _ rfl
          have u1 := (H2.d).1.2 1 _ rfl
          have u2 := (H2.d).1.2 2 _ rfl
          have u3 := (H2.d).1.2 3 _ rfl
          have u4 := (H2.d).1.2 4 _ rfl
          have u5 := (H2.d).1.2 5 _ rfl
          have u6 := (H2.d).1.2 6 _ rfl
          have u7 := (H2.d).1.2 7 _ rfl
          have u8 := (H2.d).1.2 8 _ rfl
          have cf := H2.c.2
          have uf := H2.d.2
          have cl := H2.c.1.1
          have ul := H2.d.1.1
          have HA := H2.a
          have HB := H2.b
          refine wp_region_sts NFS [2] 3 (by kernel_rfl) (by kernel_rfl) ?hS0 ?_
          case hS0 => exact ⟨HA.drew, HB.drew⟩
          with_reducible refine st_sel [0, 1] (by kernel_rfl) (by kernel_rfl) ?_
          simp only [picked, List.getElem?_cons_succ, List.getElem?_cons_zero, Option.toList_some, List.nil_append, List.cons_append, List.append_nil]
          try simp only [Act.put, List.setIfInBounds_toArray, List.set_cons_succ, List.set_cons_zero]
          repeat (go_big_quiet_step (fail))
          with_reducible refine wpQuiet_nil ?_
          refine st_branch [2] (by kernel_rfl) (branch_cons (by simp only [List.getElem?_toArray, List.getElem?_cons_succ, List.getElem?_cons_zero]; rfl) ?_ branch_nil)
          refine eff_done_s rfl (by simp [go_sem, z0, z1, z2, z3, z4, z5, z6, z7, z8, cf]; rfl) ?hS1 ?_
          case hS1 => exact (by constructor <;> repeat (first | (with_reducible exact HA) | (with_reducible exact HB) | (with_reducible refine AtF.drew ?_) | (with_reducible refine AtF.other ?_ (by omega) _ _)))
          try simp only [List.nil_append, List.cons_append, Act.put, List.setIfInBounds_toArray, List.set_cons_succ, List.set_cons_zero]
          refine st_end (by kernel_rfl) ?_
          simp only [List.drop_succ_cons, List.drop_zero, List.drop_nil]
          skip
          clear ra0 ra1 ra2 ra3 ra4 ra5 ra6 ra7 ra8 rb0 rb1 rb2 rb3 rb4 rb5 rb6 rb7 rb8 nnS NFS
          go_wp2
          have H3 := H2.fin [.int .i64 i1, .int .i64 t1, .int .i64 k1, .int .i64 s1, .int .i64 n1, .string d1, .bool f1, .slice (some ⟨A1, 0, none⟩) l1 c1, .int .i64 m1] [.int .i64 i2, .int .i64 t1, .int .i64 k1, .int .i64 (s1 - n2), .int .i64 n2, .string db, .bool f1, .slice (some ⟨A2, 0, none⟩) l2 c2, .int .i64 m2] rfl rfl
          have g1 := H3.1.drew
          have g2 := H3.2.1.drew
          have g5 := H3.2.2.2.2.drew
          clear z0 z1 z2 z3 z4 z5 z6 z7 z8 u0 u1 u2 u3 u4 u5 u6 u7 u8
          have z0 := (g1).1.2 0 _ rfl
          have z1 := (g1).1.2 1 _ rfl
          have z2 := (g1).1.2 2 _ rfl
          have z3 := (g1).1.2 3 _ rfl
          have z4 := (g1).1.2 4 _ rfl
          have z5 := (g1).1.2 5 _ rfl
          have z6 := (g1).1.2 6 _ rfl
          have z7 := (g1).1.2 7 _ rfl
          have z8 := (g1).1.2 8 _ rfl
          have u0 := (g2).1.2 0 _ rfl
          have u1 := (g2).1.2 1 _ rfl
          have u2 := (g2).1.2 2 _ rfl
          have u3 := (g2).1.2 3 _ rfl
          have u4 := (g2).1.2 4 _ rfl
          have u5 := (g2).1.2 5 _ rfl
          have u6 := (g2).1.2 6 _ rfl
          have u7 := (g2).1.2 7 _ rfl
          have u8 := (g2).1.2 8 _ rfl
          exact bodyPost_ret (v := .tuple #[.agg #[.int .i64 i1, .int .i64 t1, .int .i64 k1, .int .i64 s1, .int .i64 n1, .string d1, .bool f1, .slice (some ⟨A1, 0, none⟩) l1 c1, .int .i64 m1], .agg #[.int .i64 i2, .int .i64 t1, .int .i64 k1, .int .i64 (s1 - n2), .int .i64 n2, .string db, .bool f1, .slice (some ⟨A2, 0, none⟩) l2 c2, .int .i64 m2]])
            (by simp only [setRow] at z0 z1 z2 z3 z4 z5 z6 z7 z8 u0 u1 u2 u3 u4 u5 u6 u7 u8; simp [results, Try.results21, go_sem, z0, z1, z2, z3, z4, z5, z6, z7, z8, u0, u1, u2, u3, u4, u5, u6, u7, u8])
            rfl ⟨⟨⟨i1, t1, k1, s1, n1, d1, f1, some ⟨A1, 0, none⟩, l1, c1, m1⟩, _⟩, ⟨⟨i2, t1, k1, (s1 - n2), n2, db, f1, some ⟨A2, 0, none⟩, l2, c2, m2⟩, _⟩, rfl, H3.2.2.1.bel (Bel.drew (Bel.refl _)), H3.2.2.2.1.bel (Bel.drew (Bel.refl _)), g5⟩
        · go_upto_region 18 with fail
          clear q2 q4 q5 qf ql
          have H2 := H1
          clear H1
          obtain ⟨W2, rfl⟩ : ∃ W2, W2 = W1 := ⟨_, rfl⟩
          let NFS : World → Prop := fun W' => AtF W' PA [.int .i64 i1, .int .i64 t1, .int .i64 k1, .int .i64 s1, .int .i64 n1, .string d1, .bool f1, .slice (some ⟨A1, 0, none⟩) l1 c1, .int .i64 m1] ∧ AtF W' (PA + 1) [.int .i64 i2, .int .i64 t1, .int .i64 k1, .int .i64 (s1 - n2), .int .i64 n2, .string d2, .bool f1, .slice (some ⟨A2, 0, none⟩) l2 c2, .int .i64 m2]
          haveI nnS : Nonempty (InS NFS) := ⟨⟨W2, H2.a, H2.b⟩⟩
          have e4 := H2.n4
          have ra0 := fun (p : InS NFS) => p.h.1.1.2 0 _ rfl
          have rb0 := fun (p : InS NFS) => p.h.2.1.2 0 _ rfl
          have ra1 := fun (p : InS NFS) => p.h.1.1.2 1 _ rfl
          have rb1 := fun (p : InS NFS) => p.h.2.1.2 1 _ rfl
          have ra2 := fun (p : InS NFS) => p.h.1.1.2 2 _ rfl
          have rb2 := fun (p : InS NFS) => p.h.2.1.2 2 _ rfl
          have ra3 := fun (p : InS NFS) => p.h.1.1.2 3 _ rfl
          have rb3 := fun (p : InS NFS) => p.h.2.1.2 3 _ rfl
          have ra4 := fun (p : InS NFS) => p.h.1.1.2 4 _ rfl
          have rb4 := fun (p : InS NFS) => p.h.2.1.2 4 _ rfl
          have ra5 := fun (p : InS NFS) => p.h.1.1.2 5 _ rfl
          have rb5 := fun (p : InS NFS) => p.h.2.1.2 5 _ rfl
          have ra6 := fun (p : InS NFS) => p.h.1.1.2 6 _ rfl
          have rb6 := fun (p : InS NFS) => p.h.2.1.2 6 _ rfl
          have ra7 := fun (p : InS NFS) => p.h.1.1.2 7 _ rfl
          have rb7 := fun (p : InS NFS) => p.h.2.1.2 7 _ rfl
          have ra8 := fun (p : InS NFS) => p.h.1.1.2 8 _ rfl
          have rb8 := fun (p : InS NFS) => p.h.2.1.2 8 _ rfl
          have z0 := (H2.c).1.2 0 _ rfl
          have z1 := (H2.c).1.2 1 _ rfl
          have z2 := (H2.c).1.2 2 _ rfl
          have z3 := (H2.c).1.2 3 _ rfl
          have z4 := (H2.c).1.2 4 _ rfl
          have z5 := (H2.c).1.2 5 _ rfl
          have z6 := (H2.c).1.2 6 _ rfl
          have z7 := (H2.c).1.2 7 _ rfl
          have z8 := (H2.c).1.2 8 _ rfl
          have u0 := (H2.d).1.2 0 _ rfl
          have u1 := (H2.d).1.2 1 _ rfl
          have u2 := (H2.d).1.2 2 _ rfl
          have u3 := (H2.d).1.2 3 _ rfl
          have u4 := (H2.d).1.2 4 _ rfl
          have u5 := (H2.d).1.2 5 _ rfl
          have u6 := (H2.d).1.2 6 _ rfl
          have u7 := (H2.d).1.2 7 _ rfl
          have u8 := (H2.d).1.2 8 _ rfl
          have cf := H2.c.2
          have uf := H2.d.2
          have cl := H2.c.1.1
          have ul := H2.d.1.1
          have HA := H2.a
          have HB := H2.b
          refine wp_region_sts NFS [2] 3 (by kernel_rfl) (by kernel_rfl) ?hS0 ?_
          case hS0 => exact ⟨HA.drew, HB.drew⟩
          with_reducible refine st_sel [0, 1] (by kernel_rfl) (by kernel_rfl) ?_
          simp only [picked, List.getElem?_cons_succ, List.getElem?_cons_zero, Option.toList_some, List.nil_append, List.cons_append, List.append_nil]
          try simp only [Act.put, List.setIfInBounds_toArray, List.set_cons_succ, List.set_cons_zero]
          repeat (go_big_quiet_step (fail))
          with_reducible refine wpQuiet_nil ?_
          refine st_branch [2] (by kernel_rfl) (branch_cons (by simp only [List.getElem?_toArray, List.getElem?_cons_succ, List.getElem?_cons_zero]; rfl) ?_ branch_nil)
          refine eff_done_s rfl (by simp [go_sem, z0, z1, z2, z3, z4, z5, z6, z7, z8, cf]; rfl) ?hS1 ?_
          case hS1 => exact (by constructor <;> repeat (first | (with_reducible exact HA) | (with_reducible exact HB) | (with_reducible refine AtF.drew ?_) | (with_reducible refine AtF.other ?_ (by omega) _ _)))
          try simp only [List.nil_append, List.cons_append, Act.put, List.setIfInBounds_toArray, List.set_cons_succ, List.set_cons_zero]
          refine st_end (by kernel_rfl) ?_
          simp only [List.drop_succ_cons, List.drop_zero, List.drop_nil]
          skip
          clear ra0 ra1 ra2 ra3 ra4 ra5 ra6 ra7 ra8 rb0 rb1 rb2 rb3 rb4 rb5 rb6 rb7 rb8 nnS NFS
          go_wp2
          have H3 := H2.fin [.int .i64 i1, .int .i64 t1, .int .i64 k1, .int .i64 s1, .int .i64 n1, .string d1, .bool f1, .slice (some ⟨A1, 0, none⟩) l1 c1, .int .i64 m1] [.int .i64 i2, .int .i64 t1, .int .i64 k1, .int .i64 (s1 - n2), .int .i64 n2, .string d2, .bool f1, .slice (some ⟨A2, 0, none⟩) l2 c2, .int .i64 m2] rfl rfl
          have g1 := H3.1.drew
          have g2 := H3.2.1.drew
          have g5 := H3.2.2.2.2.drew
          clear z0 z1 z2 z3 z4 z5 z6 z7 z8 u0 u1 u2 u3 u4 u5 u6 u7 u8
          have z0 := (g1).1.2 0 _ rfl
          have z1 := (g1).1.2 1 _ rfl
          have z2 := (g1).1.2 2 _ rfl
          have z3 := (g1).1.2 3 _ rfl
          have z4 := (g1).1.2 4 _ rfl
          have z5 := (g1).1.2 5 _ rfl
          have z6 := (g1).1.2 6 _ rfl
          have z7 := (g1).1.2 7 _ rfl
          have z8 := (g1).1.2 8 _ rfl
          have u0 := (g2).1.2 0 _ rfl
          have u1 := (g2).1.2 1 _ rfl
          have u2 := (g2).1.2 2 _ rfl
          have u3 := (g2).1.2 3 _ rfl
          have u4 := (g2).1.2 4 _ rfl
          have u5 := (g2).1.2 5 _ rfl
          have u6 := (g2).1.2 6 _ rfl
          have u7 := (g2).1.2 7 _ rfl
          have u8 := (g2).1.2 8 _ rfl
          exact bodyPost_ret (v := .tuple #[.agg #[.int .i64 i1, .int .i64 t1, .int .i64 k1, .int .i64 s1, .int .i64 n1, .string d1, .bool f1, .slice (some ⟨A1, 0, none⟩) l1 c1, .int .i64 m1], .agg #[.int .i64 i2, .int .i64 t1, .int .i64 k1, .int .i64 (s1 - n2), .int .i64 n2, .string d2, .bool f1, .slice (some ⟨A2, 0, none⟩) l2 c2, .int .i64 m2]])
            (by simp only [setRow] at z0 z1 z2 z3 z4 z5 z6 z7 z8 u0 u1 u2 u3 u4 u5 u6 u7 u8; simp [results, Try.results21, go_sem, z0, z1, z2, z3, z4, z5, z6, z7, z8, u0, u1, u2, u3, u4, u5, u6, u7, u8])
            rfl ⟨⟨⟨i1, t1, k1, s1, n1, d1, f1, some ⟨A1, 0, none⟩, l1, c1, m1⟩, _⟩, ⟨⟨i2, t1, k1, (s1 - n2), n2, d2, f1, some ⟨A2, 0, none⟩, l2, c2, m2⟩, _⟩, rfl, H3.2.2.1.bel (Bel.drew (Bel.refl _)), H3.2.2.2.1.bel (Bel.drew (Bel.refl _)), g5⟩
    · go_upto_region 14 with fail
      clear p3 q3 q4 qf hsn
      have q2 := H1.b.1.2 2 _ rfl
      have q4 := H1.b.1.2 4 _ rfl
      have q5 := H1.b.1.2 5 _ rfl
      have qf := H1.b.2
      have ql := H1.b.1.1
      by_cases hk : k1 = 1
      · have hkb : (k1 == 1) = true := by simpa using hk
        have H2 := H1.upd 5 (.string ⟨#[]⟩) ⟨i2, t1, k1, s2, n2, ⟨#[]⟩, f1, some ⟨A2, 0, none⟩, l2, c2, m2⟩ rfl (by omega) rfl rfl rfl (by show 0 ≤ maxLen; unfold maxLen; omega) rfl
        clear hk
        go_upto_region 18 with fail
        generalize World.setCell _ _ _ = W2 at H2 ⊢
        clear q2 q4 q5 qf ql H1
        let NFS : World → Prop := fun W' => AtF W' PA [.int .i64 i1, .int .i64 t1, .int .i64 k1, .int .i64 s1, .int .i64 n1, .string d1, .bool f1, .slice (some ⟨A1, 0, none⟩) l1 c1, .int .i64 m1] ∧ AtF W' (PA + 1) [.int .i64 i2, .int .i64 t1, .int .i64 k1, .int .i64 s2, .int .i64 n2, .string ⟨#[]⟩, .bool f1, .slice (some ⟨A2, 0, none⟩) l2 c2, .int .i64 m2]
        haveI nnS : Nonempty (InS NFS) := ⟨⟨W2, H2.a, H2.b⟩⟩
        have e4 := H2.n4
        have ra0 := fun (p : InS NFS) => p.h.1.1.2 0 _ rfl
        have rb0 := fun (p : InS NFS) => p.h.2.1.2 0 _ rfl
        have ra1 := fun (p : InS NFS) => p.h.1.1.2 1 _ rfl
        have rb1 := fun (p : InS NFS) => p.h.2.1.2 1 _ rfl
        have ra2 := fun (p : InS NFS) => p.h.1.1.2 2 _ rfl
        have rb2 := fun (p : InS NFS) => p.h.2.1.2 2 _ rfl
        have ra3 := fun (p : InS NFS) => p.h.1.1.2 3 _ rfl
        have rb3 := fun (p : InS NFS) => p.h.2.1.2 3 _ rfl
        have ra4 := fun (p : InS NFS) => p.h.1.1.2 4 _ rfl
        have rb4 := fun (p : InS NFS) => p.h.2.1.2 4 _ rfl
        have ra5 := fun (p : InS NFS) => p.h.1.1.2 5 _ rfl
        have rb5 := fun (p : InS NFS) => p.h.2.1.2 5 _ rfl
        have ra6 := fun (p : InS NFS) => p.h.1.1.2 6 _ rfl
        have rb6 := fun (p : InS NFS) => p.h.2.1.2 6 _ rfl
        have ra7 := fun (p : InS NFS) => p.h.1.1.2 7 _ rfl
        have rb7 := fun (p : InS NFS) => p.h.2.1.2 7 _ rfl
        have ra8 := fun (p : InS NFS) => p.h.1.1.2 8 _ rfl
        have rb8 := fun (p : InS NFS) => p.h.2.1.2 8 _ rfl
        have z0 := (H2.c).1.2 0 _ rfl
        have z1 := (H2.c).1.2 1 _ rfl
        have z2 := (H2.c).1.2 2 _ rfl
        have z3 := (H2.c).1.2 3 _ rfl
        have z4 := (H2.c).1.2 4 _ rfl
        have z5 := (H2.c).1.2 5 _ rfl
        have z6 := (H2.c).1.2 6 _ rfl
        have z7 := (H2.c).1.2 7 _ rfl
        have z8 := (H2.c).1.2 8 _ rfl
        have u0 := (H2.d).1.2 0 _ rfl
        have u1 := (H2.d).1.2 1 _ rfl
        have u2 := (H2.d).1.2 2 _ rfl
        have u3 := (H2.d).1.2 3 _ rfl
        have u4 := (H2.d).1.2 4 _ rfl
        have u5 := (H2.d).1.2 5 _ rfl
        have u6 := (H2.d).1.2 6 _ rfl
        have u7 := (H2.d).1.2 7 _ rfl
        have u8 := (H2.d).1.2 8 _ rfl
        have cf := H2.c.2
        have uf := H2.d.2
        have cl := H2.c.1.1
        have ul := H2.d.1.1
        have HA := H2.a
        have HB := H2.b
        refine wp_region_sts NFS [2] 3 (by kernel_rfl) (by kernel_rfl) ?hS0 ?_
        case hS0 => exact ⟨HA.drew, HB.drew⟩
        with_reducible refine st_sel [0, 1] (by kernel_rfl) (by kernel_rfl) ?_
        simp only [picked, List.getElem?_cons_succ, List.getElem?_cons_zero, Option.toList_some, List.nil_append, List.cons_append, List.append_nil]
        try simp only [Act.put, List.setIfInBounds_toArray, List.set_cons_succ, List.set_cons_zero]
        repeat (go_big_quiet_step (fail))
        with_reducible refine wpQuiet_nil ?_
        refine st_branch [2] (by kernel_rfl) (branch_cons (by simp only [List.getElem?_toArray, List.getElem?_cons_succ, List.getElem?_cons_zero]; rfl) ?_ branch_nil)
        refine eff_done_s rfl (by simp [go_sem, z0, z1, z2, z3, z4, z5, z6, z7, z8, cf]; rfl) ?hS1 ?_
        case hS1 => exact (by constructor <;> repeat (first | (with_reducible exact HA) | (with_reducible exact HB) | (with_reducible refine AtF.drew ?_) | (with_reducible refine AtF.other ?_ (by omega) _ _)))
        try simp only [List.nil_append, List.cons_append, Act.put, List.setIfInBounds_toArray, List.set_cons_succ, List.set_cons_zero]
        refine st_end (by kernel_rfl) ?_
        simp only [List.drop_succ_cons, List.drop_zero, List.drop_nil]
        skip
        clear ra0 ra1 ra2 ra3 ra4 ra5 ra6 ra7 ra8 rb0 rb1 rb2 rb3 rb4 rb5 rb6 rb7 rb8 nnS NFS
        go_wp2
        have H3 := H2.fin [.int .i64 i1, .int .i64 t1, .int .i64 k1, .int .i64 s1, .int .i64 n1, .string d1, .bool f1, .slice (some ⟨A1, 0, none⟩) l1 c1, .int .i64 m1] [.int .i64 i2, .int .i64 t1, .int .i64 k1, .int .i64 s2, .int .i64 n2, .string ⟨#[]⟩, .bool f1, .slice (some ⟨A2, 0, none⟩) l2 c2, .int .i64 m2] rfl rfl
        have g1 := H3.1.drew
        have g2 := H3.2.1.drew
        have g5 := H3.2.2.2.2.drew
        clear z0 z1 z2 z3 z4 z5 z6 z7 z8 u0 u1 u2 u3 u4 u5 u6 u7 u8
        have z0 := (g1).1.2 0 _ rfl
        have z1 := (g1).1.2 1 _ rfl
        have z2 := (g1).1.2 2 _ rfl
        have z3 := (g1).1.2 3 _ rfl
        have z4 := (g1).1.2 4 _ rfl
        have z5 := (g1).1.2 5 _ rfl
        have z6 := (g1).1.2 6 _ rfl
        have z7 := (g1).1.2 7 _ rfl
        have z8 := (g1).1.2 8 _ rfl
        have u0 := (g2).1.2 0 _ rfl
        have u1 := (g2).1.2 1 _ rfl
        have u2 := (g2).1.2 2 _ rfl
        have u3 := (g2).1.2 3 _ rfl
        have u4 := (g2).1.2 4 _ rfl
        have u5 := (g2).1.2 5 _ rfl
        have u6 := (g2).1.2 6 _ rfl
        have u7 := (g2).1.2 7 _ rfl
        have u8 := (g2).1.2 8 _ rfl
        exact bodyPost_ret (v := .tuple #[.agg #[.int .i64 i1, .int .i64 t1, .int .i64 k1, .int .i64 s1, .int .i64 n1, .string d1, .bool f1, .slice (some ⟨A1, 0, none⟩) l1 c1, .int .i64 m1], .agg #[.int .i64 i2, .int .i64 t1, .int .i64 k1, .int .i64 s2, .int .i64 n2, .string ⟨#[]⟩, .bool f1, .slice (some ⟨A2, 0, none⟩) l2 c2, .int .i64 m2]])
          (by simp only [setRow] at z0 z1 z2 z3 z4 z5 z6 z7 z8 u0 u1 u2 u3 u4 u5 u6 u7 u8; simp [results, Try.results21, go_sem, z0, z1, z2, z3, z4, z5, z6, z7, z8, u0, u1, u2, u3, u4, u5, u6, u7, u8])
          rfl ⟨⟨⟨i1, t1, k1, s1, n1, d1, f1, some ⟨A1, 0, none⟩, l1, c1, m1⟩, _⟩, ⟨⟨i2, t1, k1, s2, n2, ⟨#[]⟩, f1, some ⟨A2, 0, none⟩, l2, c2, m2⟩, _⟩, rfl, H3.2.2.1.bel (Bel.drew (Bel.refl _)), H3.2.2.2.1.bel (Bel.drew (Bel.refl _)), g5⟩
      · have hkb : (k1 == 1) = false := by simpa using hk
        clear hk
        rcases Bool.eq_false_or_eq_true d2.toList.isEmpty with hdb | hdb
        · go_wp2_with fail
          refine (HDT.out _).mono ?_; rintro e wd ⟨rfl, hbd⟩
          have H1' := H1.grow hbd
          have q5' := H1'.b.1.2 5 _ rfl
          have qf' := H1'.b.2
          have ql' := H1'.b.1.1
          have H2 := H1'.upd 5 (.string db) ⟨i2, t1, k1, s2, n2, db, f1, some ⟨A2, 0, none⟩, l2, c2, m2⟩ rfl (by omega) rfl rfl rfl hdz rfl
          clear q2 q4 q5 qf ql H1 hbd H1'
          go_upto_region 18 with fail
          generalize World.setCell _ _ _ = W2 at H2 ⊢
          clear q5' qf' ql'
          let NFS : World → Prop := fun W' => AtF W' PA [.int .i64 i1, .int .i64 t1, .int .i64 k1, .int .i64 s1, .int .i64 n1, .string d1, .bool f1, .slice (some ⟨A1, 0, none⟩) l1 c1, .int .i64 m1] ∧ AtF W' (PA + 1) [.int .i64 i2, .int .i64 t1, .int .i64 k1, .int .i64 s2, .int .i64 n2, .string db, .bool f1, .slice (some ⟨A2, 0, none⟩) l2 c2, .int .i64 m2]
          haveI nnS : Nonempty (InS NFS) := ⟨⟨W2, H2.a, H2.b⟩⟩
          have e4 := H2.n4
          have ra0 := fun (p : InS NFS) => p.h.1.1.2 0 _ rfl
          have rb0 := fun (p : InS NFS) => p.h.2.1.2 0 _ rfl
          have ra1 := fun (p : InS NFS) => p.h.1.1.2 1 _ rfl
          have rb1 := fun (p : InS NFS) => p.h.2.1.2 1 _ rfl
          have ra2 := fun (p : InS NFS) => p.h.1.1.2 2 _ rfl
          have rb2 := fun (p : InS NFS) => p.h.2.1.2 2 _ rfl
          have ra3 := fun (p : InS NFS) => p.h.1.1.2 3 _ rfl
          have rb3 := fun (p : InS NFS) => p.h.2.1.2 3 _ rfl
          have ra4 := fun (p : InS NFS) => p.h.1.1.2 4 _ rfl
          have rb4 := fun (p : InS NFS) => p.h.2.1.2 4 _ rfl
          have ra5 := fun (p : InS NFS) => p.h.1.1.2 5 _ rfl
          have rb5 := fun (p : InS NFS) => p.h.2.1.2 5 _ rfl
          have ra6 := fun (p : InS NFS) => p.h.1.1.2 6 _ rfl
          have rb6 := fun (p : InS NFS) => p.h.2.1.2 6 _ rfl
          have ra7 := fun (p : InS NFS) => p.h.1.1.2 7 _ rfl
          have rb7 := fun (p : InS NFS) => p.h.2.1.2 7 _ rfl
          have ra8 := fun (p : InS NFS) => p.h.1.1.2 8 _ rfl
          have rb8 := fun (p : InS NFS) => p.h.2.1.2 8 _ rfl
          have z0 := (H2.c).1.2 0 _ rfl
          have z1 := (H2.c).1.2 1 _ rfl
          have z2 := (H2.c).1.2 2 _ rfl
          have z3 := (H2.c).1.2 3 _ rfl
          have z4 := (H2.c).1.2 4 _ rfl
          have z5 := (H2.c).1.2 5 _ rfl
          have z6 := (H2.c).1.2 6 _ rfl
          have z7 := (H2.c).1.2 7 _ rfl
          have z8 := (H2.c).1.2 8 _ rfl
          have u0 := (H2.d).1.2 0 _ rfl
          have u1 := (H2.d).1.2 1 _ rfl
          have u2 := (H2.d).1.2 2 _ rfl
          have u3 := (H2.d).1.2 3 _ rfl
          have u4 := (H2.d).1.2 4 _ rfl
          have u5 := (H2.d).1.2 5 _ rfl
          have u6 := (H2.d).1.2 6 _ rfl
          have u7 := (H2.d).1.2 7 _ rfl
          have u8 := (H2.d).1.2 8 _ rfl
          have cf := H2.c.2
          have uf := H2.d.2
          have cl := H2.c.1.1
          have ul := H2.d.1.1
          have HA := H2.a
          have HB := H2.b
          refine wp_region_sts NFS [2] 3 (by kernel_rfl) (by kernel_rfl) ?hS0 ?_
          case hS0 => exact ⟨HA.drew, HB.drew⟩
          with_reducible refine st_sel [0, 1] (by kernel_rfl) (by kernel_rfl) ?_
          simp only [picked, List.getElem?_cons_succ, List.getElem?_cons_zero, Option.toList_some, List.nil_append, List.cons_append, List.append_nil]
          try simp only [Act.put, List.setIfInBounds_toArray, List.set_cons_succ, List.set_cons_zero]
          repeat (go_big_quiet_step (fail))
          with_reducible refine wpQuiet_nil ?_
          refine st_branch [2] (by kernel_rfl) (branch_cons (by simp only [List.getElem?_toArray, List.getElem?_cons_succ, List.getElem?_cons_zero]; rfl) ?_ branch_nil)
          refine eff_done_s rfl (by simp [go_sem, z0, z1, z2, z3, z4, z5, z6, z7, z8, cf]; rfl) ?hS1 ?_
          case hS1 => exact (by constructor <;> repeat (first | (with_reducible exact HA) | (with_reducible exact HB) | (with_reducible refine AtF.drew ?_) | (with_reducible refine AtF.other ?_ (by omega) _ _)))
          try simp only [List.nil_append, List.cons_append, Act.put, List.setIfInBounds_toArray, List.set_cons_succ, List.set_cons_zero]
          refine st_end (by kernel_rfl) ?_
          simp only [List.drop_succ_cons, List.drop_zero, List.drop_nil]
          skip
          clear ra0 ra1 ra2 ra3 ra4 ra5 ra6 ra7 ra8 rb0 rb1 rb2 rb3 rb4 rb5 rb6 rb7 rb8 nnS NFS
          go_wp2
          have H3 := H2.fin [.int .i64 i1, .int .i64 t1, .int .i64 k1, .int .i64 s1, .int .i64 n1, .string d1, .bool f1, .slice (some ⟨A1, 0, none⟩) l1 c1, .int .i64 m1] [.int .i64 i2, .int .i64 t1, .int .i64 k1, .int .i64 s2, .int .i64 n2, .string db, .bool f1, .slice (some ⟨A2, 0, none⟩) l2 c2, .int .i64 m2] rfl rfl
          have g1 := H3.1.drew
          have g2 := H3.2.1.drew
          have g5 := H3.2.2.2.2.drew
          clear z0 z1 z2 z3 z4 z5 z6 z7 z8 u0 u1 u2 u3 u4 u5 u6 u7 u8
          have z0 := (g1).1.2 0 _ rfl
          have z1 := (g1).1.2 1 _ rfl
          have z2 := (g1).1.2 2 _ rfl
          have z3 := (g1).1.2 3 _ rfl
          have z4 := (g1).1.2 4 _ rfl
          have z5 := (g1).1.2 5 _ rfl
          have z6 := (g1).1.2 6 _ rfl
          have z7 := (g1).1.2 7 _ rfl
          have z8 := (g1).1.2 8 _ rfl
          have u0 := (g2).1.2 0 _ rfl
          have u1 := (g2).1.2 1 _ rfl
          have u2 := (g2).1.2 2 _ rfl
          have u3 := (g2).1.2 3 _ rfl
          have u4 := (g2).1.2 4 _ rfl
          have u5 := (g2).1.2 5 _ rfl
          have u6 := (g2).1.2 6 _ rfl
          have u7 := (g2).1.2 7 _ rfl
          have u8 := (g2).1.2 8 _ rfl
          exact bodyPost_ret (v := .tuple #[.agg #[.int .i64 i1, .int .i64 t1, .int .i64 k1, .int .i64 s1, .int .i64 n1, .string d1, .bool f1, .slice (some ⟨A1, 0, none⟩) l1 c1, .int .i64 m1], .agg #[.int .i64 i2, .int .i64 t1, .int .i64 k1, .int .i64 s2, .int .i64 n2, .string db, .bool f1, .slice (some ⟨A2, 0, none⟩) l2 c2, .int .i64 m2]])
            (by simp only [setRow] at z0 z1 z2 z3 z4 z5 z6 z7 z8 u0 u1 u2 u3 u4 u5 u6 u7 u8; simp [results, Try.results21, go_sem, z0, z1, z2, z3, z4, z5, z6, z7, z8, u0, u1, u2, u3, u4, u5, u6, u7, u8])
            rfl ⟨⟨⟨i1, t1, k1, s1, n1, d1, f1, some ⟨A1, 0, none⟩, l1, c1, m1⟩, _⟩, ⟨⟨i2, t1, k1, s2, n2, db, f1, some ⟨A2, 0, none⟩, l2, c2, m2⟩, _⟩, rfl, H3.2.2.1.bel (Bel.drew (Bel.refl _)), H3.2.2.2.1.bel (Bel.drew (Bel.refl _)), g5⟩
        · go_upto_region 18 with fail
          clear q2 q4 q5 qf ql
          have H2 := H1
          clear H1
          obtain ⟨W2, rfl⟩ : ∃ W2, W2 = W1 := ⟨_, rfl⟩
          let NFS : World → Prop := fun W' => AtF W' PA [.int .i64 i1, .int .i64 t1, .int .i64 k1, .int .i64 s1, .int .i64 n1, .string d1, .bool f1, .slice (some ⟨A1, 0, none⟩) l1 c1, .int .i64 m1] ∧ AtF W' (PA + 1) [.int .i64 i2, .int .i64 t1, .int .i64 k1, .int .i64 s2, .int .i64 n2, .string d2, .bool f1, .slice (some ⟨A2, 0, none⟩) l2 c2, .int .i64 m2]
          haveI nnS : Nonempty (InS NFS) := ⟨⟨W2, H2.a, H2.b⟩⟩
          have e4 := H2.n4
          have ra0 := fun (p : InS NFS) => p.h.1.1.2 0 _ rfl
          have rb0 := fun (p : InS NFS) => p.h.2.1.2 0 _ rfl
          have ra1 := fun (p : InS NFS) => p.h.1.1.2 1 _ rfl
          have rb1 := fun (p : InS NFS) => p.h.2.1.2 1 _ rfl
          have ra2 := fun (p : InS NFS) => p.h.1.1.2 2 _ rfl
          have rb2 := fun (p : InS NFS) => p.h.2.1.2 2 _ rfl
          have ra3 := fun (p : InS NFS) => p.h.1.1.2 3 _ rfl
          have rb3 := fun (p : InS NFS) => p.h.2.1.2 3 _ rfl
          have ra4 := fun (p : InS NFS) => p.h.1.1.2 4 _ rfl
          have rb4 := fun (p : InS NFS) => p.h.2.1.2 4 _ rfl
          have ra5 := fun (p : InS NFS) => p.h.1.1.2 5 _ rfl
          have rb5 := fun (p : InS NFS) => p.h.2.1.2 5 _ rfl
          have ra6 := fun (p : InS NFS) => p.h.1.1.2 6 _ rfl
          have rb6 := fun (p : InS NFS) => p.h.2.1.2 6 _ rfl
          have ra7 := fun (p : InS NFS) => p.h.1.1.2 7 _ rfl
          have rb7 := fun (p : InS NFS) => p.h.2.1.2 7 _ rfl
          have ra8 := fun (p : InS NFS) => p.h.1.1.2 8 _ rfl
          have rb8 := fun (p : InS NFS) => p.h.2.1.2 8 _ rfl
          have z0 := (H2.c).1.2 0 _ rfl
          have z1 := (H2.c).1.2 1 _ rfl
          have z2 := (H2.c).1.2 2 _ rfl
          have z3 := (H2.c).1.2 3 _ rfl
          have z4 := (H2.c).1.2 4 _ rfl
          have z5 := (H2.c).1.2 5 _ rfl
          have z6 := (H2.c).1.2 6 _ rfl
          have z7 := (H2.c).1.2 7 _ rfl
          have z8 := (H2.c).1.2 8 _ rfl
          have u0 := (H2.d).1.2 0 _ rfl
          have u1 := (H2.d).1.2 1 _ rfl
          have u2 := (H2.d).1.2 2 _ rfl
          have u3 := (H2.d).1.2 3 _ rfl
          have u4 := (H2.d).1.2 4 _ rfl
          have u5 := (H2.d).1.2 5 _ rfl
          have u6 := (H2.d).1.2 6 _ rfl
          have u7 := (H2.d).1.2 7 _ rfl
          have u8 := (H2.d).1.2 8 _ rfl
          have cf := H2.c.2
          have uf := H2.d.2
          have cl := H2.c.1.1
          have ul := H2.d.1.1
          have HA := H2.a
          have HB := H2.b
          refine wp_region_sts NFS [2] 3 (by kernel_rfl) (by kernel_rfl) ?hS0 ?_
          case hS0 => exact ⟨HA.drew, HB.drew⟩
          with_reducible refine st_sel [0, 1] (by kernel_rfl) (by kernel_rfl) ?_
          simp only [picked, List.getElem?_cons_succ, List.getElem?_cons_zero, Option.toList_some, List.nil_append, List.cons_append, List.append_nil]
          try simp only [Act.put, List.setIfInBounds_toArray, List.set_cons_succ, List.set_cons_zero]
          repeat (go_big_quiet_step (fail))
          with_reducible refine wpQuiet_nil ?_
          refine st_branch [2] (by kernel_rfl) (branch_cons (by simp only [List.getElem?_toArray, List.getElem?_cons_succ, List.getElem?_cons_zero]; rfl) ?_ branch_nil)
          refine eff_done_s rfl (by simp [go_sem, z0, z1, z2, z3, z4, z5, z6, z7, z8, cf]; rfl) ?hS1 ?_
          case hS1 => exact (by constructor <;> repeat (first | (with_reducible exact HA) | (with_reducible exact HB) | (with_reducible refine AtF.drew ?_) | (with_reducible refine AtF.other ?_ (by omega) _ _)))
          try simp only [List.nil_append, List.cons_append, Act.put, List.setIfInBounds_toArray, List.set_cons_succ, List.set_cons_zero]
          refine st_end (by kernel_rfl) ?_
          simp only [List.drop_succ_cons, List.drop_zero, List.drop_nil]
          skip
          clear ra0 ra1 ra2 ra3 ra4 ra5 ra6 ra7 ra8 rb0 rb1 rb2 rb3 rb4 rb5 rb6 rb7 rb8 nnS NFS
          go_wp2
          have H3 := H2.fin [.int .i64 i1, .int .i64 t1, .int .i64 k1, .int .i64 s1, .int .i64 n1, .string d1, .bool f1, .slice (some ⟨A1, 0, none⟩) l1 c1, .int .i64 m1] [.int .i64 i2, .int .i64 t1, .int .i64 k1, .int .i64 s2, .int .i64 n2, .string d2, .bool f1, .slice (some ⟨A2, 0, none⟩) l2 c2, .int .i64 m2] rfl rfl
          have g1 := H3.1.drew
          have g2 := H3.2.1.drew
          have g5 := H3.2.2.2.2.drew
          clear z0 z1 z2 z3 z4 z5 z6 z7 z8 u0 u1 u2 u3 u4 u5 u6 u7 u8
          have z0 := (g1).1.2 0 _ rfl
          have z1 := (g1).1.2 1 _ rfl
          have z2 := (g1).1.2 2 _ rfl
          have z3 := (g1).1.2 3 _ rfl
          have z4 := (g1).1.2 4 _ rfl
          have z5 := (g1).1.2 5 _ rfl
          have z6 := (g1).1.2 6 _ rfl
          have z7 := (g1).1.2 7 _ rfl
          have z8 := (g1).1.2 8 _ rfl
          have u0 := (g2).1.2 0 _ rfl
          have u1 := (g2).1.2 1 _ rfl
          have u2 := (g2).1.2 2 _ rfl
          have u3 := (g2).1.2 3 _ rfl
          have u4 := (g2).1.2 4 _ rfl
          have u5 := (g2).1.2 5 _ rfl
          have u6 := (g2).1.2 6 _ rfl
          have u7 := (g2).1.2 7 _ rfl
          have u8 := (g2).1.2 8 _ rfl
          exact bodyPost_ret (v := .tuple #[.agg #[.int .i64 i1, .int .i64 t1, .int .i64 k1, .int .i64 s1, .int .i64 n1, .string d1, .bool f1, .slice (some ⟨A1, 0, none⟩) l1 c1, .int .i64 m1], .agg #[.int .i64 i2, .int .i64 t1, .int .i64 k1, .int .i64 s2, .int .i64 n2, .string d2, .bool f1, .slice (some ⟨A2, 0, none⟩) l2 c2, .int .i64 m2]])
            (by simp only [setRow] at z0 z1 z2 z3 z4 z5 z6 z7 z8 u0 u1 u2 u3 u4 u5 u6 u7 u8; simp [results, Try.results21, go_sem, z0, z1, z2, z3, z4, z5, z6, z7, z8, u0, u1, u2, u3, u4, u5, u6, u7, u8])
            rfl ⟨⟨⟨i1, t1, k1, s1, n1, d1, f1, some ⟨A1, 0, none⟩, l1, c1, m1⟩, _⟩, ⟨⟨i2, t1, k1, s2, n2, d2, f1, some ⟨A2, 0, none⟩, l2, c2, m2⟩, _⟩, rfl, H3.2.2.1.bel (Bel.drew (Bel.refl _)), H3.2.2.2.1.bel (Bel.drew (Bel.refl _)), g5⟩
  · skip
    have p0 := (H0.a).1.2 0 _ rfl
    have p1 := (H0.a).1.2 1 _ rfl
    have p2 := (H0.a).1.2 2 _ rfl
    have p3 := (H0.a).1.2 3 _ rfl
    have p4 := (H0.a).1.2 4 _ rfl
    have p5 := (H0.a).1.2 5 _ rfl
    have p6 := (H0.a).1.2 6 _ rfl
    have p7 := (H0.a).1.2 7 _ rfl
    have p8 := (H0.a).1.2 8 _ rfl
    have q0 := (H0.b).1.2 0 _ rfl
    have q1 := (H0.b).1.2 1 _ rfl
    have q2 := (H0.b).1.2 2 _ rfl
    have q3 := (H0.b).1.2 3 _ rfl
    have q4 := (H0.b).1.2 4 _ rfl
    have q5 := (H0.b).1.2 5 _ rfl
    have q6 := (H0.b).1.2 6 _ rfl
    have q7 := (H0.b).1.2 7 _ rfl
    have q8 := (H0.b).1.2 8 _ rfl
    have qf := H0.b.2
    let NRS : World → Prop := fun W' => AtF W' PA [.int .i64 i1, .int .i64 t1, .int .i64 k1, .int .i64 s1, .int .i64 n1, .string d1, .bool f1, .slice (some ⟨A1, 0, none⟩) l1 c1, .int .i64 m1]
    haveI nnS : Nonempty (InS NRS) := ⟨⟨W, H0.a⟩⟩
    go_wp2_with fail
    have rg1 := fun (p : InS NRS) => p.h.1.2 1 _ rfl
    have rg2 := fun (p : InS NRS) => p.h.1.2 2 _ rfl
    have rg6 := fun (p : InS NRS) => p.h.1.2 6 _ rfl
    refine wp_region_sts NRS [7, 9] 11 (by kernel_rfl) (by kernel_rfl) ?hS0 ?_
    case hS0 => exact H0.a.drew
    with_reducible refine st_sel [0, 1, 2, 3, 4, 5, 6] (by kernel_rfl) (by kernel_rfl) ?_
    simp only [picked, List.getElem?_cons_succ, List.getElem?_cons_zero, Option.toList_some, List.nil_append, List.cons_append, List.append_nil]
    try simp only [Act.put, List.setIfInBounds_toArray, List.set_cons_succ, List.set_cons_zero]
    repeat (go_big_quiet_step (fail))
    with_reducible refine wpQuiet_nil ?_
    refine st_branch [7] (by kernel_rfl) (branch_cons (by simp only [List.getElem?_toArray, List.getElem?_cons_succ, List.getElem?_cons_zero]; rfl) ?_ branch_nil)
    refine eff_done_s rfl (by simp [go_sem, q1, q2, q3, q6, qf]; rfl) ?hS1 ?_
    case hS1 => exact (by repeat (first | (with_reducible exact H0.a) | (with_reducible exact H0.a.drew) | (refine AtF.other ?_ (by omega) _ _)))
    try simp only [List.nil_append, List.cons_append, Act.put, List.setIfInBounds_toArray, List.set_cons_succ, List.set_cons_zero]
    with_reducible refine st_sel [8] (by kernel_rfl) (by kernel_rfl) ?_
    simp only [picked, List.getElem?_cons_succ, List.getElem?_cons_zero, Option.toList_some, List.nil_append, List.cons_append, List.append_nil]
    try simp only [Act.put, List.setIfInBounds_toArray, List.set_cons_succ, List.set_cons_zero]
    repeat (go_big_quiet_step (fail))
    with_reducible refine wpQuiet_nil ?_
    refine st_branch [9] (by kernel_rfl) (branch_cons (by simp only [List.getElem?_toArray, List.getElem?_cons_succ, List.getElem?_cons_zero]; rfl) ?_ branch_nil)
    refine eff_done_s rfl (by simp [go_sem, q1, q2, q3, q6, qf]; rfl) ?hS1 ?_
    case hS1 => exact (by repeat (first | (with_reducible exact H0.a) | (with_reducible exact H0.a.drew) | (refine AtF.other ?_ (by omega) _ _)))
    try simp only [List.nil_append, List.cons_append, Act.put, List.setIfInBounds_toArray, List.set_cons_succ, List.set_cons_zero]
    with_reducible refine st_sel [10] (by kernel_rfl) (by kernel_rfl) ?_
    simp only [picked, List.getElem?_cons_succ, List.getElem?_cons_zero, Option.toList_some, List.nil_append, List.cons_append, List.append_nil]
    try simp only [Act.put, List.setIfInBounds_toArray, List.set_cons_succ, List.set_cons_zero]
    repeat (go_big_quiet_step (fail))
    with_reducible refine wpQuiet_nil ?_
    refine st_end (by kernel_rfl) ?_
    simp only [List.drop_succ_cons, List.drop_zero, List.drop_nil]
    skip
    clear rg1 rg2 rg6
    have H1 := (((H0.upd 2 (.int .i64 k1) ⟨i2, t2, k1, s2, n2, d2, f2, some ⟨A2, 0, none⟩, l2, c2, m2⟩ rfl (by omega) rfl rfl rfl hdl2 rfl).upd 1 (.int .i64 t1) ⟨i2, t1, k1, s2, n2, d2, f2, some ⟨A2, 0, none⟩, l2, c2, m2⟩ rfl (by omega) rfl rfl rfl hdl2 rfl).upd 6 (.bool f1) ⟨i2, t1, k1, s2, n2, d2, f1, some ⟨A2, 0, none⟩, l2, c2, m2⟩ rfl (by omega) rfl rfl rfl hdl2 rfl).grow (Bel.drew (Bel.refl _))
    go_upto_region 10 with fail
    generalize World.drew _ = W1 at H1 ⊢
    clear p0 p1 p2 p3 p4 p5 p6 p7 p8 q0 q1 q2 q3 q4 q5 q6 q7 q8 qf nnS NRS H0
    have p3 := H1.a.1.2 3 _ rfl
    have q3 := H1.b.1.2 3 _ rfl
    have q4 := H1.b.1.2 4 _ rfl
    have qf := H1.b.2
    by_cases hsn : n2 ≤ s1
    · have H1' := H1.upd 3 (.int .i64 (s1 - n2)) ⟨i2, t1, k1, s1 - n2, n2, d2, f1, some ⟨A2, 0, none⟩, l2, c2, m2⟩ rfl (by omega) rfl rfl rfl hdl2 rfl
      go_upto_region 14 with fail
      generalize World.setCell _ _ _ = W3 at H1' ⊢
      clear p3 q3 q4 qf H1 hsn
      have H1 := H1'
      clear H1'
      obtain ⟨W1, rfl⟩ : ∃ W1, W1 = W3 := ⟨_, rfl⟩
      have q2 := H1.b.1.2 2 _ rfl
      have q4 := H1.b.1.2 4 _ rfl
      have q5 := H1.b.1.2 5 _ rfl
      have qf := H1.b.2
      have ql := H1.b.1.1
      by_cases hk : k1 = 1
      · have hkb : (k1 == 1) = true := by simpa using hk
        have H2 := H1.upd 5 (.string ⟨#[]⟩) ⟨i2, t1, k1, (s1 - n2), n2, ⟨#[]⟩, f1, some ⟨A2, 0, none⟩, l2, c2, m2⟩ rfl (by omega) rfl rfl rfl (by show 0 ≤ maxLen; unfold maxLen; omega) rfl
        clear hk
        go_upto_region 18 with fail
        generalize World.setCell _ _ _ = W2 at H2 ⊢
        clear q2 q4 q5 qf ql H1
        let NFS : World → Prop := fun W' => AtF W' PA [.int .i64 i1, .int .i64 t1, .int .i64 k1, .int .i64 s1, .int .i64 n1, .string d1, .bool f1, .slice (some ⟨A1, 0, none⟩) l1 c1, .int .i64 m1] ∧ AtF W' (PA + 1) [.int .i64 i2, .int .i64 t1, .int .i64 k1, .int .i64 (s1 - n2), .int .i64 n2, .string ⟨#[]⟩, .bool f1, .slice (some ⟨A2, 0, none⟩) l2 c2, .int .i64 m2]
        haveI nnS : Nonempty (InS NFS) := ⟨⟨W2, H2.a, H2.b⟩⟩
        have e4 := H2.n4
        have ra0 := fun (p : InS NFS) => p.h.1.1.2 0 _ rfl
        have rb0 := fun (p : InS NFS) => p.h.2.1.2 0 _ rfl
        have ra1 := fun (p : InS NFS) => p.h.1.1.2 1 _ rfl
        have rb1 := fun (p : InS NFS) => p.h.2.1.2 1 _ rfl
        have ra2 := fun (p : InS NFS) => p.h.1.1.2 2 _ rfl
        have rb2 := fun (p : InS NFS) => p.h.2.1.2 2 _ rfl
        have ra3 := fun (p : InS NFS) => p.h.1.1.2 3 _ rfl
        have rb3 := fun (p : InS NFS) => p.h.2.1.2 3 _ rfl
        have ra4 := fun (p : InS NFS) => p.h.1.1.2 4 _ rfl
        have rb4 := fun (p : InS NFS) => p.h.2.1.2 4 _ rfl
        have ra5 := fun (p : InS NFS) => p.h.1.1.2 5 _ rfl
        have rb5 := fun (p : InS NFS) => p.h.2.1.2 5 _ rfl
        have ra6 := fun (p : InS NFS) => p.h.1.1.2 6 _ rfl
        have rb6 := fun (p : InS NFS) => p.h.2.1.2 6 _ rfl
        have ra7 := fun (p : InS NFS) => p.h.1.1.2 7 _ rfl
        have rb7 := fun (p : InS NFS) => p.h.2.1.2 7 _ rfl
        have ra8 := fun (p : InS NFS) => p.h.1.1.2 8 _ rfl
        have rb8 := fun (p : InS NFS) => p.h.2.1.2 8 _ rfl
        have z0 := (H2.c).1.2 0 _ rfl
        have z1 := (H2.c).1.2 1 _ rfl
        have z2 := (H2.c).1.2 2 _ rfl
        have z3 := (H2.c).1.2 3 _ rfl
        have z4 := (H2.c).1.2 4 _ rfl
        have z5 := (H2.c).1.2 5 _ rfl
        have z6 := (H2.c).1.2 6 _ rfl
        have z7 := (H2.c).1.2 7 _ rfl
        have z8 := (H2.c).1.2 8 _ rfl
        have u0 := (H2.d).1.2 0 _ rfl
        have u1 := (H2.d).1.2 1 _ rfl
        have u2 := (H2.d).1.2 2 _ rfl
        have u3 := (H2.d).1.2 3 _ rfl
        have u4 := (H2.d).1.2 4 _ rfl
        have u5 := (H2.d).1.2 5 _ rfl
        have u6 := (H2.d).1.2 6 _ rfl
        have u7 := (H2.d).1.2 7 _ rfl
        have u8 := (H2.d).1.2 8 _ rfl
        have cf := H2.c.2
        have uf := H2.d.2
        have cl := H2.c.1.1
        have ul := H2.d.1.1
        have HA := H2.a
        have HB := H2.b
        refine wp_region_sts NFS [2] 3 (by kernel_rfl) (by kernel_rfl) ?hS0 ?_
        case hS0 => exact ⟨HA.drew, HB.drew⟩
        with_reducible refine st_sel [0, 1] (by kernel_rfl) (by kernel_rfl) ?_
        simp only [picked, List.getElem?_cons_succ, List.getElem?_cons_zero, Option.toList_some, List.nil_append, List.cons_append, List.append_nil]
        try simp only [Act.put, List.setIfInBounds_toArray, List.set_cons_succ, List.set_cons_zero]
        repeat (go_big_quiet_step (fail))
        with_reducible refine wpQuiet_nil ?_
        refine st_branch [2] (by kernel_rfl) (branch_cons (by simp only [List.getElem?_toArray, List.getElem?_cons_succ, List.getElem?_cons_zero]; rfl) ?_ branch_nil)
        refine eff_done_s rfl (by simp [go_sem, z0, z1, z2, z3, z4, z5, z6, z7, z8, cf]; rfl) ?hS1 ?_
        case hS1 => exact (by constructor <;> repeat (first | (with_reducible exact HA) | (with_reducible exact HB) | (with_reducible refine AtF.drew ?_) | (with_reducible refine AtF.other ?_ (by omega) _ _)))
        try simp only [List.nil_append, List.cons_append, Act.put, List.setIfInBounds_toArray, List.set_cons_succ, List.set_cons_zero]
        refine st_end (by kernel_rfl) ?_
        simp only [List.drop_succ_cons, List.drop_zero, List.drop_nil]
        skip
        clear ra0 ra1 ra2 ra3 ra4 ra5 ra6 ra7 ra8 rb0 rb1 rb2 rb3 rb4 rb5 rb6 rb7 rb8 nnS NFS
        go_wp2
        have H3 := H2.fin [.int .i64 i1, .int .i64 t1, .int .i64 k1, .int .i64 s1, .int .i64 n1, .string d1, .bool f1, .slice (some ⟨A1, 0, none⟩) l1 c1, .int .i64 m1] [.int .i64 i2, .int .i64 t1, .int .i64 k1, .int .i64 (s1 - n2), .int .i64 n2, .string ⟨#[]⟩, .bool f1, .slice (some ⟨A2, 0, none⟩) l2 c2, .int .i64 m2] rfl rfl
        have g1 := H3.1.drew
        have g2 := H3.2.1.drew
        have g5 := H3.2.2.2.2.drew
        clear z0 z1 z2 z3 z4 z5 z6 z7 z8 u0 u1 u2 u3 u4 u5 u6 u7 u8
        have z0 := (g1).1.2 0 _ rfl
        have z1 := (g1).1.2 1 _ rfl
        have z2 := (g1).1.2 2 _ rfl
        have z3 := (g1).1.2 3 _ rfl
        have z4 := (g1).1.2 4 _ rfl
        have z5 := (g1).1.2 5 _ rfl
        have z6 := (g1).1.2 6 _ rfl
        have z7 := (g1).1.2 7 _ rfl
        have z8 := (g1).1.2 8 _ rfl
        have u0 := (g2).1.2 0 _ rfl
        have u1 := (g2).1.2 1 _ rfl
        have u2 := (g2).1.2 2 _ rfl
        have u3 := (g2).1.2 3 _ rfl
        have u4 := (g2).1.2 4 _ rfl
        have u5 := (g2).1.2 5 _ rfl
        have u6 := (g2).1.2 6 _ rfl
        have u7 := (g2).1.2 7 _ rfl
        have u8 := (g2).1.2 8 _ rfl
        exact bodyPost_ret (v := .tuple #[.agg #[.int .i64 i1, .int .i64 t1, .int .i64 k1, .int .i64 s1, .int .i64 n1, .string d1, .bool f1, .slice (some ⟨A1, 0, none⟩) l1 c1, .int .i64 m1], .agg #[.int .i64 i2, .int .i64 t1, .int .i64 k1, .int .i64 (s1 - n2), .int .i64 n2, .string ⟨#[]⟩, .bool f1, .slice (some ⟨A2, 0, none⟩) l2 c2, .int .i64 m2]])
          (by simp only [setRow] at z0 z1 z2 z3 z4 z5 z6 z7 z8 u0 u1 u2 u3 u4 u5 u6 u7 u8; simp [results, Try.results21, go_sem, z0, z1, z2, z3, z4, z5, z6, z7, z8, u0, u1, u2, u3, u4, u5, u6, u7, u8])
          rfl ⟨⟨⟨i1, t1, k1, s1, n1, d1, f1, some ⟨A1, 0, none⟩, l1, c1, m1⟩, _⟩, ⟨⟨i2, t1, k1, (s1 - n2), n2, ⟨#[]⟩, f1, some ⟨A2, 0, none⟩, l2, c2, m2⟩, _⟩, rfl, H3.2.2.1.bel (Bel.drew (Bel.refl _)), H3.2.2.2.1.bel (Bel.drew (Bel.refl _)), g5⟩
      · have hkb : (k1 == 1) = false := by simpa using hk
        clear hk
        rcases Bool.eq_false_or_eq_true d2.toList.isEmpty with hdb | hdb
        · go_wp2_with fail
          refine (HDT.out _).mono ?_; rintro e wd ⟨rfl, hbd⟩
          have H1' := H1.grow hbd
          have q5' := H1'.b.1.2 5 _ rfl
          have qf' := H1'.b.2
          have ql' := H1'.b.1.1
          have H2 := H1'.upd 5 (.string db) ⟨i2, t1, k1, (s1 - n2), n2, db, f1, some ⟨A2, 0, none⟩, l2, c2, m2⟩ rfl (by omega) rfl rfl rfl hdz rfl
          clear q2 q4 q5 qf ql H1 hbd H1'
          go_upto_region 18 with fail
          generalize World.setCell _ _ _ = W2 at H2 ⊢
          clear q5' qf' ql'
          let NFS : World → Prop := fun W' => AtF W' PA [.int .i64 i1, .int .i64 t1, .int .i64 k1, .int .i64 s1, .int .i64 n1, .string d1, .bool f1, .slice (some ⟨A1, 0, none⟩) l1 c1, .int .i64 m1] ∧ AtF W' (PA + 1) [.int .i64 i2, .int .i64 t1, .int .i64 k1, .int .i64 (s1 - n2), .int .i64 n2, .string db, .bool f1, .slice (some ⟨A2, 0, none⟩) l2 c2, .int .i64 m2]
          haveI nnS : Nonempty (InS NFS) := ⟨⟨W2, H2.a, H2.b⟩⟩
          have e4 := H2.n4
          have ra0 := fun (p : InS NFS) => p.h.1.1.2 0 _ rfl
          have rb0 := fun (p : InS NFS) => p.h.2.1.2 0 _ rfl
          have ra1 := fun (p : InS NFS) => p.h.1.1.2 1 _ rfl
          have rb1 := fun (p : InS NFS) => p.h.2.1.2 1 _ rfl
          have ra2 := fun (p : InS NFS) => p.h.1.1.2 2 _ rfl
          have rb2 := fun (p : InS NFS) => p.h.2.1.2 2 _ rfl
          have ra3 := fun (p : InS NFS) => p.h.1.1.2 3 _ rfl
          have rb3 := fun (p : InS NFS) => p.h.2.1.2 3 _ rfl
          have ra4 := fun (p : InS NFS) => p.h.1.1.2 4 _ rfl
          have rb4 := fun (p : InS NFS) => p.h.2.1.2 4 _ rfl
          have ra5 := fun (p : InS NFS) => p.h.1.1.2 5 _ rfl
          have rb5 := fun (p : InS NFS) => p.h.2.1.2 5 _ rfl
          have ra6 := fun (p : InS NFS) => p.h.1.1.2 6 _ rfl
          have rb6 := fun (p : InS NFS) => p.h.2.1.2 6 _ rfl
          have ra7 := fun (p : InS NFS) => p.h.1.1.2 7 _ rfl
          have rb7 := fun (p : InS NFS) => p.h.2.1.2 7 _ rfl
          have ra8 := fun (p : InS NFS) => p.h.1.1.2 8 _ rfl
          have rb8 := fun (p : InS NFS) => p.h.2.1.2 8 _ rfl
          have z0 := (H2.c).1.2 0 _ rfl
          have z1 := (H2.c).1.2 1 _ rfl
          have z2 := (H2.c).1.2 2 _ rfl
          have z3 := (H2.c).1.2 3 _ rfl
          have z4 := (H2.c).1.2 4 _ rfl
          have z5 := (H2.c).1.2 5 _ rfl
          have z6 := (H2.c).1.2 6 _ rfl
          have z7 := (H2.c).1.2 7 _ rfl
          have z8 := (H2.c).1.2 8 _ rfl
          have u0 := (H2.d).1.2 0 _ rfl
          have u1 := (H2.d).1.2 1 _ rfl
          have u2 := (H2.d).1.2 2 _ rfl
          have u3 := (H2.d).1.2 3 _ rfl
          have u4 := (H2.d).1.2 4 _ rfl
          have u5 := (H2.d).1.2 5 _ rfl
          have u6 := (H2.d).1.2 6 _ rfl
          have u7 := (H2.d).1.2 7 _ rfl
          have u8 := (H2.d).1.2 8 _ rfl
          have cf := H2.c.2
          have uf := H2.d.2
          have cl := H2.c.1.1
          have ul := H2.d.1.1
          have HA := H2.a
          have HB := H2.b
          refine wp_region_sts NFS [2] 3 (by kernel_rfl) (by kernel_rfl) ?hS0 ?_
          case hS0 => exact ⟨HA.drew, HB.drew⟩
          with_reducible refine st_sel [0, 1] (by kernel_rfl) (by kernel_rfl) ?_
          simp only [picked, List.getElem?_cons_succ, List.getElem?_cons_zero, Option.toList_some, List.nil_append, List.cons_append, List.append_nil]
          try simp only [Act.put, List.setIfInBounds_toArray, List.set_cons_succ, List.set_cons_zero]
          repeat (go_big_quiet_step (fail))
          with_reducible refine wpQuiet_nil ?_
          refine st_branch [2] (by kernel_rfl) (branch_cons (by simp only [List.getElem?_toArray, List.getElem?_cons_succ, List.getElem?_cons_zero]; rfl) ?_ branch_nil)
          refine eff_done_s rfl (by simp [go_sem, z0, z1, z2, z3, z4, z5, z6, z7, z8, cf]; rfl) ?hS1 ?_
          case hS1 => exact (by constructor <;> repeat (first | (with_reducible exact HA) | (with_reducible exact HB) | (with_reducible refine AtF.drew ?_) | (with_reducible refine AtF.other ?_ (by omega) _ _)))
          try simp only [List.nil_append, List.cons_append, Act.put, List.setIfInBounds_toArray, List.set_cons_succ, List.set_cons_zero]
          refine st_end (by kernel_rfl) ?_
          simp only [List.drop_succ_cons, List.drop_zero, List.drop_nil]
          skip
          clear ra0 ra1 ra2 ra3 ra4 ra5 ra6 ra7 ra8 rb0 rb1 rb2 rb3 rb4 rb5 rb6 rb7 rb8 nnS NFS
          go_wp2
          have H3 := H2.fin [.int .i64 i1, .int .i64 t1, .int .i64 k1, .int .i64 s1, .int .i64 n1, .string d1, .bool f1, .slice (some ⟨A1, 0, none⟩) l1 c1, .int .i64 m1] [.int .i64 i2, .int .i64 t1, .int .i64 k1, .int .i64 (s1 - n2), .int .i64 n2, .string db, .bool f1, .slice (some ⟨A2, 0, none⟩) l2 c2, .int .i64 m2] rfl rfl
          have g1 := H3.1.drew
          have g2 := H3.2.1.drew
          have g5 := H3.2.2.2.2.drew
          clear z0 z1 z2 z3 z4 z5 z6 z7 z8 u0 u1 u2 u3 u4 u5 u6 u7 u8
          have z0 := (g1).1.2 0 _ rfl
          have z1 := (g1).1.2 1 _ rfl
          have z2 := (g1).1.2 2 _ rfl
          have z3 := (g1).1.2 3 _ rfl
          have z4 := (g1).1.2 4 _ rfl
          have z5 := (g1).1.2 5 _ rfl
          have z6 := (g1).1.2 6 _ rfl
          have z7 := (g1).1.2 7 _ rfl
          have z8 := (g1).1.2 8 _ rfl
          have u0 := (g2).1.2 0 _ rfl
          have u1 := (g2).1.2 1 _ rfl
          have u2 := (g2).1.2 2 _ rfl
          have u3 := (g2).1.2 3 _ rfl
          have u4 := (g2).1.2 4 _ rfl
          have u5 := (g2).1.2 5 _ rfl
          have u6 := (g2).1.2 6 _ rfl
          have u7 := (g2).1.2 7 _ rfl
          have u8 := (g2).1.2 8 _ rfl
          exact bodyPost_ret (v := .tuple #[.agg #[.int .i64 i1, .int .i64 t1, .int .i64 k1, .int .i64 s1, .int .i64 n1, .string d1, .bool f1, .slice (some ⟨A1, 0, none⟩) l1 c1, .int .i64 m1], .agg #[.int .i64 i2, .int .i64 t1, .int .i64 k1, .int .i64 (s1 - n2), .int .i64 n2, .string db, .bool f1, .slice (some ⟨A2, 0, none⟩) l2 c2, .int .i64 m2]])
            (by simp only [setRow] at z0 z1 z2 z3 z4 z5 z6 z7 z8 u0 u1 u2 u3 u4 u5 u6 u7 u8; simp [results, Try.results21, go_sem, z0, z1, z2, z3, z4, z5, z6, z7, z8, u0, u1, u2, u3, u4, u5, u6, u7, u8])
            rfl ⟨⟨⟨i1, t1, k1, s1, n1, d1, f1, some ⟨A1, 0, none⟩, l1, c1, m1⟩, _⟩, ⟨⟨i2, t1, k1, (s1 - n2), n2, db, f1, some ⟨A2, 0, none⟩, l2, c2, m2⟩, _⟩, rfl, H3.2.2.1.bel (Bel.drew (Bel.refl _)), H3.2.2.2.1.bel (Bel.drew (Bel.refl _)), g5⟩
        · go_upto_region 18 with fail
          clear q2 q4 q5 qf ql
          have H2 := H1
          clear H1
          obtain ⟨W2, rfl⟩ : ∃ W2, W2 = W1 := ⟨_, rfl⟩
          let NFS : World → Prop := fun W' => AtF W' PA [.int .i64 i1, .int .i64 t1, .int .i64 k1, .int .i64 s1, .int .i64 n1, .string d1, .bool f1, .slice (some ⟨A1, 0, none⟩) l1 c1, .int .i64 m1] ∧ AtF W' (PA + 1) [.int .i64 i2, .int .i64 t1, .int .i64 k1, .int .i64 (s1 - n2), .int .i64 n2, .string d2, .bool f1, .slice (some ⟨A2, 0, none⟩) l2 c2, .int .i64 m2]
          haveI nnS : Nonempty (InS NFS) := ⟨⟨W2, H2.a, H2.b⟩⟩
          have e4 := H2.n4
          have ra0 := fun (p : InS NFS) => p.h.1.1.2 0 _ rfl
          have rb0 := fun (p : InS NFS) => p.h.2.1.2 0 _ rfl
          have ra1 := fun (p : InS NFS) => p.h.1.1.2 1 _ rfl
          have rb1 := fun (p : InS NFS) => p.h.2.1.2 1 _ rfl
          have ra2 := fun (p : InS NFS) => p.h.1.1.2 2 _ rfl
          have rb2 := fun (p : InS NFS) => p.h.2.1.2 2 _ rfl
          have ra3 := fun (p : InS NFS) => p.h.1.1.2 3 _ rfl
          have rb3 := fun (p : InS NFS) => p.h.2.1.2 3 _ rfl
          have ra4 := fun (p : InS NFS) => p.h.1.1.2 4 _ rfl
          have rb4 := fun (p : InS NFS) => p.h.2.1.2 4 _ rfl
          have ra5 := fun (p : InS NFS) => p.h.1.1.2 5 _ rfl
          have rb5 := fun (p : InS NFS) => p.h.2.1.2 5 _ rfl
          have ra6 := fun (p : InS NFS) => p.h.1.1.2 6 _ rfl
          have rb6 := fun (p : InS NFS) => p.h.2.1.2 6 _ rfl
          have ra7 := fun (p : InS NFS) => p.h.1.1.2 7 _ rfl
          have rb7 := fun (p : InS NFS) => p.h.2.1.2 7 _ rfl
          have ra8 := fun (p : InS NFS) => p.h.1.1.2 8 _ rfl
          have rb8 := fun (p : InS NFS) => p.h.2.1.2 8 _ rfl
          have z0 := (H2.c).1.2 0 _ rfl
          have z1 := (H2.c).1.2 1 _ rfl
          have z2 := (H2.c).1.2 2 _ rfl
          have z3 := (H2.c).1.2 3 _ rfl
          have z4 := (H2.c).1.2 4 _ rfl
          have z5 := (H2.c).1.2 5 _ rfl
          have z6 := (H2.c).1.2 6 _ rfl
          have z7 := (H2.c).1.2 7 _ rfl
          have z8 := (H2.c).1.2 8 _ rfl
          have u0 := (H2.d).1.2 0 _ rfl
          have u1 := (H2.d).1.2 1 _ rfl
          have u2 := (H2.d).1.2 2 _ rfl
          have u3 := (H2.d).1.2 3 _ rfl
          have u4 := (H2.d).1.2 4 _ rfl
          have u5 := (H2.d).1.2 5 _ rfl
          have u6 := (H2.d).1.2 6 _ rfl
          have u7 := (H2.d).1.2 7 _ rfl
          have u8 := (H2.d).1.2 8 _ rfl
          have cf := H2.c.2
          have uf := H2.d.2
          have cl := H2.c.1.1
          have ul := H2.d.1.1
          have HA := H2.a
          have HB := H2.b
          refine wp_region_sts NFS [2] 3 (by kernel_rfl) (by kernel_rfl) ?hS0 ?_
          case hS0 => exact ⟨HA.drew, HB.drew⟩
          with_reducible refine st_sel [0, 1] (by kernel_rfl) (by kernel_rfl) ?_
          simp only [picked, List.getElem?_cons_succ, List.getElem?_cons_zero, Option.toList_some, List.nil_append, List.cons_append, List.append_nil]
          try simp only [Act.put, List.setIfInBounds_toArray, List.set_cons_succ, List.set_cons_zero]
          repeat (go_big_quiet_step (fail))
          with_reducible refine wpQuiet_nil ?_
          refine st_branch [2] (by kernel_rfl) (branch_cons (by simp only [List.getElem?_toArray, List.getElem?_cons_succ, List.getElem?_cons_zero]; rfl) ?_ branch_nil)
          refine eff_done_s rfl (by simp [go_sem, z0, z1, z2, z3, z4, z5, z6, z7, z8, cf]; rfl) ?hS1 ?_
          case hS1 => exact (by constructor <;> repeat (first | (with_reducible exact HA) | (with_reducible exact HB) | (with_reducible refine AtF.drew ?_) | (with_reducible refine AtF.other ?_ (by omega) _ _)))
          try simp only [List.nil_append, List.cons_append, Act.put, List.setIfInBounds_toArray, List.set_cons_succ, List.set_cons_zero]
          refine st_end (by kernel_rfl) ?_
          simp only [List.drop_succ_cons, List.drop_zero, List.drop_nil]
          skip
          clear ra0 ra1 ra2 ra3 ra4 ra5 ra6 ra7 ra8 rb0 rb1 rb2 rb3 rb4 rb5 rb6 rb7 rb8 nnS NFS
          go_wp2
          have H3 := H2.fin [.int .i64 i1, .int .i64 t1, .int .i64 k1, .int .i64 s1, .int .i64 n1, .string d1, .bool f1, .slice (some ⟨A1, 0, none⟩) l1 c1, .int .i64 m1] [.int .i64 i2, .int .i64 t1, .int .i64 k1, .int .i64 (s1 - n2), .int .i64 n2, .string d2, .bool f1, .slice (some ⟨A2, 0, none⟩) l2 c2, .int .i64 m2] rfl rfl
          have g1 := H3.1.drew
          have g2 := H3.2.1.drew
          have g5 := H3.2.2.2.2.drew
          clear z0 z1 z2 z3 z4 z5 z6 z7 z8 u0 u1 u2 u3 u4 u5 u6 u7 u8
          have z0 := (g1).1.2 0 _ rfl
          have z1 := (g1).1.2 1 _ rfl
          have z2 := (g1).1.2 2 _ rfl
          have z3 := (g1).1.2 3 _ rfl
          have z4 := (g1).1.2 4 _ rfl
          have z5 := (g1).1.2 5 _ rfl
          have z6 := (g1).1.2 6 _ rfl
          have z7 := (g1).1.2 7 _ rfl
          have z8 := (g1).1.2 8 _ rfl
          have u0 := (g2).1.2 0 _ rfl
          have u1 := (g2).1.2 1 _ rfl
          have u2 := (g2).1.2 2 _ rfl
          have u3 := (g2).1.2 3 _ rfl
          have u4 := (g2).1.2 4 _ rfl
          have u5 := (g2).1.2 5 _ rfl
          have u6 := (g2).1.2 6 _ rfl
          have u7 := (g2).1.2 7 _ rfl
          have u8 := (g2).1.2 8 _ rfl
          exact bodyPost_ret (v := .tuple #[.agg #[.int .i64 i1, .int .i64 t1, .int .i64 k1, .int .i64 s1, .int .i64 n1, .string d1, .bool f1, .slice (some ⟨A1, 0, none⟩) l1 c1, .int .i64 m1], .agg #[.int .i64 i2, .int .i64 t1, .int .i64 k1, .int .i64 (s1 - n2), .int .i64 n2, .string d2, .bool f1, .slice (some ⟨A2, 0, none⟩) l2 c2, .int .i64 m2]])
            (by simp only [setRow] at z0 z1 z2 z3 z4 z5 z6 z7 z8 u0 u1 u2 u3 u4 u5 u6 u7 u8; simp [results, Try.results21, go_sem, z0, z1, z2, z3, z4, z5, z6, z7, z8, u0, u1, u2, u3, u4, u5, u6, u7, u8])
            rfl ⟨⟨⟨i1, t1, k1, s1, n1, d1, f1, some ⟨A1, 0, none⟩, l1, c1, m1⟩, _⟩, ⟨⟨i2, t1, k1, (s1 - n2), n2, d2, f1, some ⟨A2, 0, none⟩, l2, c2, m2⟩, _⟩, rfl, H3.2.2.1.bel (Bel.drew (Bel.refl _)), H3.2.2.2.1.bel (Bel.drew (Bel.refl _)), g5⟩
    · go_upto_region 14 with fail
      clear p3 q3 q4 qf hsn
      have q2 := H1.b.1.2 2 _ rfl
      have q4 := H1.b.1.2 4 _ rfl
      have q5 := H1.b.1.2 5 _ rfl
      have qf := H1.b.2
      have ql := H1.b.1.1
      by_cases hk : k1 = 1
      · have hkb : (k1 == 1) = true := by simpa using hk
        have H2 := H1.upd 5 (.string ⟨#[]⟩) ⟨i2, t1, k1, s2, n2, ⟨#[]⟩, f1, some ⟨A2, 0, none⟩, l2, c2, m2⟩ rfl (by omega) rfl rfl rfl (by show 0 ≤ maxLen; unfold maxLen; omega) rfl
        clear hk
        go_upto_region 18 with fail
        generalize World.setCell _ _ _ = W2 at H2 ⊢
        clear q2 q4 q5 qf ql H1
        let NFS : World → Prop := fun W' => AtF W' PA [.int .i64 i1, .int .i64 t1, .int .i64 k1, .int .i64 s1, .int .i64 n1, .string d1, .bool f1, .slice (some ⟨A1, 0, none⟩) l1 c1, .int .i64 m1] ∧ AtF W' (PA + 1) [.int .i64 i2, .int .i64 t1, .int .i64 k1, .int .i64 s2, .int .i64 n2, .string ⟨#[]⟩, .bool f1, .slice (some ⟨A2, 0, none⟩) l2 c2, .int .i64 m2]
        haveI nnS : Nonempty (InS NFS) := ⟨⟨W2, H2.a, H2.b⟩⟩
        have e4 := H2.n4
        have ra0 := fun (p : InS NFS) => p.h.1.1.2 0 _ rfl
        have rb0 := fun (p : InS NFS) => p.h.2.1.2 0 _ rfl
        have ra1 := fun (p : InS NFS) => p.h.1.1.2 1 _ rfl
        have rb1 := fun (p : InS NFS) => p.h.2.1.2 1 _ rfl
        have ra2 := fun (p : InS NFS) => p.h.1.1.2 2 _ rfl
        have rb2 := fun (p : InS NFS) => p.h.2.1.2 2 _ rfl
        have ra3 := fun (p : InS NFS) => p.h.1.1.2 3 _ rfl
        have rb3 := fun (p : InS NFS) => p.h.2.1.2 3 _ rfl
        have ra4 := fun (p : InS NFS) => p.h.1.1.2 4 _ rfl
        have rb4 := fun (p : InS NFS) => p.h.2.1.2 4 _ rfl
        have ra5 := fun (p : InS NFS) => p.h.1.1.2 5 _ rfl
        have rb5 := fun (p : InS NFS) => p.h.2.1.2 5 _ rfl
        have ra6 := fun (p : InS NFS) => p.h.1.1.2 6 _ rfl
        have rb6 := fun (p : InS NFS) => p.h.2.1.2 6 _ rfl
        have ra7 := fun (p : InS NFS) => p.h.1.1.2 7 _ rfl
        have rb7 := fun (p : InS NFS) => p.h.2.1.2 7 _ rfl
        have ra8 := fun (p : InS NFS) => p.h.1.1.2 8 _ rfl
        have rb8 := fun (p : InS NFS) => p.h.2.1.2 8 _ rfl
        have z0 := (H2.c).1.2 0 _ rfl
        have z1 := (H2.c).1.2 1 _ rfl
        have z2 := (H2.c).1.2 2 _ rfl
        have z3 := (H2.c).1.2 3 _ rfl
        have z4 := (H2.c).1.2 4 _ rfl
        have z5 := (H2.c).1.2 5 _ rfl
        have z6 := (H2.c).1.2 6 _ rfl
        have z7 := (H2.c).1.2 7 _ rfl
        have z8 := (H2.c).1.2 8 _ rfl
        have u0 := (H2.d).1.2 0 _ rfl
        have u1 := (H2.d).1.2 1 _ rfl
        have u2 := (H2.d).1.2 2 _ rfl
        have u3 := (H2.d).1.2 3 _ rfl
        have u4 := (H2.d).1.2 4 _ rfl
        have u5 := (H2.d).1.2 5 _ rfl
        have u6 := (H2.d).1.2 6 _ rfl
        have u7 := (H2.d).1.2 7 _ rfl
        have u8 := (H2.d).1.2 8 _ rfl
        have cf := H2.c.2
        have uf := H2.d.2
        have cl := H2.c.1.1
        have ul := H2.d.1.1
        have HA := H2.a
        have HB := H2.b
        refine wp_region_sts NFS [2] 3 (by kernel_rfl) (by kernel_rfl) ?hS0 ?_
        case hS0 => exact ⟨HA.drew, HB.drew⟩
        with_reducible refine st_sel [0, 1] (by kernel_rfl) (by kernel_rfl) ?_
        simp only [picked, List.getElem?_cons_succ, List.getElem?_cons_zero, Option.toList_some, List.nil_append, List.cons_append, List.append_nil]
        try simp only [Act.put, List.setIfInBounds_toArray, List.set_cons_succ, List.set_cons_zero]
        repeat (go_big_quiet_step (fail))
        with_reducible refine wpQuiet_nil ?_
        refine st_branch [2] (by kernel_rfl) (branch_cons (by simp only [List.getElem?_toArray, List.getElem?_cons_succ, List.getElem?_cons_zero]; rfl) ?_ branch_nil)
        refine eff_done_s rfl (by simp [go_sem, z0, z1, z2, z3, z4, z5, z6, z7, z8, cf]; rfl) ?hS1 ?_
        case hS1 => exact (by constructor <;> repeat (first | (with_reducible exact HA) | (with_reducible exact HB) | (with_reducible refine AtF.drew ?_) | (with_reducible refine AtF.other ?_ (by omega) _ _)))
        try simp only [List.nil_append, List.cons_append, Act.put, List.setIfInBounds_toArray, List.set_cons_succ, List.set_cons_zero]
        refine st_end (by kernel_rfl) ?_
        simp only [List.drop_succ_cons, List.drop_zero, List.drop_nil]
        skip
        clear ra0 ra1 ra2 ra3 ra4 ra5 ra6 ra7 ra8 rb0 rb1 rb2 rb3 rb4 rb5 rb6 rb7 rb8 nnS NFS
        go_wp2
        have H3 := H2.fin [.int .i64 i1, .int .i64 t1, .int .i64 k1, .int .i64 s1, .int .i64 n1, .string d1, .bool f1, .slice (some ⟨A1, 0, none⟩) l1 c1, .int .i64 m1] [.int .i64 i2, .int .i64 t1, .int .i64 k1, .int .i64 s2, .int .i64 n2, .string ⟨#[]⟩, .bool f1, .slice (some ⟨A2, 0, none⟩) l2 c2, .int .i64 m2] rfl rfl
        have g1 := H3.1.drew
        have g2 := H3.2.1.drew
        have g5 := H3.2.2.2.2.drew
        clear z0 z1 z2 z3 z4 z5 z6 z7 z8 u0 u1 u2 u3 u4 u5 u6 u7 u8
        have z0 := (g1).1.2 0 _ rfl
        have z1 := (g1).1.2 1 _ rfl
        have z2 := (g1).1.2 2 _ rfl
        have z3 := (g1).1.2 3 _ rfl
        have z4 := (g1).1.2 4 _ rfl
        have z5 := (g1).1.2 5 _ rfl
        have z6 := (g1).1.2 6 _ rfl
        have z7 := (g1).1.2 7 _ rfl
        have z8 := (g1).1.2 8 _ rfl
        have u0 := (g2).1.2 0 _ rfl
        have u1 := (g2).1.2 1 _ rfl
        have u2 := (g2).1.2 2 _ rfl
        have u3 := (g2).1.2 3 _ rfl
        have u4 := (g2).1.2 4 _ rfl
        have u5 := (g2).1.2 5 _ rfl
        have u6 := (g2).1.2 6 _ rfl
        have u7 := (g2).1.2 7 _ rfl
        have u8 := (g2).1.2 8 _ rfl
        exact bodyPost_ret (v := .tuple #[.agg #[.int .i64 i1, .int .i64 t1, .int .i64 k1, .int .i64 s1, .int .i64 n1, .string d1, .bool f1, .slice (some ⟨A1, 0, none⟩) l1 c1, .int .i64 m1], .agg #[.int .i64 i2, .int .i64 t1, .int .i64 k1, .int .i64 s2, .int .i64 n2, .string ⟨#[]⟩, .bool f1, .slice (some ⟨A2, 0, none⟩) l2 c2, .int .i64 m2]])
          (by simp only [setRow] at z0 z1 z2 z3 z4 z5 z6 z7 z8 u0 u1 u2 u3 u4 u5 u6 u7 u8; simp [results, Try.results21, go_sem, z0, z1, z2, z3, z4, z5, z6, z7, z8, u0, u1, u2, u3, u4, u5, u6, u7, u8])
          rfl ⟨⟨⟨i1, t1, k1, s1, n1, d1, f1, some ⟨A1, 0, none⟩, l1, c1, m1⟩, _⟩, ⟨⟨i2, t1, k1, s2, n2, ⟨#[]⟩, f1, some ⟨A2, 0, none⟩, l2, c2, m2⟩, _⟩, rfl, H3.2.2.1.bel (Bel.drew (Bel.refl _)), H3.2.2.2.1.bel (Bel.drew (Bel.refl _)), g5⟩
      · have hkb : (k1 == 1) = false := by simpa using hk
        clear hk
        rcases Bool.eq_false_or_eq_true d2.toList.isEmpty with hdb | hdb
        · go_wp2_with fail
          refine (HDT.out _).mono ?_; rintro e wd ⟨rfl, hbd⟩
          have H1' := H1.grow hbd
          have q5' := H1'.b.1.2 5 _ rfl
          have qf' := H1'.b.2
          have ql' := H1'.b.1.1
          have H2 := H1'.upd 5 (.string db) ⟨i2, t1, k1, s2, n2, db, f1, some ⟨A2, 0, none⟩, l2, c2, m2⟩ rfl (by omega) rfl rfl rfl hdz rfl
          clear q2 q4 q5 qf ql H1 hbd H1'
          go_upto_region 18 with fail
          generalize World.setCell _ _ _ = W2 at H2 ⊢
          clear q5' qf' ql'
          let NFS : World → Prop := fun W' => AtF W' PA [.int .i64 i1, .int .i64 t1, .int .i64 k1, .int .i64 s1, .int .i64 n1, .string d1, .bool f1, .slice (some ⟨A1, 0, none⟩) l1 c1, .int .i64 m1] ∧ AtF W' (PA + 1) [.int .i64 i2, .int .i64 t1, .int .i64 k1, .int .i64 s2, .int .i64 n2, .string db, .bool f1, .slice (some ⟨A2, 0, none⟩) l2 c2, .int .i64 m2]
          haveI nnS : Nonempty (InS NFS) := ⟨⟨W2, H2.a, H2.b⟩⟩
          have e4 := H2.n4
          have ra0 := fun (p : InS NFS) => p.h.1.1.2 0 _ rfl
          have rb0 := fun (p : InS NFS) => p.h.2.1.2 0 _ rfl
          have ra1 := fun (p : InS NFS) => p.h.1.1.2 1 _ rfl
          have rb1 := fun (p : InS NFS) => p.h.2.1.2 1 _ rfl
          have ra2 := fun (p : InS NFS) => p.h.1.1.2 2 _ rfl
          have rb2 := fun (p : InS NFS) => p.h.2.1.2 2 _ rfl
          have ra3 := fun (p : InS NFS) => p.h.1.1.2 3 _ rfl
          have rb3 := fun (p : InS NFS) => p.h.2.1.2 3 _ rfl
          have ra4 := fun (p : InS NFS) => p.h.1.1.2 4 _ rfl
          have rb4 := fun (p : InS NFS) => p.h.2.1.2 4 _ rfl
          have ra5 := fun (p : InS NFS) => p.h.1.1.2 5 _ rfl
          have rb5 := fun (p : InS NFS) => p.h.2.1.2 5 _ rfl
          have ra6 := fun (p : InS NFS) => p.h.1.1.2 6 _ rfl
          have rb6 := fun (p : InS NFS) => p.h.2.1.2 6 _ rfl
          have ra7 := fun (p : InS NFS) => p.h.1.1.2 7 _ rfl
          have rb7 := fun (p : InS NFS) => p.h.2.1.2 7 _ rfl
          have ra8 := fun (p : InS NFS) => p.h.1.1.2 8 _ rfl
          have rb8 := fun (p : InS NFS) => p.h.2.1.2 8 _ rfl
          have z0 := (H2.c).1.2 0 _ rfl
          have z1 := (H2.c).1.2 1 _ rfl
          have z2 := (H2.c).1.2 2 _ rfl
          have z3 := (H2.c).1.2 3 _ rfl
          have z4 := (H2.c).1.2 4 _ rfl
          have z5 := (H2.c).1.2 5 _ rfl
          have z6 := (H2.c).1.2 6 _ rfl
          have z7 := (H2.c).1.2 7 _ rfl
          have z8 := (H2.c).1.2 8 _ rfl
          have u0 := (H2.d).1.2 0 _ rfl
          have u1 := (H2.d).1.2 1 _ rfl
          have u2 := (H2.d).1.2 2 _ rfl
          have u3 := (H2.d).1.2 3 _ rfl
          have u4 := (H2.d).1.2 4 _ rfl
          have u5 := (H2.d).1.2 5 _ rfl
          have u6 := (H2.d).1.2 6 _ rfl
          have u7 := (H2.d).1.2 7 _ rfl
          have u8 := (H2.d).1.2 8 _ rfl
          have cf := H2.c.2
          have uf := H2.d.2
          have cl := H2.c.1.1
          have ul := H2.d.1.1
          have HA := H2.a
          have HB := H2.b
          refine wp_region_sts NFS [2] 3 (by kernel_rfl) (by kernel_rfl) ?hS0 ?_
          case hS0 => exact ⟨HA.drew, HB.drew⟩
          with_reducible refine st_sel [0, 1] (by kernel_rfl) (by kernel_rfl) ?_
          simp only [picked, List.getElem?_cons_succ, List.getElem?_cons_zero, Option.toList_some, List.nil_append, List.cons_append, List.append_nil]
          try simp only [Act.put, List.setIfInBounds_toArray, List.set_cons_succ, List.set_cons_zero]
          repeat (go_big_quiet_step (fail))
          with_reducible refine wpQuiet_nil ?_
          refine st_branch [2] (by kernel_rfl) (branch_cons (by simp only [List.getElem?_toArray, List.getElem?_cons_succ, List.getElem?_cons_zero]; rfl) ?_ branch_nil)
          refine eff_done_s rfl (by simp [go_sem, z0, z1, z2, z3, z4, z5, z6, z7, z8, cf]; rfl) ?hS1 ?_
          case hS1 => exact (by constructor <;> repeat (first | (with_reducible exact HA) | (with_reducible exact HB) | (with_reducible refine AtF.drew ?_) | (with_reducible refine AtF.other ?_ (by omega) _ _)))
          try simp only [List.nil_append, List.cons_append, Act.put, List.setIfInBounds_toArray, List.set_cons_succ, List.set_cons_zero]
          refine st_end (by kernel_rfl) ?_
          simp only [List.drop_succ_cons, List.drop_zero, List.drop_nil]
          skip
          clear ra0 ra1 ra2 ra3 ra4 ra5 ra6 ra7 ra8 rb0 rb1 rb2 rb3 rb4 rb5 rb6 rb7 rb8 nnS NFS
          go_wp2
          have H3 := H2.fin [.int .i64 i1, .int .i64 t1, .int .i64 k1, .int .i64 s1, .int .i64 n1, .string d1, .bool f1, .slice (some ⟨A1, 0, none⟩) l1 c1, .int .i64 m1] [.int .i64 i2, .int .i64 t1, .int .i64 k1, .int .i64 s2, .int .i64 n2, .string db, .bool f1, .slice (some ⟨A2, 0, none⟩) l2 c2, .int .i64 m2] rfl rfl
          have g1 := H3.1.drew
          have g2 := H3.2.1.drew
          have g5 := H3.2.2.2.2.drew
          clear z0 z1 z2 z3 z4 z5 z6 z7 z8 u0 u1 u2 u3 u4 u5 u6 u7 u8
          have z0 := (g1).1.2 0 _ rfl
          have z1 := (g1).1.2 1 _ rfl
          have z2 := (g1).1.2 2 _ rfl
          have z3 := (g1).1.2 3 _ rfl
          have z4 := (g1).1.2 4 _ rfl
          have z5 := (g1).1.2 5 _ rfl
          have z6 := (g1).1.2 6 _ rfl
          have z7 := (g1).1.2 7 _ rfl
          have z8 := (g1).1.2 8 _ rfl
          have u0 := (g2).1.2 0 _ rfl
          have u1 := (g2).1.2 1 _ rfl
          have u2 := (g2).1.2 2 _ rfl
          have u3 := (g2).1.2 3 _ rfl
          have u4 := (g2).1.2 4 _ rfl
          have u5 := (g2).1.2 5 _ rfl
          have u6 := (g2).1.2 6 _ rfl
          have u7 := (g2).1.2 7 _ rfl
          have u8 := (g2).1.2 8 _ rfl
          exact bodyPost_ret (v := .tuple #[.agg #[.int .i64 i1, .int .i64 t1, .int .i64 k1, .int .i64 s1, .int .i64 n1, .string d1, .bool f1, .slice (some ⟨A1, 0, none⟩) l1 c1, .int .i64 m1], .agg #[.int .i64 i2, .int .i64 t1, .int .i64 k1, .int .i64 s2, .int .i64 n2, .string db, .bool f1, .slice (some ⟨A2, 0, none⟩) l2 c2, .int .i64 m2]])
            (by simp only [setRow] at z0 z1 z2 z3 z4 z5 z6 z7 z8 u0 u1 u2 u3 u4 u5 u6 u7 u8; simp [results, Try.results21, go_sem, z0, z1, z2, z3, z4, z5, z6, z7, z8, u0, u1, u2, u3, u4, u5, u6, u7, u8])
            rfl ⟨⟨⟨i1, t1, k1, s1, n1, d1, f1, some ⟨A1, 0, none⟩, l1, c1, m1⟩, _⟩, ⟨⟨i2, t1, k1, s2, n2, db, f1, some ⟨A2, 0, none⟩, l2, c2, m2⟩, _⟩, rfl, H3.2.2.1.bel (Bel.drew (Bel.refl _)), H3.2.2.2.1.bel (Bel.drew (Bel.refl _)), g5⟩
        · go_upto_region 18 with fail
          clear q2 q4 q5 qf ql
          have H2 := H1
          clear H1
          obtain ⟨W2, rfl⟩ : ∃ W2, W2 = W1 := ⟨_, rfl⟩
          let NFS : World → Prop := fun W' => AtF W' PA [.int .i64 i1, .int .i64 t1, .int .i64 k1, .int .i64 s1, .int .i64 n1, .string d1, .bool f1, .slice (some ⟨A1, 0, none⟩) l1 c1, .int .i64 m1] ∧ AtF W' (PA + 1) [.int .i64 i2, .int .i64 t1, .int .i64 k1, .int .i64 s2, .int .i64 n2, .string d2, .bool f1, .slice (some ⟨A2, 0, none⟩) l2 c2, .int .i64 m2]
          haveI nnS : Nonempty (InS NFS) := ⟨⟨W2, H2.a, H2.b⟩⟩
          have e4 := H2.n4
          have ra0 := fun (p : InS NFS) => p.h.1.1.2 0 _ rfl
          have rb0 := fun (p : InS NFS) => p.h.2.1.2 0 _ rfl
          have ra1 := fun (p : InS NFS) => p.h.1.1.2 1 _ rfl
          have rb1 := fun (p : InS NFS) => p.h.2.1.2 1 _ rfl
          have ra2 := fun (p : InS NFS) => p.h.1.1.2 2 _ rfl
          have rb2 := fun (p : InS NFS) => p.h.2.1.2 2 _ rfl
          have ra3 := fun (p : InS NFS) => p.h.1.1.2 3 _ rfl
          have rb3 := fun (p : InS NFS) => p.h.2.1.2 3 _ rfl
          have ra4 := fun (p : InS NFS) => p.h.1.1.2 4 _ rfl
          have rb4 := fun (p : InS NFS) => p.h.2.1.2 4 _ rfl
          have ra5 := fun (p : InS NFS) => p.h.1.1.2 5 _ rfl
          have rb5 := fun (p : InS NFS) => p.h.2.1.2 5 _ rfl
          have ra6 := fun (p : InS NFS) => p.h.1.1.2 6 _ rfl
          have rb6 := fun (p : InS NFS) => p.h.2.1.2 6 _ rfl
          have ra7 := fun (p : InS NFS) => p.h.1.1.2 7 _ rfl
          have rb7 := fun (p : InS NFS) => p.h.2.1.2 7 _ rfl
          have ra8 := fun (p : InS NFS) => p.h.1.1.2 8 _ rfl
          have rb8 := fun (p : InS NFS) => p.h.2.1.2 8 _ rfl
          have z0 := (H2.c).1.2 0 _ rfl
          have z1 := (H2.c).1.2 1 _ rfl
          have z2 := (H2.c).1.2 2 _ rfl
          have z3 := (H2.c).1.2 3 _ rfl
          have z4 := (H2.c).1.2 4 _ rfl
          have z5 := (H2.c).1.2 5 _ rfl
          have z6 := (H2.c).1.2 6 _ rfl
          have z7 := (H2.c).1.2 7 _ rfl
          have z8 := (H2.c).1.2 8 _ rfl
          have u0 := (H2.d).1.2 0 _ rfl
          have u1 := (H2.d).1.2 1 _ rfl
          have u2 := (H2.d).1.2 2 _ rfl
          have u3 := (H2.d).1.2 3 _ rfl
          have u4 := (H2.d).1.2 4 _ rfl
          have u5 := (H2.d).1.2 5 _ rfl
          have u6 := (H2.d).1.2 6 _ rfl
          have u7 := (H2.d).1.2 7 _ rfl
          have u8 := (H2.d).1.2 8 _ rfl
          have cf := H2.c.2
          have uf := H2.d.2
          have cl := H2.c.1.1
          have ul := H2.d.1.1
          have HA := H2.a
          have HB := H2.b
          refine wp_region_sts NFS [2] 3 (by kernel_rfl) (by kernel_rfl) ?hS0 ?_
          case hS0 => exact ⟨HA.drew, HB.drew⟩
          with_reducible refine st_sel [0, 1] (by kernel_rfl) (by kernel_rfl) ?_
          simp only [picked, List.getElem?_cons_succ, List.getElem?_cons_zero, Option.toList_some, List.nil_append, List.cons_append, List.append_nil]
          try simp only [Act.put, List.setIfInBounds_toArray, List.set_cons_succ, List.set_cons_zero]
          repeat (go_big_quiet_step (fail))
          with_reducible refine wpQuiet_nil ?_
          refine st_branch [2] (by kernel_rfl) (branch_cons (by simp only [List.getElem?_toArray, List.getElem?_cons_succ, List.getElem?_cons_zero]; rfl) ?_ branch_nil)
          refine eff_done_s rfl (by simp [go_sem, z0, z1, z2, z3, z4, z5, z6, z7, z8, cf]; rfl) ?hS1 ?_
          case hS1 => exact (by constructor <;> repeat (first | (with_reducible exact HA) | (with_reducible exact HB) | (with_reducible refine AtF.drew ?_) | (with_reducible refine AtF.other ?_ (by omega) _ _)))
          try simp only [List.nil_append, List.cons_append, Act.put, List.setIfInBounds_toArray, List.set_cons_succ, List.set_cons_zero]
          refine st_end (by kernel_rfl) ?_
          simp only [List.drop_succ_cons, List.drop_zero, List.drop_nil]
          skip
          clear ra0 ra1 ra2 ra3 ra4 ra5 ra6 ra7 ra8 rb0 rb1 rb2 rb3 rb4 rb5 rb6 rb7 rb8 nnS NFS
          go_wp2
          have H3 := H2.fin [.int .i64 i1, .int .i64 t1, .int .i64 k1, .int .i64 s1, .int .i64 n1, .string d1, .bool f1, .slice (some ⟨A1, 0, none⟩) l1 c1, .int .i64 m1] [.int .i64 i2, .int .i64 t1, .int .i64 k1, .int .i64 s2, .int .i64 n2, .string d2, .bool f1, .slice (some ⟨A2, 0, none⟩) l2 c2, .int .i64 m2] rfl rfl
          have g1 := H3.1.drew
          have g2 := H3.2.1.drew
          have g5 := H3.2.2.2.2.drew
          clear z0 z1 z2 z3 z4 z5 z6 z7 z8 u0 u1 u2 u3 u4 u5 u6 u7 u8
          have z0 := (g1).1.2 0 _ rfl
          have z1 := (g1).1.2 1 _ rfl
          have z2 := (g1).1.2 2 _ rfl
          have z3 := (g1).1.2 3 _ rfl
          have z4 := (g1).1.2 4 _ rfl
          have z5 := (g1).1.2 5 _ rfl
          have z6 := (g1).1.2 6 _ rfl
          have z7 := (g1).1.2 7 _ rfl
          have z8 := (g1).1.2 8 _ rfl
          have u0 := (g2).1.2 0 _ rfl
          have u1 := (g2).1.2 1 _ rfl
          have u2 := (g2).1.2 2 _ rfl
          have u3 := (g2).1.2 3 _ rfl
          have u4 := (g2).1.2 4 _ rfl
          have u5 := (g2).1.2 5 _ rfl
          have u6 := (g2).1.2 6 _ rfl
          have u7 := (g2).1.2 7 _ rfl
          have u8 := (g2).1.2 8 _ rfl
          exact bodyPost_ret (v := .tuple #[.agg #[.int .i64 i1, .int .i64 t1, .int .i64 k1, .int .i64 s1, .int .i64 n1, .string d1, .bool f1, .slice (some ⟨A1, 0, none⟩) l1 c1, .int .i64 m1], .agg #[.int .i64 i2, .int .i64 t1, .int .i64 k1, .int .i64 s2, .int .i64 n2, .string d2, .bool f1, .slice (some ⟨A2, 0, none⟩) l2 c2, .int .i64 m2]])
            (by simp only [setRow] at z0 z1 z2 z3 z4 z5 z6 z7 z8 u0 u1 u2 u3 u4 u5 u6 u7 u8; simp [results, Try.results21, go_sem, z0, z1, z2, z3, z4, z5, z6, z7, z8, u0, u1, u2, u3, u4, u5, u6, u7, u8])
            rfl ⟨⟨⟨i1, t1, k1, s1, n1, d1, f1, some ⟨A1, 0, none⟩, l1, c1, m1⟩, _⟩, ⟨⟨i2, t1, k1, s2, n2, d2, f1, some ⟨A2, 0, none⟩, l2, c2, m2⟩, _⟩, rfl, H3.2.2.1.bel (Bel.drew (Bel.refl _)), H3.2.2.2.1.bel (Bel.drew (Bel.refl _)), g5⟩
  · skip
    have p0 := H0.a.1.2 0 _ rfl
    have q7 := H0.b.1.2 7 _ rfl
    have mf := H0.my2.2
    have ml := H0.my2.1.1
    have hyl := H0.yl
    simp only at hyl
    obtain ⟨z, rest, hzr⟩ : ∃ z rest, ms2 = z :: rest := by
      cases ms2 with
      | nil => simp at hyl
      | cons z rest => exact ⟨z, rest, rfl⟩
    have mc := H0.my2.1.2 0 (.int .i64 z.id) (by simp only [hzr]; rfl)
    have hl0 : (0 : Int) < (l2 : Int) := by omega
    obtain ⟨ms3, H1⟩ := H0.updM i1 HI1
    go_upto_region 14 with fail
    generalize World.setCell _ _ _ = W1 at H1 ⊢
    clear p0 q7 mf ml hyl hzr mc hl0 H0
    have q2 := H1.b.1.2 2 _ rfl
    have q4 := H1.b.1.2 4 _ rfl
    have q5 := H1.b.1.2 5 _ rfl
    have qf := H1.b.2
    have ql := H1.b.1.1
    by_cases hk : k2 = 1
    · have hkb : (k2 == 1) = true := by simpa using hk
      have H2 := H1.upd 5 (.string ⟨#[]⟩) ⟨i2, t2, k2, s2, n2, ⟨#[]⟩, f2, some ⟨A2, 0, none⟩, l2, c2, m2⟩ rfl (by omega) rfl rfl rfl (by show 0 ≤ maxLen; unfold maxLen; omega) rfl
      clear hk
      go_upto_region 18 with fail
      generalize World.setCell _ _ _ = W2 at H2 ⊢
      clear q2 q4 q5 qf ql H1
      let NFS : World → Prop := fun W' => AtF W' PA [.int .i64 i1, .int .i64 t1, .int .i64 k1, .int .i64 s1, .int .i64 n1, .string d1, .bool f1, .slice (some ⟨A1, 0, none⟩) l1 c1, .int .i64 m1] ∧ AtF W' (PA + 1) [.int .i64 i2, .int .i64 t2, .int .i64 k2, .int .i64 s2, .int .i64 n2, .string ⟨#[]⟩, .bool f2, .slice (some ⟨A2, 0, none⟩) l2 c2, .int .i64 m2]
      haveI nnS : Nonempty (InS NFS) := ⟨⟨W2, H2.a, H2.b⟩⟩
      have e4 := H2.n4
      have ra0 := fun (p : InS NFS) => p.h.1.1.2 0 _ rfl
      have rb0 := fun (p : InS NFS) => p.h.2.1.2 0 _ rfl
      have ra1 := fun (p : InS NFS) => p.h.1.1.2 1 _ rfl
      have rb1 := fun (p : InS NFS) => p.h.2.1.2 1 _ rfl
      have ra2 := fun (p : InS NFS) => p.h.1.1.2 2 _ rfl
      have rb2 := fun (p : InS NFS) => p.h.2.1.2 2 _ rfl
      have ra3 := fun (p : InS NFS) => p.h.1.1.2 3 _ rfl
      have rb3 := fun (p : InS NFS) => p.h.2.1.2 3 _ rfl
      have ra4 := fun (p : InS NFS) => p.h.1.1.2 4 _ rfl
      have rb4 := fun (p : InS NFS) => p.h.2.1.2 4 _ rfl
      have ra5 := fun (p : InS NFS) => p.h.1.1.2 5 _ rfl
      have rb5 := fun (p : InS NFS) => p.h.2.1.2 5 _ rfl
      have ra6 := fun (p : InS NFS) => p.h.1.1.2 6 _ rfl
      have rb6 := fun (p : InS NFS) => p.h.2.1.2 6 _ rfl
      have ra7 := fun (p : InS NFS) => p.h.1.1.2 7 _ rfl
      have rb7 := fun (p : InS NFS) => p.h.2.1.2 7 _ rfl
      have ra8 := fun (p : InS NFS) => p.h.1.1.2 8 _ rfl
      have rb8 := fun (p : InS NFS) => p.h.2.1.2 8 _ rfl
      have z0 := (H2.c).1.2 0 _ rfl
      have z1 := (H2.c).1.2 1 _ rfl
      have z2 := (H2.c).1.2 2 _ rfl
      have z3 := (H2.c).1.2 3 _ rfl
      have z4 := (H2.c).1.2 4 _ rfl
      have z5 := (H2.c).1.2 5 _ rfl
      have z6 := (H2.c).1.2 6 _ rfl
      have z7 := (H2.c).1.2 7 _ rfl
      have z8 := (H2.c).1.2 8 _ rfl
      have u0 := (H2.d).1.2 0 _ rfl
      have u1 := (H2.d).1.2 1 _ rfl
      have u2 := (H2.d).1.2 2 _ rfl
      have u3 := (H2.d).1.2 3 _ rfl
      have u4 := (H2.d).1.2 4 _ rfl
      have u5 := (H2.d).1.2 5 _ rfl
      have u6 := (H2.d).1.2 6 _ rfl
      have u7 := (H2.d).1.2 7 _ rfl
      have u8 := (H2.d).1.2 8 _ rfl
      have cf := H2.c.2
      have uf := H2.d.2
      have cl := H2.c.1.1
      have ul := H2.d.1.1
      have HA := H2.a
      have HB := H2.b
      refine wp_region_sts NFS [2] 3 (by kernel_rfl) (by kernel_rfl) ?hS0 ?_
      case hS0 => exact ⟨HA.drew, HB.drew⟩
      with_reducible refine st_sel [0, 1] (by kernel_rfl) (by kernel_rfl) ?_
      simp only [picked, List.getElem?_cons_succ, List.getElem?_cons_zero, Option.toList_some, List.nil_append, List.cons_append, List.append_nil]
      try simp only [Act.put, List.setIfInBounds_toArray, List.set_cons_succ, List.set_cons_zero]
      repeat (go_big_quiet_step (fail))
      with_reducible refine wpQuiet_nil ?_
      refine st_branch [2] (by kernel_rfl) (branch_cons (by simp only [List.getElem?_toArray, List.getElem?_cons_succ, List.getElem?_cons_zero]; rfl) ?_ branch_nil)
      refine eff_done_s rfl (by simp [go_sem, z0, z1, z2, z3, z4, z5, z6, z7, z8, cf]; rfl) ?hS1 ?_
      case hS1 => exact (by constructor <;> repeat (first | (with_reducible exact HA) | (with_reducible exact HB) | (with_reducible refine AtF.drew ?_) | (with_reducible refine AtF.other ?_ (by omega) _ _)))
      try simp only [List.nil_append, List.cons_append, Act.put, List.setIfInBounds_toArray, List.set_cons_succ, List.set_cons_zero]
      refine st_end (by kernel_rfl) ?_
      simp only [List.drop_succ_cons, List.drop_zero, List.drop_nil]
      skip
      clear ra0 ra1 ra2 ra3 ra4 ra5 ra6 ra7 ra8 rb0 rb1 rb2 rb3 rb4 rb5 rb6 rb7 rb8 nnS NFS
      go_wp2
      have H3 := H2.fin [.int .i64 i1, .int .i64 t1, .int .i64 k1, .int .i64 s1, .int .i64 n1, .string d1, .bool f1, .slice (some ⟨A1, 0, none⟩) l1 c1, .int .i64 m1] [.int .i64 i2, .int .i64 t2, .int .i64 k2, .int .i64 s2, .int .i64 n2, .string ⟨#[]⟩, .bool f2, .slice (some ⟨A2, 0, none⟩) l2 c2, .int .i64 m2] rfl rfl
      have g1 := H3.1.drew
      have g2 := H3.2.1.drew
      have g5 := H3.2.2.2.2.drew
      clear z0 z1 z2 z3 z4 z5 z6 z7 z8 u0 u1 u2 u3 u4 u5 u6 u7 u8
      have z0 := (g1).1.2 0 _ rfl
      have z1 := (g1).1.2 1 _ rfl
      have z2 := (g1).1.2 2 _ rfl
      have z3 := (g1).1.2 3 _ rfl
      have z4 := (g1).1.2 4 _ rfl
      have z5 := (g1).1.2 5 _ rfl
      have z6 := (g1).1.2 6 _ rfl
      have z7 := (g1).1.2 7 _ rfl
      have z8 := (g1).1.2 8 _ rfl
      have u0 := (g2).1.2 0 _ rfl
      have u1 := (g2).1.2 1 _ rfl
      have u2 := (g2).1.2 2 _ rfl
      have u3 := (g2).1.2 3 _ rfl
      have u4 := (g2).1.2 4 _ rfl
      have u5 := (g2).1.2 5 _ rfl
      have u6 := (g2).1.2 6 _ rfl
      have u7 := (g2).1.2 7 _ rfl
      have u8 := (g2).1.2 8 _ rfl
      exact bodyPost_ret (v := .tuple #[.agg #[.int .i64 i1, .int .i64 t1, .int .i64 k1, .int .i64 s1, .int .i64 n1, .string d1, .bool f1, .slice (some ⟨A1, 0, none⟩) l1 c1, .int .i64 m1], .agg #[.int .i64 i2, .int .i64 t2, .int .i64 k2, .int .i64 s2, .int .i64 n2, .string ⟨#[]⟩, .bool f2, .slice (some ⟨A2, 0, none⟩) l2 c2, .int .i64 m2]])
        (by simp only [setRow] at z0 z1 z2 z3 z4 z5 z6 z7 z8 u0 u1 u2 u3 u4 u5 u6 u7 u8; simp [results, Try.results21, go_sem, z0, z1, z2, z3, z4, z5, z6, z7, z8, u0, u1, u2, u3, u4, u5, u6, u7, u8])
        rfl ⟨⟨⟨i1, t1, k1, s1, n1, d1, f1, some ⟨A1, 0, none⟩, l1, c1, m1⟩, _⟩, ⟨⟨i2, t2, k2, s2, n2, ⟨#[]⟩, f2, some ⟨A2, 0, none⟩, l2, c2, m2⟩, _⟩, rfl, H3.2.2.1.bel (Bel.drew (Bel.refl _)), H3.2.2.2.1.bel (Bel.drew (Bel.refl _)), g5⟩
    · have hkb : (k2 == 1) = false := by simpa using hk
      clear hk
      rcases Bool.eq_false_or_eq_true d2.toList.isEmpty with hdb | hdb
      · go_wp2_with fail
        refine (HDT.out _).mono ?_; rintro e wd ⟨rfl, hbd⟩
        have H1' := H1.grow hbd
        have q5' := H1'.b.1.2 5 _ rfl
        have qf' := H1'.b.2
        have ql' := H1'.b.1.1
        have H2 := H1'.upd 5 (.string db) ⟨i2, t2, k2, s2, n2, db, f2, some ⟨A2, 0, none⟩, l2, c2, m2⟩ rfl (by omega) rfl rfl rfl hdz rfl
        clear q2 q4 q5 qf ql H1 hbd H1'
        go_upto_region 18 with fail
        generalize World.setCell _ _ _ = W2 at H2 ⊢
        clear q5' qf' ql'
        let NFS : World → Prop := fun W' => AtF W' PA [.int .i64 i1, .int .i64 t1, .int .i64 k1, .int .i64 s1, .int .i64 n1, .string d1, .bool f1, .slice (some ⟨A1, 0, none⟩) l1 c1, .int .i64 m1] ∧ AtF W' (PA + 1) [.int .i64 i2, .int .i64 t2, .int .i64 k2, .int .i64 s2, .int .i64 n2, .string db, .bool f2, .slice (some ⟨A2, 0, none⟩) l2 c2, .int .i64 m2]
        haveI nnS : Nonempty (InS NFS) := ⟨⟨W2, H2.a, H2.b⟩⟩
        have e4 := H2.n4
        have ra0 := fun (p : InS NFS) => p.h.1.1.2 0 _ rfl
        have rb0 := fun (p : InS NFS) => p.h.2.1.2 0 _ rfl
        have ra1 := fun (p : InS NFS) => p.h.1.1.2 1 _ rfl
        have rb1 := fun (p : InS NFS) => p.h.2.1.2 1 _ rfl
        have ra2 := fun (p : InS NFS) => p.h.1.1.2 2 _ rfl
        have rb2 := fun (p : InS NFS) => p.h.2.1.2 2 _ rfl
        have ra3 := fun (p : InS NFS) => p.h.1.1.2 3 _ rfl
        have rb3 := fun (p : InS NFS) => p.h.2.1.2 3 _ rfl
        have ra4 := fun (p : InS NFS) => p.h.1.1.2 4 _ rfl
        have rb4 := fun (p : InS NFS) => p.h.2.1.2 4 _ rfl
        have ra5 := fun (p : InS NFS) => p.h.1.1.2 5 _ rfl
        have rb5 := fun (p : InS NFS) => p.h.2.1.2 5 _ rfl
        have ra6 := fun (p : InS NFS) => p.h.1.1.2 6 _ rfl
        have rb6 := fun (p : InS NFS) => p.h.2.1.2 6 _ rfl
        have ra7 := fun (p : InS NFS) => p.h.1.1.2 7 _ rfl
        have rb7 := fun (p : InS NFS) => p.h.2.1.2 7 _ rfl
        have ra8 := fun (p : InS NFS) => p.h.1.1.2 8 _ rfl
        have rb8 := fun (p : InS NFS) => p.h.2.1.2 8 _ rfl
        have z0 := (H2.c).1.2 0 _ rfl
        have z1 := (H2.c).1.2 1 _ rfl
        have z2 := (H2.c).1.2 2 _ rfl
        have z3 := (H2.c).1.2 3 _ rfl
        have z4 := (H2.c).1.2 4 _ rfl
        have z5 := (H2.c).1.2 5 _ rfl
        have z6 := (H2.c).1.2 6 _ rfl
        have z7 := (H2.c).1.2 7 _ rfl
        have z8 := (H2.c).1.2 8 _ rfl
        have u0 := (H2.d).1.2 0 _ rfl
        have u1 := (H2.d).1.2 1 _ rfl
        have u2 := (H2.d).1.2 2 _ rfl
        have u3 := (H2.d).1.2 3 _ rfl
        have u4 := (H2.d).1.2 4 _ rfl
        have u5 := (H2.d).1.2 5 _ rfl
        have u6 := (H2.d).1.2 6 _ rfl
        have u7 := (H2.d).1.2 7 _ rfl
        have u8 := (H2.d).1.2 8 _ rfl
        have cf := H2.c.2
        have uf := H2.d.2
        have cl := H2.c.1.1
        have ul := H2.d.1.1
        have HA := H2.a
        have HB := H2.b
        refine wp_region_sts NFS [2] 3 (by kernel_rfl) (by kernel_rfl) ?hS0 ?_
        case hS0 => exact ⟨HA.drew, HB.drew⟩
        with_reducible refine st_sel [0, 1] (by kernel_rfl) (by kernel_rfl) ?_
        simp only [picked, List.getElem?_cons_succ, List.getElem?_cons_zero, Option.toList_some, List.nil_append, List.cons_append, List.append_nil]
        try simp only [Act.put, List.setIfInBounds_toArray, List.set_cons_succ, List.set_cons_zero]
        repeat (go_big_quiet_step (fail))
        with_reducible refine wpQuiet_nil ?_
        refine st_branch [2] (by kernel_rfl) (branch_cons (by simp only [List.getElem?_toArray, List.getElem?_cons_succ, List.getElem?_cons_zero]; rfl) ?_ branch_nil)
        refine eff_done_s rfl (by simp [go_sem, z0, z1, z2, z3, z4, z5, z6, z7, z8, cf]; rfl) ?hS1 ?_
        case hS1 => exact (by constructor <;> repeat (first | (with_reducible exact HA) | (with_reducible exact HB) | (with_reducible refine AtF.drew ?_) | (with_reducible refine AtF.other ?_ (by omega) _ _)))
        try simp only [List.nil_append, List.cons_append, Act.put, List.setIfInBounds_toArray, List.set_cons_succ, List.set_cons_zero]
        refine st_end (by kernel_rfl) ?_
        simp only [List.drop_succ_cons, List.drop_zero, List.drop_nil]
        skip
        clear ra0 ra1 ra2 ra3 ra4 ra5 ra6 ra7 ra8 rb0 rb1 rb2 rb3 rb4 rb5 rb6 rb7 rb8 nnS NFS
        go_wp2
        have H3 := H2.fin [.int .i64 i1, .int .i64 t1, .int .i64 k1, .int .i64 s1, .int .i64 n1, .string d1, .bool f1, .slice (some ⟨A1, 0, none⟩) l1 c1, .int .i64 m1] [.int .i64 i2, .int .i64 t2, .int .i64 k2, .int .i64 s2, .int .i64 n2, .string db, .bool f2, .slice (some ⟨A2, 0, none⟩) l2 c2, .int .i64 m2] rfl rfl
        have g1 := H3.1.drew
        have g2 := H3.2.1.drew
        have g5 := H3.2.2.2.2.drew
        clear z0 z1 z2 z3 z4 z5 z6 z7 z8 u0 u1 u2 u3 u4 u5 u6 u7 u8
        have z0 := (g1).1.2 0 _ rfl
        have z1 := (g1).1.2 1 _ rfl
        have z2 := (g1).1.2 2 _ rfl
        have z3 := (g1).1.2 3 _ rfl
        have z4 := (g1).1.2 4 _ rfl
        have z5 := (g1).1.2 5 _ rfl
        have z6 := (g1).1.2 6 _ rfl
        have z7 := (g1).1.2 7 _ rfl
        have z8 := (g1).1.2 8 _ rfl
        have u0 := (g2).1.2 0 _ rfl
        have u1 := (g2).1.2 1 _ rfl
        have u2 := (g2).1.2 2 _ rfl
        have u3 := (g2).1.2 3 _ rfl
        have u4 := (g2).1.2 4 _ rfl
        have u5 := (g2).1.2 5 _ rfl
        have u6 := (g2).1.2 6 _ rfl
        have u7 := (g2).1.2 7 _ rfl
        have u8 := (g2).1.2 8 _ rfl
        exact bodyPost_ret (v := .tuple #[.agg #[.int .i64 i1, .int .i64 t1, .int .i64 k1, .int .i64 s1, .int .i64 n1, .string d1, .bool f1, .slice (some ⟨A1, 0, none⟩) l1 c1, .int .i64 m1], .agg #[.int .i64 i2, .int .i64 t2, .int .i64 k2, .int .i64 s2, .int .i64 n2, .string db, .bool f2, .slice (some ⟨A2, 0, none⟩) l2 c2, .int .i64 m2]])
          (by simp only [setRow] at z0 z1 z2 z3 z4 z5 z6 z7 z8 u0 u1 u2 u3 u4 u5 u6 u7 u8; simp [results, Try.results21, go_sem, z0, z1, z2, z3, z4, z5, z6, z7, z8, u0, u1, u2, u3, u4, u5, u6, u7, u8])
          rfl ⟨⟨⟨i1, t1, k1, s1, n1, d1, f1, some ⟨A1, 0, none⟩, l1, c1, m1⟩, _⟩, ⟨⟨i2, t2, k2, s2, n2, db, f2, some ⟨A2, 0, none⟩, l2, c2, m2⟩, _⟩, rfl, H3.2.2.1.bel (Bel.drew (Bel.refl _)), H3.2.2.2.1.bel (Bel.drew (Bel.refl _)), g5⟩
      · go_upto_region 18 with fail
        clear q2 q4 q5 qf ql
        have H2 := H1
        clear H1
        obtain ⟨W2, rfl⟩ : ∃ W2, W2 = W1 := ⟨_, rfl⟩
        let NFS : World → Prop := fun W' => AtF W' PA [.int .i64 i1, .int .i64 t1, .int .i64 k1, .int .i64 s1, .int .i64 n1, .string d1, .bool f1, .slice (some ⟨A1, 0, none⟩) l1 c1, .int .i64 m1] ∧ AtF W' (PA + 1) [.int .i64 i2, .int .i64 t2, .int .i64 k2, .int .i64 s2, .int .i64 n2, .string d2, .bool f2, .slice (some ⟨A2, 0, none⟩) l2 c2, .int .i64 m2]
        haveI nnS : Nonempty (InS NFS) := ⟨⟨W2, H2.a, H2.b⟩⟩
        have e4 := H2.n4
        have ra0 := fun (p : InS NFS) => p.h.1.1.2 0 _ rfl
        have rb0 := fun (p : InS NFS) => p.h.2.1.2 0 _ rfl
        have ra1 := fun (p : InS NFS) => p.h.1.1.2 1 _ rfl
        have rb1 := fun (p : InS NFS) => p.h.2.1.2 1 _ rfl
        have ra2 := fun (p : InS NFS) => p.h.1.1.2 2 _ rfl
        have rb2 := fun (p : InS NFS) => p.h.2.1.2 2 _ rfl
        have ra3 := fun (p : InS NFS) => p.h.1.1.2 3 _ rfl
        have rb3 := fun (p : InS NFS) => p.h.2.1.2 3 _ rfl
        have ra4 := fun (p : InS NFS) => p.h.1.1.2 4 _ rfl
        have rb4 := fun (p : InS NFS) => p.h.2.1.2 4 _ rfl
        have ra5 := fun (p : InS NFS) => p.h.1.1.2 5 _ rfl
        have rb5 := fun (p : InS NFS) => p.h.2.1.2 5 _ rfl
        have ra6 := fun (p : InS NFS) => p.h.1.1.2 6 _ rfl
        have rb6 := fun (p : InS NFS) => p.h.2.1.2 6 _ rfl
        have ra7 := fun (p : InS NFS) => p.h.1.1.2 7 _ rfl
        have rb7 := fun (p : InS NFS) => p.h.2.1.2 7 _ rfl
        have ra8 := fun (p : InS NFS) => p.h.1.1.2 8 _ rfl
        have rb8 := fun (p : InS NFS) => p.h.2.1.2 8 _ rfl
        have z0 := (H2.c).1.2 0 _ rfl
        have z1 := (H2.c).1.2 1 _ rfl
        have z2 := (H2.c).1.2 2 _ rfl
        have z3 := (H2.c).1.2 3 _ rfl
        have z4 := (H2.c).1.2 4 _ rfl
        have z5 := (H2.c).1.2 5 _ rfl
        have z6 := (H2.c).1.2 6 _ rfl
        have z7 := (H2.c).1.2 7 _ rfl
        have z8 := (H2.c).1.2 8 _ rfl
        have u0 := (H2.d).1.2 0 _ rfl
        have u1 := (H2.d).1.2 1 _ rfl
        have u2 := (H2.d).1.2 2 _ rfl
        have u3 := (H2.d).1.2 3 _ rfl
        have u4 := (H2.d).1.2 4 _ rfl
        have u5 := (H2.d).1.2 5 _ rfl
        have u6 := (H2.d).1.2 6 _ rfl
        have u7 := (H2.d).1.2 7 _ rfl
        have u8 := (H2.d).1.2 8 _ rfl
        have cf := H2.c.2
        have uf := H2.d.2
        have cl := H2.c.1.1
        have ul := H2.d.1.1
        have HA := H2.a
        have HB := H2.b
        refine wp_region_sts NFS [2] 3 (by kernel_rfl) (by kernel_rfl) ?hS0 ?_
        case hS0 => exact ⟨HA.drew, HB.drew⟩
        with_reducible refine st_sel [0, 1] (by kernel_rfl) (by kernel_rfl) ?_
        simp only [picked, List.getElem?_cons_succ, List.getElem?_cons_zero, Option.toList_some, List.nil_append, List.cons_append, List.append_nil]
        try simp only [Act.put, List.setIfInBounds_toArray, List.set_cons_succ, List.set_cons_zero]
        repeat (go_big_quiet_step (fail))
        with_reducible refine wpQuiet_nil ?_
        refine st_branch [2] (by kernel_rfl) (branch_cons (by simp only [List.getElem?_toArray, List.getElem?_cons_succ, List.getElem?_cons_zero]; rfl) ?_ branch_nil)
        refine eff_done_s rfl (by simp [go_sem, z0, z1, z2, z3, z4, z5, z6, z7, z8, cf]; rfl) ?hS1 ?_
        case hS1 => exact (by constructor <;> repeat (first | (with_reducible exact HA) | (with_reducible exact HB) | (with_reducible refine AtF.drew ?_) | (with_reducible refine AtF.other ?_ (by omega) _ _)))
        try simp only [List.nil_append, List.cons_append, Act.put, List.setIfInBounds_toArray, List.set_cons_succ, List.set_cons_zero]
        refine st_end (by kernel_rfl) ?_
        simp only [List.drop_succ_cons, List.drop_zero, List.drop_nil]
        skip
        clear ra0 ra1 ra2 ra3 ra4 ra5 ra6 ra7 ra8 rb0 rb1 rb2 rb3 rb4 rb5 rb6 rb7 rb8 nnS NFS
        go_wp2
        have H3 := H2.fin [.int .i64 i1, .int .i64 t1, .int .i64 k1, .int .i64 s1, .int .i64 n1, .string d1, .bool f1, .slice (some ⟨A1, 0, none⟩) l1 c1, .int .i64 m1] [.int .i64 i2, .int .i64 t2, .int .i64 k2, .int .i64 s2, .int .i64 n2, .string d2, .bool f2, .slice (some ⟨A2, 0, none⟩) l2 c2, .int .i64 m2] rfl rfl
        have g1 := H3.1.drew
        have g2 := H3.2.1.drew
        have g5 := H3.2.2.2.2.drew
        clear z0 z1 z2 z3 z4 z5 z6 z7 z8 u0 u1 u2 u3 u4 u5 u6 u7 u8
        have z0 := (g1).1.2 0 _ rfl
        have z1 := (g1).1.2 1 _ rfl
        have z2 := (g1).1.2 2 _ rfl
        have z3 := (g1).1.2 3 _ rfl
        have z4 := (g1).1.2 4 _ rfl
        have z5 := (g1).1.2 5 _ rfl
        have z6 := (g1).1.2 6 _ rfl
        have z7 := (g1).1.2 7 _ rfl
        have z8 := (g1).1.2 8 _ rfl
        have u0 := (g2).1.2 0 _ rfl
        have u1 := (g2).1.2 1 _ rfl
        have u2 := (g2).1.2 2 _ rfl
        have u3 := (g2).1.2 3 _ rfl
        have u4 := (g2).1.2 4 _ rfl
        have u5 := (g2).1.2 5 _ rfl
        have u6 := (g2).1.2 6 _ rfl
        have u7 := (g2).1.2 7 _ rfl
        have u8 := (g2).1.2 8 _ rfl
        exact bodyPost_ret (v := .tuple #[.agg #[.int .i64 i1, .int .i64 t1, .int .i64 k1, .int .i64 s1, .int .i64 n1, .string d1, .bool f1, .slice (some ⟨A1, 0, none⟩) l1 c1, .int .i64 m1], .agg #[.int .i64 i2, .int .i64 t2, .int .i64 k2, .int .i64 s2, .int .i64 n2, .string d2, .bool f2, .slice (some ⟨A2, 0, none⟩) l2 c2, .int .i64 m2]])
          (by simp only [setRow] at z0 z1 z2 z3 z4 z5 z6 z7 z8 u0 u1 u2 u3 u4 u5 u6 u7 u8; simp [results, Try.results21, go_sem, z0, z1, z2, z3, z4, z5, z6, z7, z8, u0, u1, u2, u3, u4, u5, u6, u7, u8])
          rfl ⟨⟨⟨i1, t1, k1, s1, n1, d1, f1, some ⟨A1, 0, none⟩, l1, c1, m1⟩, _⟩, ⟨⟨i2, t2, k2, s2, n2, d2, f2, some ⟨A2, 0, none⟩, l2, c2, m2⟩, _⟩, rfl, H3.2.2.1.bel (Bel.drew (Bel.refl _)), H3.2.2.2.1.bel (Bel.drew (Bel.refl _)), g5⟩
  · skip
    go_upto_region 14 with fail
    obtain ⟨W1, rfl⟩ : ∃ W1, W1 = W := ⟨_, rfl⟩
    have H1 := H0
    clear H0
    have q2 := H1.b.1.2 2 _ rfl
    have q4 := H1.b.1.2 4 _ rfl
    have q5 := H1.b.1.2 5 _ rfl
    have qf := H1.b.2
    have ql := H1.b.1.1
    by_cases hk : k2 = 1
    · have hkb : (k2 == 1) = true := by simpa using hk
      have H2 := H1.upd 5 (.string ⟨#[]⟩) ⟨i2, t2, k2, s2, n2, ⟨#[]⟩, f2, some ⟨A2, 0, none⟩, l2, c2, m2⟩ rfl (by omega) rfl rfl rfl (by show 0 ≤ maxLen; unfold maxLen; omega) rfl
      clear hk
      go_upto_region 18 with fail
      generalize World.setCell _ _ _ = W2 at H2 ⊢
      clear q2 q4 q5 qf ql H1
      let NFS : World → Prop := fun W' => AtF W' PA [.int .i64 i1, .int .i64 t1, .int .i64 k1, .int .i64 s1, .int .i64 n1, .string d1, .bool f1, .slice (some ⟨A1, 0, none⟩) l1 c1, .int .i64 m1] ∧ AtF W' (PA + 1) [.int .i64 i2, .int .i64 t2, .int .i64 k2, .int .i64 s2, .int .i64 n2, .string ⟨#[]⟩, .bool f2, .slice (some ⟨A2, 0, none⟩) l2 c2, .int .i64 m2]
      haveI nnS : Nonempty (InS NFS) := ⟨⟨W2, H2.a, H2.b⟩⟩
      have e4 := H2.n4
      have ra0 := fun (p : InS NFS) => p.h.1.1.2 0 _ rfl
      have rb0 := fun (p : InS NFS) => p.h.2.1.2 0 _ rfl
      have ra1 := fun (p : InS NFS) => p.h.1.1.2 1 _ rfl
      have rb1 := fun (p : InS NFS) => p.h.2.1.2 1 _ rfl
      have ra2 := fun (p : InS NFS) => p.h.1.1.2 2 _ rfl
      have rb2 := fun (p : InS NFS) => p.h.2.1.2 2 _ rfl
      have ra3 := fun (p : InS NFS) => p.h.1.1.2 3 _ rfl
      have rb3 := fun (p : InS NFS) => p.h.2.1.2 3 _ rfl
      have ra4 := fun (p : InS NFS) => p.h.1.1.2 4 _ rfl
      have rb4 := fun (p : InS NFS) => p.h.2.1.2 4 _ rfl
      have ra5 := fun (p : InS NFS) => p.h.1.1.2 5 _ rfl
      have rb5 := fun (p : InS NFS) => p.h.2.1.2 5 _ rfl
      have ra6 := fun (p : InS NFS) => p.h.1.1.2 6 _ rfl
      have rb6 := fun (p : InS NFS) => p.h.2.1.2 6 _ rfl
      have ra7 := fun (p : InS NFS) => p.h.1.1.2 7 _ rfl
      have rb7 := fun (p : InS NFS) => p.h.2.1.2 7 _ rfl
      have ra8 := fun (p : InS NFS) => p.h.1.1.2 8 _ rfl
      have rb8 := fun (p : InS NFS) => p.h.2.1.2 8 _ rfl
      have z0 := (H2.c).1.2 0 _ rfl
      have z1 := (H2.c).1.2 1 _ rfl
      have z2 := (H2.c).1.2 2 _ rfl
      have z3 := (H2.c).1.2 3 _ rfl
      have z4 := (H2.c).1.2 4 _ rfl
      have z5 := (H2.c).1.2 5 _ rfl
      have z6 := (H2.c).1.2 6 _ rfl
      have z7 := (H2.c).1.2 7 _ rfl
      have z8 := (H2.c).1.2 8 _ rfl
      have u0 := (H2.d).1.2 0 _ rfl
      have u1 := (H2.d).1.2 1 _ rfl
      have u2 := (H2.d).1.2 2 _ rfl
      have u3 := (H2.d).1.2 3 _ rfl
      have u4 := (H2.d).1.2 4 _ rfl
      have u5 := (H2.d).1.2 5 _ rfl
      have u6 := (H2.d).1.2 6 _ rfl
      have u7 := (H2.d).1.2 7 _ rfl
      have u8 := (H2.d).1.2 8 _ rfl
      have cf := H2.c.2
      have uf := H2.d.2
      have cl := H2.c.1.1
      have ul := H2.d.1.1
      have HA := H2.a
      have HB := H2.b
      refine wp_region_sts NFS [2] 3 (by kernel_rfl) (by kernel_rfl) ?hS0 ?_
      case hS0 => exact ⟨HA.drew, HB.drew⟩
      with_reducible refine st_sel [0, 1] (by kernel_rfl) (by kernel_rfl) ?_
      simp only [picked, List.getElem?_cons_succ, List.getElem?_cons_zero, Option.toList_some, List.nil_append, List.cons_append, List.append_nil]
      try simp only [Act.put, List.setIfInBounds_toArray, List.set_cons_succ, List.set_cons_zero]
      repeat (go_big_quiet_step (fail))
      with_reducible refine wpQuiet_nil ?_
      refine st_branch [2] (by kernel_rfl) (branch_cons (by simp only [List.getElem?_toArray, List.getElem?_cons_succ, List.getElem?_cons_zero]; rfl) ?_ branch_nil)
      refine eff_done_s rfl (by simp [go_sem, z0, z1, z2, z3, z4, z5, z6, z7, z8, cf]; rfl) ?hS1 ?_
      case hS1 => exact (by constructor <;> repeat (first | (with_reducible exact HA) | (with_reducible exact HB) | (with_reducible refine AtF.drew ?_) | (with_reducible refine AtF.other ?_ (by omega) _ _)))
      try simp only [List.nil_append, List.cons_append, Act.put, List.setIfInBounds_toArray, List.set_cons_succ, List.set_cons_zero]
      refine st_end (by kernel_rfl) ?_
      simp only [List.drop_succ_cons, List.drop_zero, List.drop_nil]
      skip
      clear ra0 ra1 ra2 ra3 ra4 ra5 ra6 ra7 ra8 rb0 rb1 rb2 rb3 rb4 rb5 rb6 rb7 rb8 nnS NFS
      go_wp2
      have H3 := H2.fin [.int .i64 i1, .int .i64 t1, .int .i64 k1, .int .i64 s1, .int .i64 n1, .string d1, .bool f1, .slice (some ⟨A1, 0, none⟩) l1 c1, .int .i64 m1] [.int .i64 i2, .int .i64 t2, .int .i64 k2, .int .i64 s2, .int .i64 n2, .string ⟨#[]⟩, .bool f2, .slice (some ⟨A2, 0, none⟩) l2 c2, .int .i64 m2] rfl rfl
      have g1 := H3.1.drew
      have g2 := H3.2.1.drew
      have g5 := H3.2.2.2.2.drew
      clear z0 z1 z2 z3 z4 z5 z6 z7 z8 u0 u1 u2 u3 u4 u5 u6 u7 u8
      have z0 := (g1).1.2 0 _ rfl
      have z1 := (g1).1.2 1 _ rfl
      have z2 := (g1).1.2 2 _ rfl
      have z3 := (g1).1.2 3 _ rfl
      have z4 := (g1).1.2 4 _ rfl
      have z5 := (g1).1.2 5 _ rfl
      have z6 := (g1).1.2 6 _ rfl
      have z7 := (g1).1.2 7 _ rfl
      have z8 := (g1).1.2 8 _ rfl
      have u0 := (g2).1.2 0 _ rfl
      have u1 := (g2).1.2 1 _ rfl
      have u2 := (g2).1.2 2 _ rfl
      have u3 := (g2).1.2 3 _ rfl
      have u4 := (g2).1.2 4 _ rfl
      have u5 := (g2).1.2 5 _ rfl
      have u6 := (g2).1.2 6 _ rfl
      have u7 := (g2).1.2 7 _ rfl
      have u8 := (g2).1.2 8 _ rfl
      exact bodyPost_ret (v := .tuple #[.agg #[.int .i64 i1, .int .i64 t1, .int .i64 k1, .int .i64 s1, .int .i64 n1, .string d1, .bool f1, .slice (some ⟨A1, 0, none⟩) l1 c1, .int .i64 m1], .agg #[.int .i64 i2, .int .i64 t2, .int .i64 k2, .int .i64 s2, .int .i64 n2, .string ⟨#[]⟩, .bool f2, .slice (some ⟨A2, 0, none⟩) l2 c2, .int .i64 m2]])
        (by simp only [setRow] at z0 z1 z2 z3 z4 z5 z6 z7 z8 u0 u1 u2 u3 u4 u5 u6 u7 u8; simp [results, Try.results21, go_sem, z0, z1, z2, z3, z4, z5, z6, z7, z8, u0, u1, u2, u3, u4, u5, u6, u7, u8])
        rfl ⟨⟨⟨i1, t1, k1, s1, n1, d1, f1, some ⟨A1, 0, none⟩, l1, c1, m1⟩, _⟩, ⟨⟨i2, t2, k2, s2, n2, ⟨#[]⟩, f2, some ⟨A2, 0, none⟩, l2, c2, m2⟩, _⟩, rfl, H3.2.2.1.bel (Bel.drew (Bel.refl _)), H3.2.2.2.1.bel (Bel.drew (Bel.refl _)), g5⟩
    · have hkb : (k2 == 1) = false := by simpa using hk
      clear hk
      rcases Bool.eq_false_or_eq_true d2.toList.isEmpty with hdb | hdb
      · go_wp2_with fail
        refine (HDT.out _).mono ?_; rintro e wd ⟨rfl, hbd⟩
        have H1' := H1.grow hbd
        have q5' := H1'.b.1.2 5 _ rfl
        have qf' := H1'.b.2
        have ql' := H1'.b.1.1
        have H2 := H1'.upd 5 (.string db) ⟨i2, t2, k2, s2, n2, db, f2, some ⟨A2, 0, none⟩, l2, c2, m2⟩ rfl (by omega) rfl rfl rfl hdz rfl
        clear q2 q4 q5 qf ql H1 hbd H1'
        go_upto_region 18 with fail
        generalize World.setCell _ _ _ = W2 at H2 ⊢
        clear q5' qf' ql'
        let NFS : World → Prop := fun W' => AtF W' PA [.int .i64 i1, .int .i64 t1, .int .i64 k1, .int .i64 s1, .int .i64 n1, .string d1, .bool f1, .slice (some ⟨A1, 0, none⟩) l1 c1, .int .i64 m1] ∧ AtF W' (PA + 1) [.int .i64 i2, .int .i64 t2, .int .i64 k2, .int .i64 s2, .int .i64 n2, .string db, .bool f2, .slice (some ⟨A2, 0, none⟩) l2 c2, .int .i64 m2]
        haveI nnS : Nonempty (InS NFS) := ⟨⟨W2, H2.a, H2.b⟩⟩
        have e4 := H2.n4
        have ra0 := fun (p : InS NFS) => p.h.1.1.2 0 _ rfl
        have rb0 := fun (p : InS NFS) => p.h.2.1.2 0 _ rfl
        have ra1 := fun (p : InS NFS) => p.h.1.1.2 1 _ rfl
        have rb1 := fun (p : InS NFS) => p.h.2.1.2 1 _ rfl
        have ra2 := fun (p : InS NFS) => p.h.1.1.2 2 _ rfl
        have rb2 := fun (p : InS NFS) => p.h.2.1.2 2 _ rfl
        have ra3 := fun (p : InS NFS) => p.h.1.1.2 3 _ rfl
        have rb3 := fun (p : InS NFS) => p.h.2.1.2 3 _ rfl
        have ra4 := fun (p : InS NFS) => p.h.1.1.2 4 _ rfl
        have rb4 := fun (p : InS NFS) => p.h.2.1.2 4 _ rfl
        have ra5 := fun (p : InS NFS) => p.h.1.1.2 5 _ rfl
        have rb5 := fun (p : InS NFS) => p.h.2.1.2 5 _ rfl
        have ra6 := fun (p : InS NFS) => p.h.1.1.2 6 _ rfl
        have rb6 := fun (p : InS NFS) => p.h.2.1.2 6 _ rfl
        have ra7 := fun (p : InS NFS) => p.h.1.1.2 7 _ rfl
        have rb7 := fun (p : InS NFS) => p.h.2.1.2 7 _ rfl
        have ra8 := fun (p : InS NFS) => p.h.1.1.2 8 _ rfl
        have rb8 := fun (p : InS NFS) => p.h.2.1.2 8 _ rfl
        have z0 := (H2.c).1.2 0 _ rfl
        have z1 := (H2.c).1.2 1 _ rfl
        have z2 := (H2.c).1.2 2 _ rfl
        have z3 := (H2.c).1.2 3 _ rfl
        have z4 := (H2.c).1.2 4 _ rfl
        have z5 := (H2.c).1.2 5 _ rfl
        have z6 := (H2.c).1.2 6 _ rfl
        have z7 := (H2.c).1.2 7 _ rfl
        have z8 := (H2.c).1.2 8 _ rfl
        have u0 := (H2.d).1.2 0 _ rfl
        have u1 := (H2.d).1.2 1 _ rfl
        have u2 := (H2.d).1.2 2 _ rfl
        have u3 := (H2.d).1.2 3 _ rfl
        have u4 := (H2.d).1.2 4 _ rfl
        have u5 := (H2.d).1.2 5 _ rfl
        have u6 := (H2.d).1.2 6 _ rfl
        have u7 := (H2.d).1.2 7 _ rfl
        have u8 := (H2.d).1.2 8 _ rfl
        have cf := H2.c.2
        have uf := H2.d.2
        have cl := H2.c.1.1
        have ul := H2.d.1.1
        have HA := H2.a
        have HB := H2.b
        refine wp_region_sts NFS [2] 3 (by kernel_rfl) (by kernel_rfl) ?hS0 ?_
        case hS0 => exact ⟨HA.drew, HB.drew⟩
        with_reducible refine st_sel [0, 1] (by kernel_rfl) (by kernel_rfl) ?_
        simp only [picked, List.getElem?_cons_succ, List.getElem?_cons_zero, Option.toList_some, List.nil_append, List.cons_append, List.append_nil]
        try simp only [Act.put, List.setIfInBounds_toArray, List.set_cons_succ, List.set_cons_zero]
        repeat (go_big_quiet_step (fail))
        with_reducible refine wpQuiet_nil ?_
        refine st_branch [2] (by kernel_rfl) (branch_cons (by simp only [List.getElem?_toArray, List.getElem?_cons_succ, List.getElem?_cons_zero]; rfl) ?_ branch_nil)
        refine eff_done_s rfl (by simp [go_sem, z0, z1, z2, z3, z4, z5, z6, z7, z8, cf]; rfl) ?hS1 ?_
        case hS1 => exact (by constructor <;> repeat (first | (with_reducible exact HA) | (with_reducible exact HB) | (with_reducible refine AtF.drew ?_) | (with_reducible refine AtF.other ?_ (by omega) _ _)))
        try simp only [List.nil_append, List.cons_append, Act.put, List.setIfInBounds_toArray, List.set_cons_succ, List.set_cons_zero]
        refine st_end (by kernel_rfl) ?_
        simp only [List.drop_succ_cons, List.drop_zero, List.drop_nil]
        skip
        clear ra0 ra1 ra2 ra3 ra4 ra5 ra6 ra7 ra8 rb0 rb1 rb2 rb3 rb4 rb5 rb6 rb7 rb8 nnS NFS
        go_wp2
        have H3 := H2.fin [.int .i64 i1, .int .i64 t1, .int .i64 k1, .int .i64 s1, .int .i64 n1, .string d1, .bool f1, .slice (some ⟨A1, 0, none⟩) l1 c1, .int .i64 m1] [.int .i64 i2, .int .i64 t2, .int .i64 k2, .int .i64 s2, .int .i64 n2, .string db, .bool f2, .slice (some ⟨A2, 0, none⟩) l2 c2, .int .i64 m2] rfl rfl
        have g1 := H3.1.drew
        have g2 := H3.2.1.drew
        have g5 := H3.2.2.2.2.drew
        clear z0 z1 z2 z3 z4 z5 z6 z7 z8 u0 u1 u2 u3 u4 u5 u6 u7 u8
        have z0 := (g1).1.2 0 _ rfl
        have z1 := (g1).1.2 1 _ rfl
        have z2 := (g1).1.2 2 _ rfl
        have z3 := (g1).1.2 3 _ rfl
        have z4 := (g1).1.2 4 _ rfl
        have z5 := (g1).1.2 5 _ rfl
        have z6 := (g1).1.2 6 _ rfl
        have z7 := (g1).1.2 7 _ rfl
        have z8 := (g1).1.2 8 _ rfl
        have u0 := (g2).1.2 0 _ rfl
        have u1 := (g2).1.2 1 _ rfl
        have u2 := (g2).1.2 2 _ rfl
        have u3 := (g2).1.2 3 _ rfl
        have u4 := (g2).1.2 4 _ rfl
        have u5 := (g2).1.2 5 _ rfl
        have u6 := (g2).1.2 6 _ rfl
        have u7 := (g2).1.2 7 _ rfl
        have u8 := (g2).1.2 8 _ rfl
        exact bodyPost_ret (v := .tuple #[.agg #[.int .i64 i1, .int .i64 t1, .int .i64 k1, .int .i64 s1, .int .i64 n1, .string d1, .bool f1, .slice (some ⟨A1, 0, none⟩) l1 c1, .int .i64 m1], .agg #[.int .i64 i2, .int .i64 t2, .int .i64 k2, .int .i64 s2, .int .i64 n2, .string db, .bool f2, .slice (some ⟨A2, 0, none⟩) l2 c2, .int .i64 m2]])
          (by simp only [setRow] at z0 z1 z2 z3 z4 z5 z6 z7 z8 u0 u1 u2 u3 u4 u5 u6 u7 u8; simp [results, Try.results21, go_sem, z0, z1, z2, z3, z4, z5, z6, z7, z8, u0, u1, u2, u3, u4, u5, u6, u7, u8])
          rfl ⟨⟨⟨i1, t1, k1, s1, n1, d1, f1, some ⟨A1, 0, none⟩, l1, c1, m1⟩, _⟩, ⟨⟨i2, t2, k2, s2, n2, db, f2, some ⟨A2, 0, none⟩, l2, c2, m2⟩, _⟩, rfl, H3.2.2.1.bel (Bel.drew (Bel.refl _)), H3.2.2.2.1.bel (Bel.drew (Bel.refl _)), g5⟩
      · go_upto_region 18 with fail
        clear q2 q4 q5 qf ql
        have H2 := H1
        clear H1
        obtain ⟨W2, rfl⟩ : ∃ W2, W2 = W1 := ⟨_, rfl⟩
        let NFS : World → Prop := fun W' => AtF W' PA [.int .i64 i1, .int .i64 t1, .int .i64 k1, .int .i64 s1, .int .i64 n1, .string d1, .bool f1, .slice (some ⟨A1, 0, none⟩) l1 c1, .int .i64 m1] ∧ AtF W' (PA + 1) [.int .i64 i2, .int .i64 t2, .int .i64 k2, .int .i64 s2, .int .i64 n2, .string d2, .bool f2, .slice (some ⟨A2, 0, none⟩) l2 c2, .int .i64 m2]
        haveI nnS : Nonempty (InS NFS) := ⟨⟨W2, H2.a, H2.b⟩⟩
        have e4 := H2.n4
        have ra0 := fun (p : InS NFS) => p.h.1.1.2 0 _ rfl
        have rb0 := fun (p : InS NFS) => p.h.2.1.2 0 _ rfl
        have ra1 := fun (p : InS NFS) => p.h.1.1.2 1 _ rfl
        have rb1 := fun (p : InS NFS) => p.h.2.1.2 1 _ rfl
        have ra2 := fun (p : InS NFS) => p.h.1.1.2 2 _ rfl
        have rb2 := fun (p : InS NFS) => p.h.2.1.2 2 _ rfl
        have ra3 := fun (p : InS NFS) => p.h.1.1.2 3 _ rfl
        have rb3 := fun (p : InS NFS) => p.h.2.1.2 3 _ rfl
        have ra4 := fun (p : InS NFS) => p.h.1.1.2 4 _ rfl
        have rb4 := fun (p : InS NFS) => p.h.2.1.2 4 _ rfl
        have ra5 := fun (p : InS NFS) => p.h.1.1.2 5 _ rfl
        have rb5 := fun (p : InS NFS) => p.h.2.1.2 5 _ rfl
        have ra6 := fun (p : InS NFS) => p.h.1.1.2 6 _ rfl
        have rb6 := fun (p : InS NFS) => p.h.2.1.2 6 _ rfl
        have ra7 := fun (p : InS NFS) => p.h.1.1.2 7 _ rfl
        have rb7 := fun (p : InS NFS) => p.h.2.1.2 7 _ rfl
        have ra8 := fun (p : InS NFS) => p.h.1.1.2 8 _ rfl
        have rb8 := fun (p : InS NFS) => p.h.2.1.2 8 _ rfl
        have z0 := (H2.c).1.2 0 _ rfl
        have z1 := (H2.c).1.2 1 _ rfl
        have z2 := (H2.c).1.2 2 _ rfl
        have z3 := (H2.c).1.2 3 _ rfl
        have z4 := (H2.c).1.2 4 _ rfl
        have z5 := (H2.c).1.2 5 _ rfl
        have z6 := (H2.c).1.2 6 _ rfl
        have z7 := (H2.c).1.2 7 _ rfl
        have z8 := (H2.c).1.2 8 _ rfl
        have u0 := (H2.d).1.2 0 _ rfl
        have u1 := (H2.d).1.2 1 _ rfl
        have u2 := (H2.d).1.2 2 _ rfl
        have u3 := (H2.d).1.2 3 _ rfl
        have u4 := (H2.d).1.2 4 _ rfl
        have u5 := (H2.d).1.2 5 _ rfl
        have u6 := (H2.d).1.2 6 _ rfl
        have u7 := (H2.d).1.2 7 _ rfl
        have u8 := (H2.d).1.2 8 _ rfl
        have cf := H2.c.2
        have uf := H2.d.2
        have cl := H2.c.1.1
        have ul := H2.d.1.1
        have HA := H2.a
        have HB := H2.b
        refine wp_region_sts NFS [2] 3 (by kernel_rfl) (by kernel_rfl) ?hS0 ?_
        case hS0 => exact ⟨HA.drew, HB.drew⟩
        with_reducible refine st_sel [0, 1] (by kernel_rfl) (by kernel_rfl) ?_
        simp only [picked, List.getElem?_cons_succ, List.getElem?_cons_zero, Option.toList_some, List.nil_append, List.cons_append, List.append_nil]
        try simp only [Act.put, List.setIfInBounds_toArray, List.set_cons_succ, List.set_cons_zero]
        repeat (go_big_quiet_step (fail))
        with_reducible refine wpQuiet_nil ?_
        refine st_branch [2] (by kernel_rfl) (branch_cons (by simp only [List.getElem?_toArray, List.getElem?_cons_succ, List.getElem?_cons_zero]; rfl) ?_ branch_nil)
        refine eff_done_s rfl (by simp [go_sem, z0, z1, z2, z3, z4, z5, z6, z7, z8, cf]; rfl) ?hS1 ?_
        case hS1 => exact (by constructor <;> repeat (first | (with_reducible exact HA) | (with_reducible exact HB) | (with_reducible refine AtF.drew ?_) | (with_reducible refine AtF.other ?_ (by omega) _ _)))
        try simp only [List.nil_append, List.cons_append, Act.put, List.setIfInBounds_toArray, List.set_cons_succ, List.set_cons_zero]
        refine st_end (by kernel_rfl) ?_
        simp only [List.drop_succ_cons, List.drop_zero, List.drop_nil]
        skip
        clear ra0 ra1 ra2 ra3 ra4 ra5 ra6 ra7 ra8 rb0 rb1 rb2 rb3 rb4 rb5 rb6 rb7 rb8 nnS NFS
        go_wp2
        have H3 := H2.fin [.int .i64 i1, .int .i64 t1, .int .i64 k1, .int .i64 s1, .int .i64 n1, .string d1, .bool f1, .slice (some ⟨A1, 0, none⟩) l1 c1, .int .i64 m1] [.int .i64 i2, .int .i64 t2, .int .i64 k2, .int .i64 s2, .int .i64 n2, .string d2, .bool f2, .slice (some ⟨A2, 0, none⟩) l2 c2, .int .i64 m2] rfl rfl
        have g1 := H3.1.drew
        have g2 := H3.2.1.drew
        have g5 := H3.2.2.2.2.drew
        clear z0 z1 z2 z3 z4 z5 z6 z7 z8 u0 u1 u2 u3 u4 u5 u6 u7 u8
        have z0 := (g1).1.2 0 _ rfl
        have z1 := (g1).1.2 1 _ rfl
        have z2 := (g1).1.2 2 _ rfl
        have z3 := (g1).1.2 3 _ rfl
        have z4 := (g1).1.2 4 _ rfl
        have z5 := (g1).1.2 5 _ rfl
        have z6 := (g1).1.2 6 _ rfl
        have z7 := (g1).1.2 7 _ rfl
        have z8 := (g1).1.2 8 _ rfl
        have u0 := (g2).1.2 0 _ rfl
        have u1 := (g2).1.2 1 _ rfl
        have u2 := (g2).1.2 2 _ rfl
        have u3 := (g2).1.2 3 _ rfl
        have u4 := (g2).1.2 4 _ rfl
        have u5 := (g2).1.2 5 _ rfl
        have u6 := (g2).1.2 6 _ rfl
        have u7 := (g2).1.2 7 _ rfl
        have u8 := (g2).1.2 8 _ rfl
        exact bodyPost_ret (v := .tuple #[.agg #[.int .i64 i1, .int .i64 t1, .int .i64 k1, .int .i64 s1, .int .i64 n1, .string d1, .bool f1, .slice (some ⟨A1, 0, none⟩) l1 c1, .int .i64 m1], .agg #[.int .i64 i2, .int .i64 t2, .int .i64 k2, .int .i64 s2, .int .i64 n2, .string d2, .bool f2, .slice (some ⟨A2, 0, none⟩) l2 c2, .int .i64 m2]])
          (by simp only [setRow] at z0 z1 z2 z3 z4 z5 z6 z7 z8 u0 u1 u2 u3 u4 u5 u6 u7 u8; simp [results, Try.results21, go_sem, z0, z1, z2, z3, z4, z5, z6, z7, z8, u0, u1, u2, u3, u4, u5, u6, u7, u8])
          rfl ⟨⟨⟨i1, t1, k1, s1, n1, d1, f1, some ⟨A1, 0, none⟩, l1, c1, m1⟩, _⟩, ⟨⟨i2, t2, k2, s2, n2, d2, f2, some ⟨A2, 0, none⟩, l2, c2, m2⟩, _⟩, rfl, H3.2.2.1.bel (Bel.drew (Bel.refl _)), H3.2.2.2.1.bel (Bel.drew (Bel.refl _)), g5⟩
  · skip
    go_upto_region 14 with fail
    obtain ⟨W1, rfl⟩ : ∃ W1, W1 = W := ⟨_, rfl⟩
    have H1 := H0
    clear H0
    have q2 := H1.b.1.2 2 _ rfl
    have q4 := H1.b.1.2 4 _ rfl
    have q5 := H1.b.1.2 5 _ rfl
    have qf := H1.b.2
    have ql := H1.b.1.1
    by_cases hk : k2 = 1
    · have hkb : (k2 == 1) = true := by simpa using hk
      have H2 := H1.upd 5 (.string ⟨#[]⟩) ⟨i2, t2, k2, s2, n2, ⟨#[]⟩, f2, some ⟨A2, 0, none⟩, l2, c2, m2⟩ rfl (by omega) rfl rfl rfl (by show 0 ≤ maxLen; unfold maxLen; omega) rfl
      clear hk
      go_upto_region 18 with fail
      generalize World.setCell _ _ _ = W2 at H2 ⊢
      clear q2 q4 q5 qf ql H1
      let NFS : World → Prop := fun W' => AtF W' PA [.int .i64 i1, .int .i64 t1, .int .i64 k1, .int .i64 s1, .int .i64 n1, .string d1, .bool f1, .slice (some ⟨A1, 0, none⟩) l1 c1, .int .i64 m1] ∧ AtF W' (PA + 1) [.int .i64 i2, .int .i64 t2, .int .i64 k2, .int .i64 s2, .int .i64 n2, .string ⟨#[]⟩, .bool f2, .slice (some ⟨A2, 0, none⟩) l2 c2, .int .i64 m2]
      haveI nnS : Nonempty (InS NFS) := ⟨⟨W2, H2.a, H2.b⟩⟩
      have e4 := H2.n4
      have ra0 := fun (p : InS NFS) => p.h.1.1.2 0 _ rfl
      have rb0 := fun (p : InS NFS) => p.h.2.1.2 0 _ rfl
      have ra1 := fun (p : InS NFS) => p.h.1.1.2 1 _ rfl
      have rb1 := fun (p : InS NFS) => p.h.2.1.2 1 _ rfl
      have ra2 := fun (p : InS NFS) => p.h.1.1.2 2 _ rfl
      have rb2 := fun (p : InS NFS) => p.h.2.1.2 2 _ rfl
      have ra3 := fun (p : InS NFS) => p.h.1.1.2 3 _ rfl
      have rb3 := fun (p : InS NFS) => p.h.2.1.2 3 _ rfl
      have ra4 := fun (p : InS NFS) => p.h.1.1.2 4 _ rfl
      have rb4 := fun (p : InS NFS) => p.h.2.1.2 4 _ rfl
      have ra5 := fun (p : InS NFS) => p.h.1.1.2 5 _ rfl
      have rb5 := fun (p : InS NFS) => p.h.2.1.2 5 _ rfl
      have ra6 := fun (p : InS NFS) => p.h.1.1.2 6 _ rfl
      have rb6 := fun (p : InS NFS) => p.h.2.1.2 6 _ rfl
      have ra7 := fun (p : InS NFS) => p.h.1.1.2 7 _ rfl
      have rb7 := fun (p : InS NFS) => p.h.2.1.2 7 _ rfl
      have ra8 := fun (p : InS NFS) => p.h.1.1.2 8 _ rfl
      have rb8 := fun (p : InS NFS) => p.h.2.1.2 8 _ rfl
      have z0 := (H2.c).1.2 0 _ rfl
      have z1 := (H2.c).1.2 1 _ rfl
      have z2 := (H2.c).1.2 2 _ rfl
      have z3 := (H2.c).1.2 3 _ rfl
      have z4 := (H2.c).1.2 4 _ rfl
      have z5 := (H2.c).1.2 5 _ rfl
      have z6 := (H2.c).1.2 6 _ rfl
      have z7 := (H2.c).1.2 7 _ rfl
      have z8 := (H2.c).1.2 8 _ rfl
      have u0 := (H2.d).1.2 0 _ rfl
      have u1 := (H2.d).1.2 1 _ rfl
      have u2 := (H2.d).1.2 2 _ rfl
      have u3 := (H2.d).1.2 3 _ rfl
      have u4 := (H2.d).1.2 4 _ rfl
      have u5 := (H2.d).1.2 5 _ rfl
      have u6 := (H2.d).1.2 6 _ rfl
      have u7 := (H2.d).1.2 7 _ rfl
      have u8 := (H2.d).1.2 8 _ rfl
      have cf := H2.c.2
      have uf := H2.d.2
      have cl := H2.c.1.1
      have ul := H2.d.1.1
      have HA := H2.a
      have HB := H2.b
      refine wp_region_sts NFS [2] 3 (by kernel_rfl) (by kernel_rfl) ?hS0 ?_
      case hS0 => exact ⟨HA.drew, HB.drew⟩
      with_reducible refine st_sel [0, 1] (by kernel_rfl) (by kernel_rfl) ?_
      simp only [picked, List.getElem?_cons_succ, List.getElem?_cons_zero, Option.toList_some, List.nil_append, List.cons_append, List.append_nil]
      try simp only [Act.put, List.setIfInBounds_toArray, List.set_cons_succ, List.set_cons_zero]
      repeat (go_big_quiet_step (fail))
      with_reducible refine wpQuiet_nil ?_
      refine st_branch [2] (by kernel_rfl) (branch_cons (by simp only [List.getElem?_toArray, List.getElem?_cons_succ, List.getElem?_cons_zero]; rfl) ?_ branch_nil)
      refine eff_done_s rfl (by simp [go_sem, z0, z1, z2, z3, z4, z5, z6, z7, z8, cf]; rfl) ?hS1 ?_
      case hS1 => exact (by constructor <;> repeat (first | (with_reducible exact HA) | (with_reducible exact HB) | (with_reducible refine AtF.drew ?_) | (with_reducible refine AtF.other ?_ (by omega) _ _)))
      try simp only [List.nil_append, List.cons_append, Act.put, List.setIfInBounds_toArray, List.set_cons_succ, List.set_cons_zero]
      refine st_end (by kernel_rfl) ?_
      simp only [List.drop_succ_cons, List.drop_zero, List.drop_nil]
      skip
      clear ra0 ra1 ra2 ra3 ra4 ra5 ra6 ra7 ra8 rb0 rb1 rb2 rb3 rb4 rb5 rb6 rb7 rb8 nnS NFS
      go_wp2
      have H3 := H2.fin [.int .i64 i1, .int .i64 t1, .int .i64 k1, .int .i64 s1, .int .i64 n1, .string d1, .bool f1, .slice (some ⟨A1, 0, none⟩) l1 c1, .int .i64 m1] [.int .i64 i2, .int .i64 t2, .int .i64 k2, .int .i64 s2, .int .i64 n2, .string ⟨#[]⟩, .bool f2, .slice (some ⟨A2, 0, none⟩) l2 c2, .int .i64 m2] rfl rfl
      have g1 := H3.1.drew
      have g2 := H3.2.1.drew
      have g5 := H3.2.2.2.2.drew
      clear z0 z1 z2 z3 z4 z5 z6 z7 z8 u0 u1 u2 u3 u4 u5 u6 u7 u8
      have z0 := (g1).1.2 0 _ rfl
      have z1 := (g1).1.2 1 _ rfl
      have z2 := (g1).1.2 2 _ rfl
      have z3 := (g1).1.2 3 _ rfl
      have z4 := (g1).1.2 4 _ rfl
      have z5 := (g1).1.2 5 _ rfl
      have z6 := (g1).1.2 6 _ rfl
      have z7 := (g1).1.2 7 _ rfl
      have z8 := (g1).1.2 8 _ rfl
      have u0 := (g2).1.2 0 _ rfl
      have u1 := (g2).1.2 1 _ rfl
      have u2 := (g2).1.2 2 _ rfl
      have u3 := (g2).1.2 3 _ rfl
      have u4 := (g2).1.2 4 _ rfl
      have u5 := (g2).1.2 5 _ rfl
      have u6 := (g2).1.2 6 _ rfl
      have u7 := (g2).1.2 7 _ rfl
      have u8 := (g2).1.2 8 _ rfl
      exact bodyPost_ret (v := .tuple #[.agg #[.int .i64 i1, .int .i64 t1, .int .i64 k1, .int .i64 s1, .int .i64 n1, .string d1, .bool f1, .slice (some ⟨A1, 0, none⟩) l1 c1, .int .i64 m1], .agg #[.int .i64 i2, .int .i64 t2, .int .i64 k2, .int .i64 s2, .int .i64 n2, .string ⟨#[]⟩, .bool f2, .slice (some ⟨A2, 0, none⟩) l2 c2, .int .i64 m2]])
        (by simp only [setRow] at z0 z1 z2 z3 z4 z5 z6 z7 z8 u0 u1 u2 u3 u4 u5 u6 u7 u8; simp [results, Try.results21, go_sem, z0, z1, z2, z3, z4, z5, z6, z7, z8, u0, u1, u2, u3, u4, u5, u6, u7, u8])
        rfl ⟨⟨⟨i1, t1, k1, s1, n1, d1, f1, some ⟨A1, 0, none⟩, l1, c1, m1⟩, _⟩, ⟨⟨i2, t2, k2, s2, n2, ⟨#[]⟩, f2, some ⟨A2, 0, none⟩, l2, c2, m2⟩, _⟩, rfl, H3.2.2.1.bel (Bel.drew (Bel.refl _)), H3.2.2.2.1.bel (Bel.drew (Bel.refl _)), g5⟩
    · have hkb : (k2 == 1) = false := by simpa using hk
      clear hk
      rcases Bool.eq_false_or_eq_true d2.toList.isEmpty with hdb | hdb
      · go_wp2_with fail
        refine (HDT.out _).mono ?_; rintro e wd ⟨rfl, hbd⟩
        have H1' := H1.grow hbd
        have q5' := H1'.b.1.2 5 _ rfl
        have qf' := H1'.b.2
        have ql' := H1'.b.1.1
        have H2 := H1'.upd 5 (.string db) ⟨i2, t2, k2, s2, n2, db, f2, some ⟨A2, 0, none⟩, l2, c2, m2⟩ rfl (by omega) rfl rfl rfl hdz rfl
        clear q2 q4 q5 qf ql H1 hbd H1'
        go_upto_region 18 with fail
        generalize World.setCell _ _ _ = W2 at H2 ⊢
        clear q5' qf' ql'
        let NFS : World → Prop := fun W' => AtF W' PA [.int .i64 i1, .int .i64 t1, .int .i64 k1, .int .i64 s1, .int .i64 n1, .string d1, .bool f1, .slice (some ⟨A1, 0, none⟩) l1 c1, .int .i64 m1] ∧ AtF W' (PA + 1) [.int .i64 i2, .int .i64 t2, .int .i64 k2, .int .i64 s2, .int .i64 n2, .string db, .bool f2, .slice (some ⟨A2, 0, none⟩) l2 c2, .int .i64 m2]
        haveI nnS : Nonempty (InS NFS) := ⟨⟨W2, H2.a, H2.b⟩⟩
        have e4 := H2.n4
        have ra0 := fun (p : InS NFS) => p.h.1.1.2 0 _ rfl
        have rb0 := fun (p : InS NFS) => p.h.2.1.2 0 _ rfl
        have ra1 := fun (p : InS NFS) => p.h.1.1.2 1 _ rfl
        have rb1 := fun (p : InS NFS) => p.h.2.1.2 1 _ rfl
        have ra2 := fun (p : InS NFS) => p.h.1.1.2 2 _ rfl
        have rb2 := fun (p : InS NFS) => p.h.2.1.2 2 _ rfl
        have ra3 := fun (p : InS NFS) => p.h.1.1.2 3 _ rfl
        have rb3 := fun (p : InS NFS) => p.h.2.1.2 3 _ rfl
        have ra4 := fun (p : InS NFS) => p.h.1.1.2 4 _ rfl
        have rb4 := fun (p : InS NFS) => p.h.2.1.2 4 _ rfl
        have ra5 := fun (p : InS NFS) => p.h.1.1.2 5 _ rfl
        have rb5 := fun (p : InS NFS) => p.h.2.1.2 5 _ rfl
        have ra6 := fun (p : InS NFS) => p.h.1.1.2 6 _ rfl
        have rb6 := fun (p : InS NFS) => p.h.2.1.2 6 _ rfl
        have ra7 := fun (p : InS NFS) => p.h.1.1.2 7 _ rfl
        have rb7 := fun (p : InS NFS) => p.h.2.1.2 7 _ rfl
        have ra8 := fun (p : InS NFS) => p.h.1.1.2 8 _ rfl
        have rb8 := fun (p : InS NFS) => p.h.2.1.2 8 _ rfl
        have z0 := (H2.c).1.2 0 _ rfl
        have z1 := (H2.c).1.2 1 _ rfl
        have z2 := (H2.c).1.2 2 _ rfl
        have z3 := (H2.c).1.2 3 _ rfl
        have z4 := (H2.c).1.2 4 _ rfl
        have z5 := (H2.c).1.2 5 _ rfl
        have z6 := (H2.c).1.2 6 _ rfl
        have z7 := (H2.c).1.2 7 _ rfl
        have z8 := (H2.c).1.2 8 _ rfl
        have u0 := (H2.d).1.2 0 _ rfl
        have u1 := (H2.d).1.2 1 _ rfl
        have u2 := (H2.d).1.2 2 _ rfl
        have u3 := (H2.d).1.2 3 _ rfl
        have u4 := (H2.d).1.2 4 _ rfl
        have u5 := (H2.d).1.2 5 _ rfl
        have u6 := (H2.d).1.2 6 _ rfl
        have u7 := (H2.d).1.2 7 _ rfl
        have u8 := (H2.d).1.2 8 _ rfl
        have cf := H2.c.2
        have uf := H2.d.2
        have cl := H2.c.1.1
        have ul := H2.d.1.1
        have HA := H2.a
        have HB := H2.b
        refine wp_region_sts NFS [2] 3 (by kernel_rfl) (by kernel_rfl) ?hS0 ?_
        case hS0 => exact ⟨HA.drew, HB.drew⟩
        with_reducible refine st_sel [0, 1] (by kernel_rfl) (by kernel_rfl) ?_
        simp only [picked, List.getElem?_cons_succ, List.getElem?_cons_zero, Option.toList_some, List.nil_append, List.cons_append, List.append_nil]
        try simp only [Act.put, List.setIfInBounds_toArray, List.set_cons_succ, List.set_cons_zero]
        repeat (go_big_quiet_step (fail))
        with_reducible refine wpQuiet_nil ?_
        refine st_branch [2] (by kernel_rfl) (branch_cons (by simp only [List.getElem?_toArray, List.getElem?_cons_succ, List.getElem?_cons_zero]; rfl) ?_ branch_nil)
        refine eff_done_s rfl (by simp [go_sem, z0, z1, z2, z3, z4, z5, z6, z7, z8, cf]; rfl) ?hS1 ?_
        case hS1 => exact (by constructor <;> repeat (first | (with_reducible exact HA) | (with_reducible exact HB) | (with_reducible refine AtF.drew ?_) | (with_reducible refine AtF.other ?_ (by omega) _ _)))
        try simp only [List.nil_append, List.cons_append, Act.put, List.setIfInBounds_toArray, List.set_cons_succ, List.set_cons_zero]
        refine st_end (by kernel_rfl) ?_
        simp only [List.drop_succ_cons, List.drop_zero, List.drop_nil]
        skip
        clear ra0 ra1 ra2 ra3 ra4 ra5 ra6 ra7 ra8 rb0 rb1 rb2 rb3 rb4 rb5 rb6 rb7 rb8 nnS NFS
        go_wp2
        have H3 := H2.fin [.int .i64 i1, .int .i64 t1, .int .i64 k1, .int .i64 s1, .int .i64 n1, .string d1, .bool f1, .slice (some ⟨A1, 0, none⟩) l1 c1, .int .i64 m1] [.int .i64 i2, .int .i64 t2, .int .i64 k2, .int .i64 s2, .int .i64 n2, .string db, .bool f2, .slice (some ⟨A2, 0, none⟩) l2 c2, .int .i64 m2] rfl rfl
        have g1 := H3.1.drew
        have g2 := H3.2.1.drew
        have g5 := H3.2.2.2.2.drew
        clear z0 z1 z2 z3 z4 z5 z6 z7 z8 u0 u1 u2 u3 u4 u5 u6 u7 u8
        have z0 := (g1).1.2 0 _ rfl
        have z1 := (g1).1.2 1 _ rfl
        have z2 := (g1).1.2 2 _ rfl
        have z3 := (g1).1.2 3 _ rfl
        have z4 := (g1).1.2 4 _ rfl
        have z5 := (g1).1.2 5 _ rfl
        have z6 := (g1).1.2 6 _ rfl
        have z7 := (g1).1.2 7 _ rfl
        have z8 := (g1).1.2 8 _ rfl
        have u0 := (g2).1.2 0 _ rfl
        have u1 := (g2).1.2 1 _ rfl
        have u2 := (g2).1.2 2 _ rfl
        have u3 := (g2).1.2 3 _ rfl
        have u4 := (g2).1.2 4 _ rfl
        have u5 := (g2).1.2 5 _ rfl
        have u6 := (g2).1.2 6 _ rfl
        have u7 := (g2).1.2 7 _ rfl
        have u8 := (g2).1.2 8 _ rfl
        exact bodyPost_ret (v := .tuple #[.agg #[.int .i64 i1, .int .i64 t1, .int .i64 k1, .int .i64 s1, .int .i64 n1, .string d1, .bool f1, .slice (some ⟨A1, 0, none⟩) l1 c1, .int .i64 m1], .agg #[.int .i64 i2, .int .i64 t2, .int .i64 k2, .int .i64 s2, .int .i64 n2, .string db, .bool f2, .slice (some ⟨A2, 0, none⟩) l2 c2, .int .i64 m2]])
          (by simp only [setRow] at z0 z1 z2 z3 z4 z5 z6 z7 z8 u0 u1 u2 u3 u4 u5 u6 u7 u8; simp [results, Try.results21, go_sem, z0, z1, z2, z3, z4, z5, z6, z7, z8, u0, u1, u2, u3, u4, u5, u6, u7, u8])
          rfl ⟨⟨⟨i1, t1, k1, s1, n1, d1, f1, some ⟨A1, 0, none⟩, l1, c1, m1⟩, _⟩, ⟨⟨i2, t2, k2, s2, n2, db, f2, some ⟨A2, 0, none⟩, l2, c2, m2⟩, _⟩, rfl, H3.2.2.1.bel (Bel.drew (Bel.refl _)), H3.2.2.2.1.bel (Bel.drew (Bel.refl _)), g5⟩
      · go_upto_region 18 with fail
        clear q2 q4 q5 qf ql
        have H2 := H1
        clear H1
        obtain ⟨W2, rfl⟩ : ∃ W2, W2 = W1 := ⟨_, rfl⟩
        let NFS : World → Prop := fun W' => AtF W' PA [.int .i64 i1, .int .i64 t1, .int .i64 k1, .int .i64 s1, .int .i64 n1, .string d1, .bool f1, .slice (some ⟨A1, 0, none⟩) l1 c1, .int .i64 m1] ∧ AtF W' (PA + 1) [.int .i64 i2, .int .i64 t2, .int .i64 k2, .int .i64 s2, .int .i64 n2, .string d2, .bool f2, .slice (some ⟨A2, 0, none⟩) l2 c2, .int .i64 m2]
        haveI nnS : Nonempty (InS NFS) := ⟨⟨W2, H2.a, H2.b⟩⟩
        have e4 := H2.n4
        have ra0 := fun (p : InS NFS) => p.h.1.1.2 0 _ rfl
        have rb0 := fun (p : InS NFS) => p.h.2.1.2 0 _ rfl
        have ra1 := fun (p : InS NFS) => p.h.1.1.2 1 _ rfl
        have rb1 := fun (p : InS NFS) => p.h.2.1.2 1 _ rfl
        have ra2 := fun (p : InS NFS) => p.h.1.1.2 2 _ rfl
        have rb2 := fun (p : InS NFS) => p.h.2.1.2 2 _ rfl
        have ra3 := fun (p : InS NFS) => p.h.1.1.2 3 _ rfl
        have rb3 := fun (p : InS NFS) => p.h.2.1.2 3 _ rfl
        have ra4 := fun (p : InS NFS) => p.h.1.1.2 4 _ rfl
        have rb4 := fun (p : InS NFS) => p.h.2.1.2 4 _ rfl
        have ra5 := fun (p : InS NFS) => p.h.1.1.2 5 _ rfl
        have rb5 := fun (p : InS NFS) => p.h.2.1.2 5 _ rfl
        have ra6 := fun (p : InS NFS) => p.h.1.1.2 6 _ rfl
        have rb6 := fun (p : InS NFS) => p.h.2.1.2 6 _ rfl
        have ra7 := fun (p : InS NFS) => p.h.1.1.2 7 _ rfl
        have rb7 := fun (p : InS NFS) => p.h.2.1.2 7 _ rfl
        have ra8 := fun (p : InS NFS) => p.h.1.1.2 8 _ rfl
        have rb8 := fun (p : InS NFS) => p.h.2.1.2 8 _ rfl
        have z0 := (H2.c).1.2 0 _ rfl
        have z1 := (H2.c).1.2 1 _ rfl
        have z2 := (H2.c).1.2 2 _ rfl
        have z3 := (H2.c).1.2 3 _ rfl
        have z4 := (H2.c).1.2 4 _ rfl
        have z5 := (H2.c).1.2 5 _ rfl
        have z6 := (H2.c).1.2 6 _ rfl
        have z7 := (H2.c).1.2 7 _ rfl
        have z8 := (H2.c).1.2 8 _ rfl
        have u0 := (H2.d).1.2 0 _ rfl
        have u1 := (H2.d).1.2 1 _ rfl
        have u2 := (H2.d).1.2 2 _ rfl
        have u3 := (H2.d).1.2 3 _ rfl
        have u4 := (H2.d).1.2 4 _ rfl
        have u5 := (H2.d).1.2 5 _ rfl
        have u6 := (H2.d).1.2 6 _ rfl
        have u7 := (H2.d).1.2 7 _ rfl
        have u8 := (H2.d).1.2 8 _ rfl
        have cf := H2.c.2
        have uf := H2.d.2
        have cl := H2.c.1.1
        have ul := H2.d.1.1
        have HA := H2.a
        have HB := H2.b
        refine wp_region_sts NFS [2] 3 (by kernel_rfl) (by kernel_rfl) ?hS0 ?_
        case hS0 => exact ⟨HA.drew, HB.drew⟩
        with_reducible refine st_sel [0, 1] (by kernel_rfl) (by kernel_rfl) ?_
        simp only [picked, List.getElem?_cons_succ, List.getElem?_cons_zero, Option.toList_some, List.nil_append, List.cons_append, List.append_nil]
        try simp only [Act.put, List.setIfInBounds_toArray, List.set_cons_succ, List.set_cons_zero]
        repeat (go_big_quiet_step (fail))
        with_reducible refine wpQuiet_nil ?_
        refine st_branch [2] (by kernel_rfl) (branch_cons (by simp only [List.getElem?_toArray, List.getElem?_cons_succ, List.getElem?_cons_zero]; rfl) ?_ branch_nil)
        refine eff_done_s rfl (by simp [go_sem, z0, z1, z2, z3, z4, z5, z6, z7, z8, cf]; rfl) ?hS1 ?_
        case hS1 => exact (by constructor <;> repeat (first | (with_reducible exact HA) | (with_reducible exact HB) | (with_reducible refine AtF.drew ?_) | (with_reducible refine AtF.other ?_ (by omega) _ _)))
        try simp only [List.nil_append, List.cons_append, Act.put, List.setIfInBounds_toArray, List.set_cons_succ, List.set_cons_zero]
        refine st_end (by kernel_rfl) ?_
        simp only [List.drop_succ_cons, List.drop_zero, List.drop_nil]
        skip
        clear ra0 ra1 ra2 ra3 ra4 ra5 ra6 ra7 ra8 rb0 rb1 rb2 rb3 rb4 rb5 rb6 rb7 rb8 nnS NFS
        go_wp2
        have H3 := H2.fin [.int .i64 i1, .int .i64 t1, .int .i64 k1, .int .i64 s1, .int .i64 n1, .string d1, .bool f1, .slice (some ⟨A1, 0, none⟩) l1 c1, .int .i64 m1] [.int .i64 i2, .int .i64 t2, .int .i64 k2, .int .i64 s2, .int .i64 n2, .string d2, .bool f2, .slice (some ⟨A2, 0, none⟩) l2 c2, .int .i64 m2] rfl rfl
        have g1 := H3.1.drew
        have g2 := H3.2.1.drew
        have g5 := H3.2.2.2.2.drew
        clear z0 z1 z2 z3 z4 z5 z6 z7 z8 u0 u1 u2 u3 u4 u5 u6 u7 u8
        have z0 := (g1).1.2 0 _ rfl
        have z1 := (g1).1.2 1 _ rfl
        have z2 := (g1).1.2 2 _ rfl
        have z3 := (g1).1.2 3 _ rfl
        have z4 := (g1).1.2 4 _ rfl
        have z5 := (g1).1.2 5 _ rfl
        have z6 := (g1).1.2 6 _ rfl
        have z7 := (g1).1.2 7 _ rfl
        have z8 := (g1).1.2 8 _ rfl
        have u0 := (g2).1.2 0 _ rfl
        have u1 := (g2).1.2 1 _ rfl
        have u2 := (g2).1.2 2 _ rfl
        have u3 := (g2).1.2 3 _ rfl
        have u4 := (g2).1.2 4 _ rfl
        have u5 := (g2).1.2 5 _ rfl
        have u6 := (g2).1.2 6 _ rfl
        have u7 := (g2).1.2 7 _ rfl
        have u8 := (g2).1.2 8 _ rfl
        exact bodyPost_ret (v := .tuple #[.agg #[.int .i64 i1, .int .i64 t1, .int .i64 k1, .int .i64 s1, .int .i64 n1, .string d1, .bool f1, .slice (some ⟨A1, 0, none⟩) l1 c1, .int .i64 m1], .agg #[.int .i64 i2, .int .i64 t2, .int .i64 k2, .int .i64 s2, .int .i64 n2, .string d2, .bool f2, .slice (some ⟨A2, 0, none⟩) l2 c2, .int .i64 m2]])
          (by simp only [setRow] at z0 z1 z2 z3 z4 z5 z6 z7 z8 u0 u1 u2 u3 u4 u5 u6 u7 u8; simp [results, Try.results21, go_sem, z0, z1, z2, z3, z4, z5, z6, z7, z8, u0, u1, u2, u3, u4, u5, u6, u7, u8])
          rfl ⟨⟨⟨i1, t1, k1, s1, n1, d1, f1, some ⟨A1, 0, none⟩, l1, c1, m1⟩, _⟩, ⟨⟨i2, t2, k2, s2, n2, d2, f2, some ⟨A2, 0, none⟩, l2, c2, m2⟩, _⟩, rfl, H3.2.2.1.bel (Bel.drew (Bel.refl _)), H3.2.2.2.1.bel (Bel.drew (Bel.refl _)), g5⟩
end Go.Proofs.Ytbijfmpmgmfpgaa
