/- Lemmas and walks that the statements share, part K9. -/
import Derived.Test.YtpgjbocjhconoaaGreatK7
import Derived.Test.YtpgjbocjhconoaaGreatK8
import Derived.Deep.DeepCutAuto
/- elevator.Add. -/
namespace Go.Proofs.YtpgjbocjhconoaaGreat
open Go.RowKit Go.Maps
set_option linter.unusedSimpArgs false

open Go.Sort in
theorem wpQuiet_pure {P : Program} {ops : Array Oper} {C : World → Prop} {rest : List Oper} {o : Oper} {a : Act} {Q : Act → Prop} (hgd : o.guard = none) (v : Value) (hr : ∀ w, (execOp a.eval o).run P w = .ok (.value v) w)
    (h : wpQuiet P ops C Q rest (a.put o.dst v)) : wpQuiet P ops C Q (o :: rest) a := by
  unfold wpQuiet
  have hw : Region.wanted o (yielded ops a.tmps) = true := by simp [Region.wanted, hgd]
  rw [if_pos hw]
  refine ⟨v, fun w' _ => ?_, h⟩
  unfold Oper.quietAt
  rw [hr w']
  exact ⟨rfl, rfl⟩
theorem addE_none {M B : Int} {E : El} {b : Bu} {S : List (Int × Int) × Int × Bool} (hok : okU b = true ∧ 0 ≤ b.ten ∧ b.ten < 4) (hp : partP M B E.knd b E.en = none) (hs : stampB E.vt E.fl b.ten b.cnt = S) :
    addE M B E b = if S.2.2 then ({E with fl := S.1, en := E.en ++ [⟨b, dueU E.rdE E.wrE b, S.2.1, 0⟩]}, true) else (E, false) := by
  subst hs
  unfold addE
  rw [if_pos hok, hp]
theorem addE_some {M B : Int} {E : El} {b : Bu} {i : Nat} {a : Qu} {G : List (Int × Int) × Int × Bool} (hok : okU b = true ∧ 0 ≤ b.ten ∧ b.ten < 4) (hp : partP M B E.knd b E.en = some i) (ha : E.en[i]? = some a) (hs : growB E.vt E.fl b.ten b.cnt = G) :
    addE M B E b = if G.2.2 then ({E with fl := G.1, en := E.en.set i ⟨joinU a.u b (canU M B a.u b), min a.due (dueU E.rdE E.wrE b), a.sta, a.tri⟩}, true) else (E, false) := by
  subst hs
  unfold addE
  rw [if_pos hok, hp]
  simp only [ha]
theorem advB_len2 (V : Int) (fs : List (Int × Int)) (t c : Int) (st : Int → Int → Int) : (advB V fs t c st).1.length = fs.length := by
  unfold advB; split
  · split <;> simp
  · rfl

set_option maxRecDepth 100000 in
set_option maxHeartbeats 8000000 in
theorem elAdd_any (M B knd rd wt V hd : Int) (fl bu en : Value) (fs : List (Int × Int)) (bs : List Bk) (L : List QM) (y : BM) (w : World) (hf : Rd w fl 2 fs.length (fcells fs)) (hb : Rd w bu 4 bs.length (bkc bs)) (he : QL w en L) (hy : Mems w y.b y.ms)
    (hfn : fs.length ≤ 1000) (hbn : bs.length ≤ 1000) (hn : L.length ≤ 100) (hms : ∀ x ∈ L, x.ms.length ≤ 1000) (hym : y.ms.length ≤ 1000) :
    Calls Tryz.prog 8 #[.agg #[.int .i64 M, .int .i64 B], .agg #[.int .i64 knd, .int .i64 rd, .int .i64 wt, .int .i64 V, fl, bu, en, .int .i64 hd], .agg #[.int .i64 (y.b).id, .int .i64 (y.b).ten, .int .i64 (y.b).knd, .int .i64 (y.b).sec, .int .i64 (y.b).cnt, .string (y.b).dat, .bool (y.b).fua, .slice (y.b).mA (y.b).mL (y.b).mC, .int .i64 (y.b).tim]] w fun e w' => ∃ fl' bu' en' L',
      e = .returned (.tuple #[.agg #[.int .i64 knd, .int .i64 rd, .int .i64 wt, .int .i64 V, fl', bu', en', .int .i64 hd], .bool (addE M B ⟨knd, rd, wt, V, fs, bs, L.map QM.qu, hd⟩ y.bu).2]) ∧
      ElN w' w.heap.size fl' bu' en' (addE M B ⟨knd, rd, wt, V, fs, bs, L.map QM.qu, hd⟩ y.bu).1.fl bs L' ∧ L'.map QM.qu = (addE M B ⟨knd, rd, wt, V, fs, bs, L.map QM.qu, hd⟩ y.bu).1.en ∧ Bel w w' := by
  have HCE := Lib.hid (fun w' (h : Bel w w') => copyElev_any knd rd wt V hd fl bu en fs bs L w' (hf.bel h) (hb.bel h) (he.bel h) hfn hbn hn hms)
  have HV := Lib.hid (fun w' (h : Bel w w') => mergeValid_any y.b y.ms w' (hy.bel h))
  have HD := Lib.hid (fun w' => dlDue_any rd wt y.b w')
  have HP := Lib.hid (fun w' (h : Bel w w') => elPartner_any M B knd rd wt V hd fl bu en L y w' (he.bel h) (hy.bel h) (by omega))
  have HG := Lib.hid (fun w' (h : Bel w w') => fairGrow_any V y.b.ten y.b.cnt fs fl w' (hf.bel h) hfn)
  have HS := Lib.hid (fun w' (h : Bel w w') => fairStamp_any V y.b.ten y.b.cnt fs fl w' (hf.bel h) hfn)
  have HCB := Lib.hid (fun w' (h : Bel w w') (A : Option Addr) (c : Nat) (hA : Mems w' (y.bu.at A c) y.ms) => copyBunch_any y.bu A c w' hA hym)
  have HY := Lib.hid hy
  have HLN := Lib.hid hn
  obtain ⟨Af, cf, rfl, _, _⟩ := hf.form
  obtain ⟨Ab, cb, rfl, _, _⟩ := hb.form
  obtain ⟨Ae, ce, rfl, _, _⟩ := he.form
  obtain ⟨a, HA⟩ : ∃ a, Hid (addE M B ⟨knd, rd, wt, V, fs, bs, L.map QM.qu, hd⟩ y.bu = a) := ⟨_, rfl⟩
  rw [HA.out]
  obtain ⟨v0, HV0⟩ : ∃ v, Hid (validB y.b y.ms = v) := ⟨_, rfl⟩
  rw [HV0.out] at HV
  obtain ⟨o, HO⟩ : ∃ o, Hid (partP M B knd y.bu (L.map QM.qu) = o) := ⟨_, rfl⟩
  rw [HO.out] at HP
  obtain ⟨G, HGG⟩ : ∃ G, Hid (growB V fs y.b.ten y.b.cnt = G) := ⟨_, rfl⟩
  rw [HGG.out] at HG
  obtain ⟨S, HSS⟩ : ∃ S, Hid (stampB V fs y.b.ten y.b.cnt = S) := ⟨_, rfl⟩
  rw [HSS.out] at HS
  obtain ⟨⟨i1, t1, k1, s1, n1, d1, f1, a1, l1, c1, m1⟩, ms1⟩ := y
  obtain rfl : l1 = ms1.length := HY.out.len
  have HYM := Lib.hid (fun w' (h : Bel w w') => HY.out.bel h)
  simp only at HV HD HP HG HS HCB HGG HSS HV0 ⊢
  have hbw : Bel w ((((w.alloc (.cells [.int .i64 M, .int .i64 B].toArray 36)).alloc (.cells [.int .i64 knd, .int .i64 rd, .int .i64 wt, .int .i64 V, .slice Af fs.length cf, .slice Ab bs.length cb, .slice Ae L.length ce, .int .i64 hd].toArray 31)).alloc (.cells [.int .i64 i1, .int .i64 t1, .int .i64 k1, .int .i64 s1, .int .i64 n1, .string d1, .bool f1, .slice a1 ms1.length c1, .int .i64 m1].toArray 44)).alloc (.cells [.int .i64 0, .int .i64 0, .int .i64 0, .int .i64 0, .slice none 0 0, .slice none 0 0, .slice none 0 0, .int .i64 0].toArray 31)) := bI
  have hL := (((AtF.new_at (w := w) rfl 36 [.int .i64 M, .int .i64 B]).alloc (.cells [.int .i64 knd, .int .i64 rd, .int .i64 wt, .int .i64 V, .slice Af fs.length cf, .slice Ab bs.length cb, .slice Ae L.length ce, .int .i64 hd].toArray 31)).alloc (.cells [.int .i64 i1, .int .i64 t1, .int .i64 k1, .int .i64 s1, .int .i64 n1, .string d1, .bool f1, .slice a1 ms1.length c1, .int .i64 m1].toArray 44)).alloc (.cells [.int .i64 0, .int .i64 0, .int .i64 0, .int .i64 0, .slice none 0 0, .slice none 0 0, .slice none 0 0, .int .i64 0].toArray 31)
  have hE := ((AtF.new_at (w := w.alloc (.cells [.int .i64 M, .int .i64 B].toArray 36)) (g := w.heap.size + 1) (by simp) 31 [.int .i64 knd, .int .i64 rd, .int .i64 wt, .int .i64 V, .slice Af fs.length cf, .slice Ab bs.length cb, .slice Ae L.length ce, .int .i64 hd]).alloc (.cells [.int .i64 i1, .int .i64 t1, .int .i64 k1, .int .i64 s1, .int .i64 n1, .string d1, .bool f1, .slice a1 ms1.length c1, .int .i64 m1].toArray 44)).alloc (.cells [.int .i64 0, .int .i64 0, .int .i64 0, .int .i64 0, .slice none 0 0, .slice none 0 0, .slice none 0 0, .int .i64 0].toArray 31)
  have hY := (AtF.new_at (w := (w.alloc (.cells [.int .i64 M, .int .i64 B].toArray 36)).alloc (.cells [.int .i64 knd, .int .i64 rd, .int .i64 wt, .int .i64 V, .slice Af fs.length cf, .slice Ab bs.length cb, .slice Ae L.length ce, .int .i64 hd].toArray 31)) (g := w.heap.size + 2) (by simp) 44 [.int .i64 i1, .int .i64 t1, .int .i64 k1, .int .i64 s1, .int .i64 n1, .string d1, .bool f1, .slice a1 ms1.length c1, .int .i64 m1]).alloc (.cells [.int .i64 0, .int .i64 0, .int .i64 0, .int .i64 0, .slice none 0 0, .slice none 0 0, .slice none 0 0, .int .i64 0].toArray 31)
  have hR := AtF.new_at (w := ((w.alloc (.cells [.int .i64 M, .int .i64 B].toArray 36)).alloc (.cells [.int .i64 knd, .int .i64 rd, .int .i64 wt, .int .i64 V, .slice Af fs.length cf, .slice Ab bs.length cb, .slice Ae L.length ce, .int .i64 hd].toArray 31)).alloc (.cells [.int .i64 i1, .int .i64 t1, .int .i64 k1, .int .i64 s1, .int .i64 n1, .string d1, .bool f1, .slice a1 ms1.length c1, .int .i64 m1].toArray 44)) (g := w.heap.size + 3) (by simp) 31 [.int .i64 0, .int .i64 0, .int .i64 0, .int .i64 0, .slice none 0 0, .slice none 0 0, .slice none 0 0, .int .i64 0]
  simp only [List.toArray] at hbw hL hE hY hR
  have hws : ((((w.alloc (.cells #[.int .i64 M, .int .i64 B] 36)).alloc (.cells #[.int .i64 knd, .int .i64 rd, .int .i64 wt, .int .i64 V, .slice Af fs.length cf, .slice Ab bs.length cb, .slice Ae L.length ce, .int .i64 hd] 31)).alloc (.cells #[.int .i64 i1, .int .i64 t1, .int .i64 k1, .int .i64 s1, .int .i64 n1, .string d1, .bool f1, .slice a1 ms1.length c1, .int .i64 m1] 44)).alloc (.cells #[.int .i64 0, .int .i64 0, .int .i64 0, .int .i64 0, .slice none 0 0, .slice none 0 0, .slice none 0 0, .int .i64 0] 31)).heap.size = w.heap.size + 4 := by simp
  clear hf hb he hy hfn hbn hn hms hym
  go_enter Tryz.func8, Tryz.ntmps8
  go_upto_region 1 with fail
  generalize ((((w.alloc (.cells #[.int .i64 M, .int .i64 B] 36)).alloc (.cells #[.int .i64 knd, .int .i64 rd, .int .i64 wt, .int .i64 V, .slice Af fs.length cf, .slice Ab bs.length cb, .slice Ae L.length ce, .int .i64 hd] 31)).alloc (.cells #[.int .i64 i1, .int .i64 t1, .int .i64 k1, .int .i64 s1, .int .i64 n1, .string d1, .bool f1, .slice a1 ms1.length c1, .int .i64 m1] 44)).alloc (.cells #[.int .i64 0, .int .i64 0, .int .i64 0, .int .i64 0, .slice none 0 0, .slice none 0 0, .slice none 0 0, .int .i64 0] 31)) = W at *
  have e0 := (hE).1.2 0 _ rfl
  have e1 := (hE).1.2 1 _ rfl
  have e2 := (hE).1.2 2 _ rfl
  have e3 := (hE).1.2 3 _ rfl
  have e4 := (hE).1.2 4 _ rfl
  have e5 := (hE).1.2 5 _ rfl
  have e6 := (hE).1.2 6 _ rfl
  have e7 := (hE).1.2 7 _ rfl
  have el := hE.1.1
  go_wp2_with fail
  refine (HCE.out _ bI).mono ?_; rintro e w1 ⟨fl1, bu1, en1, L1, rfl, hEN, hcp, hb1⟩
  obtain ⟨A1, z1, rfl⟩ := own_slice hEN.flo
  obtain ⟨A2, z2, rfl⟩ := own_slice hEN.buo
  obtain ⟨A3, z3, hv3⟩ := own_slice hEN.eno.bo.own
  subst hv3
  have HEN := Lib.hid hEN
  have HCP := Lib.hid hcp
  clear hEN hcp
  have hN := AtF.new_at (w := w1) rfl 31 [.int .i64 knd, .int .i64 rd, .int .i64 wt, .int .i64 V, .slice A1 fs.length z1, .slice A2 bs.length z2, .slice A3 L1.length z3, .int .i64 hd]
  have hbn : Bel w1 (w1.alloc (.cells [.int .i64 knd, .int .i64 rd, .int .i64 wt, .int .i64 V, .slice A1 fs.length z1, .slice A2 bs.length z2, .slice A3 L1.length z3, .int .i64 hd].toArray 31)) := bI
  have hbc := (hbw.trans hb1).alloc (.cells [.int .i64 knd, .int .i64 rd, .int .i64 wt, .int .i64 V, .slice A1 fs.length z1, .slice A2 bs.length z2, .slice A3 L1.length z3, .int .i64 hd].toArray 31)
  have hL1 := (hL.bel hb1).alloc (.cells [.int .i64 knd, .int .i64 rd, .int .i64 wt, .int .i64 V, .slice A1 fs.length z1, .slice A2 bs.length z2, .slice A3 L1.length z3, .int .i64 hd].toArray 31)
  have hE1 := (hE.bel hb1).alloc (.cells [.int .i64 knd, .int .i64 rd, .int .i64 wt, .int .i64 V, .slice A1 fs.length z1, .slice A2 bs.length z2, .slice A3 L1.length z3, .int .i64 hd].toArray 31)
  have hY1 := (hY.bel hb1).alloc (.cells [.int .i64 knd, .int .i64 rd, .int .i64 wt, .int .i64 V, .slice A1 fs.length z1, .slice A2 bs.length z2, .slice A3 L1.length z3, .int .i64 hd].toArray 31)
  have hR1 := (hR.bel hb1).alloc (.cells [.int .i64 knd, .int .i64 rd, .int .i64 wt, .int .i64 V, .slice A1 fs.length z1, .slice A2 bs.length z2, .slice A3 L1.length z3, .int .i64 hd].toArray 31)
  have HEN2 := Lib.hid (HEN.out.keep hbn)
  have HOF : Hid (Off w1.heap.size (.slice A1 fs.length z1) (.slice A2 bs.length z2) (.slice A3 L1.length z3) L1) := Lib.hid (HEN.out.newOff (Nat.le_refl _))
  have hNs := hb1.size
  have hNs2 : w1.heap.size < (w1.alloc (.cells [.int .i64 knd, .int .i64 rd, .int .i64 wt, .int .i64 V, .slice A1 fs.length z1, .slice A2 bs.length z2, .slice A3 L1.length z3, .int .i64 hd].toArray 31)).heap.size := by simp
  simp only [List.toArray] at hN hbn hbc hL1 hE1 hY1 hR1 HEN2 hNs2
  go_upto_region 2 with fail
  clear hL hE hY hR hbw hb1 HEN hbn e0 e1 e2 e3 e4 e5 e6 e7 el
  generalize w1.alloc (.cells #[.int .i64 knd, .int .i64 rd, .int .i64 wt, .int .i64 V, .slice A1 fs.length z1, .slice A2 bs.length z2, .slice A3 L1.length z3, .int .i64 hd] 31) = W1 at *
  generalize w1.heap.size = N at *
  have y0 := (hY1).1.2 0 _ rfl
  have y1 := (hY1).1.2 1 _ rfl
  have y2 := (hY1).1.2 2 _ rfl
  have y3 := (hY1).1.2 3 _ rfl
  have y4 := (hY1).1.2 4 _ rfl
  have y5 := (hY1).1.2 5 _ rfl
  have y6 := (hY1).1.2 6 _ rfl
  have y7 := (hY1).1.2 7 _ rfl
  have y8 := (hY1).1.2 8 _ rfl
  have yl := hY1.1.1
  go_wp2_with fail
  refine (HV.out _ bI).mono ?_; rintro e w2 ⟨rfl, hb2⟩
  have hOK : okU (BM.bu ⟨⟨i1, t1, k1, s1, n1, d1, f1, a1, ms1.length, c1, m1⟩, ms1⟩) = v0 := HV0.out
  cases v0
  · have hA0 : a = (⟨knd, rd, wt, V, fs, bs, L.map QM.qu, hd⟩, false) := by rw [← HA.out, addE, if_neg (by rw [hOK]; simp)]
    have hN5 := hN.bel hb2
    have hR5 := hR1.bel hb2
    have hE5 := HEN2.out.keep hb2
    have hb5 := hbc.trans hb2
    have hCP := HCP.out.bu
    go_upto_region 3 with fail
    have hi8 : (Tryz.prog.info? 31).map (·.size) = some 8 := by kernel_rfl
    have one8 : ∀ u ∈ ([.int .i64 knd, .int .i64 rd, .int .i64 wt, .int .i64 V, .slice A1 fs.length z1, .slice A2 bs.length z2, .slice A3 L1.length z3, .int .i64 hd] : List Value), u.oneCell' = true := fun u hu => by
      simp only [List.mem_cons, List.not_mem_nil, or_false] at hu
      rcases hu with rfl | rfl | rfl | rfl | rfl | rfl | rfl | rfl <;> rfl
    refine wp_region_lit ?_
    refine wpList_load_at rfl 31 _ rfl rfl hN5 _ Tryz.underlying31 rfl hi8 ?_
    refine wpList_store_at rfl 31 _ _ rfl rfl rfl hR5 rfl one8 hi8 ?_
    have hR9 := (hR5).setRow [.int .i64 knd, .int .i64 rd, .int .i64 wt, .int .i64 V, .slice A1 fs.length z1, .slice A2 bs.length z2, .slice A3 L1.length z3, .int .i64 hd] rfl
    have hE9 := (ElN.setRow (B := w.heap.size + 3) (i := 0) [.int .i64 knd, .int .i64 rd, .int .i64 wt, .int .i64 V, .slice A1 fs.length z1, .slice A2 bs.length z2, .slice A3 L1.length z3, .int .i64 hd] hE5 (by omega)).mono (base' := w.heap.size) (by omega)
    have hb9 := Bel.setRow (B := w.heap.size + 3) (i := 0) [.int .i64 knd, .int .i64 rd, .int .i64 wt, .int .i64 V, .slice A1 fs.length z1, .slice A2 bs.length z2, .slice A3 L1.length z3, .int .i64 hd] hb5 (by omega)
    have hlv := loadVar_at (P := Tryz.prog) 31 hR9 _ Tryz.underlying31 rfl hi8
    generalize setRow _ (w.heap.size + 3) 0 [.int .i64 knd, .int .i64 rd, .int .i64 wt, .int .i64 V, .slice A1 fs.length z1, .slice A2 bs.length z2, .slice A3 L1.length z3, .int .i64 hd] = W10 at *
    simp only [Act.put, Act.eval, List.setIfInBounds_toArray, List.set_cons_succ, List.set_cons_zero]
    go_wp2
    subst hA0
    exact bodyPost_ret (v := .tuple #[.agg #[.int .i64 knd, .int .i64 rd, .int .i64 wt, .int .i64 V, .slice A1 fs.length z1, .slice A2 bs.length z2, .slice A3 L1.length z3, .int .i64 hd], .bool false]) (by simp [results, Tryz.results8, hlv, asAddr]) rfl ⟨_, _, _, _, rfl, hE9, hCP, hb9⟩
  · have y1' := (hY1.bel hb2).1.2 1 _ rfl
    have yl2 := (hY1.bel hb2).1.1
    by_cases hT : 0 ≤ t1 ∧ t1 < 4
    · skip
      obtain ⟨D, HDD⟩ : ∃ D, Hid (dueB rd wt ⟨i1, t1, k1, s1, n1, d1, f1, a1, ms1.length, c1, m1⟩ = D) := ⟨_, rfl⟩
      rw [HDD.out] at HD
      have hT1 := hT.1
      have hT2 := hT.2
      have hT3 : ¬ t1 < 0 := by omega
      have hT4 : ¬ t1 ≥ 4 := by omega
      have hEx := hE1.bel hb2
      have hYx := hY1.bel hb2
      have hLx := hL1.bel hb2
      have e0 := (hEx).1.2 0 _ rfl
      have e1 := (hEx).1.2 1 _ rfl
      have e2 := (hEx).1.2 2 _ rfl
      have e3 := (hEx).1.2 3 _ rfl
      have e4 := (hEx).1.2 4 _ rfl
      have e5 := (hEx).1.2 5 _ rfl
      have e6 := (hEx).1.2 6 _ rfl
      have e7 := (hEx).1.2 7 _ rfl
      have y0 := (hYx).1.2 0 _ rfl
      have y1 := (hYx).1.2 1 _ rfl
      have y2 := (hYx).1.2 2 _ rfl
      have y3 := (hYx).1.2 3 _ rfl
      have y4 := (hYx).1.2 4 _ rfl
      have y5 := (hYx).1.2 5 _ rfl
      have y6 := (hYx).1.2 6 _ rfl
      have y7 := (hYx).1.2 7 _ rfl
      have y8 := (hYx).1.2 8 _ rfl
      have l0 := hLx.1.2 0 _ rfl
      have l1' := hLx.1.2 1 _ rfl
      have el := hEx.1.1
      have yl := hYx.1.1
      have ll := hLx.1.1
      go_wp2_with fail
      refine (HD.out _).mono ?_; rintro e w3 ⟨rfl, hb3⟩
      clear hEx hYx hLx e0 e1 e2 e3 e4 e5 e6 e7 y0 y1 y2 y3 y4 y5 y6 y7 y8 l0 l1' el yl ll
      replace hb3 := hb2.trans hb3
      have hEx := hE1.bel hb3
      have hYx := hY1.bel hb3
      have hLx := hL1.bel hb3
      have e0 := (hEx).1.2 0 _ rfl
      have e1 := (hEx).1.2 1 _ rfl
      have e2 := (hEx).1.2 2 _ rfl
      have e3 := (hEx).1.2 3 _ rfl
      have e4 := (hEx).1.2 4 _ rfl
      have e5 := (hEx).1.2 5 _ rfl
      have e6 := (hEx).1.2 6 _ rfl
      have e7 := (hEx).1.2 7 _ rfl
      have y0 := (hYx).1.2 0 _ rfl
      have y1 := (hYx).1.2 1 _ rfl
      have y2 := (hYx).1.2 2 _ rfl
      have y3 := (hYx).1.2 3 _ rfl
      have y4 := (hYx).1.2 4 _ rfl
      have y5 := (hYx).1.2 5 _ rfl
      have y6 := (hYx).1.2 6 _ rfl
      have y7 := (hYx).1.2 7 _ rfl
      have y8 := (hYx).1.2 8 _ rfl
      have l0 := hLx.1.2 0 _ rfl
      have l1' := hLx.1.2 1 _ rfl
      have el := hEx.1.1
      have yl := hYx.1.1
      have ll := hLx.1.1
      go_wp2_with fail
      refine (HP.out _ bI).mono ?_; rintro e w4 ⟨rfl, hb4⟩
      clear hEx hYx hLx e0 e1 e2 e3 e4 e5 e6 e7 y0 y1 y2 y3 y4 y5 y6 y7 y8 l0 l1' el yl ll
      replace hb4 := hb3.trans hb4
      clear hb2 hb3 hT1 hT2 hT3 hT4
      cases o with
      | none =>
        have hEx := hE1.bel hb4
        have hYx := hY1.bel hb4
        have hLx := hL1.bel hb4
        have e0 := (hEx).1.2 0 _ rfl
        have e1 := (hEx).1.2 1 _ rfl
        have e2 := (hEx).1.2 2 _ rfl
        have e3 := (hEx).1.2 3 _ rfl
        have e4 := (hEx).1.2 4 _ rfl
        have e5 := (hEx).1.2 5 _ rfl
        have e6 := (hEx).1.2 6 _ rfl
        have e7 := (hEx).1.2 7 _ rfl
        have y0 := (hYx).1.2 0 _ rfl
        have y1 := (hYx).1.2 1 _ rfl
        have y2 := (hYx).1.2 2 _ rfl
        have y3 := (hYx).1.2 3 _ rfl
        have y4 := (hYx).1.2 4 _ rfl
        have y5 := (hYx).1.2 5 _ rfl
        have y6 := (hYx).1.2 6 _ rfl
        have y7 := (hYx).1.2 7 _ rfl
        have y8 := (hYx).1.2 8 _ rfl
        have l0 := hLx.1.2 0 _ rfl
        have l1' := hLx.1.2 1 _ rfl
        have el := hEx.1.1
        have yl := hYx.1.1
        have ll := hLx.1.1
        simp only [howQ]
        go_wp2_with fail
        refine (HS.out _ bI).mono ?_; rintro e w5 ⟨v5, rfl, ho5, hb5⟩
        clear hEx hYx hLx e0 e1 e2 e3 e4 e5 e6 e7 y0 y1 y2 y3 y4 y5 y6 y7 y8 l0 l1' el yl ll
        replace hb5 := hb4.trans hb5
        obtain ⟨A5, c5, rfl⟩ := own_slice ho5
        have hSL : S.1.length = fs.length := by rw [← HSS.out]; exact advB_len2 V fs t1 n1 _
        obtain ⟨S1, S2, S3⟩ := S
        simp only at hSL ho5
        cases S3
        · have hA0 : a = (⟨knd, rd, wt, V, fs, bs, L.map QM.qu, hd⟩, false) := by
            rw [← HA.out, addE_none ⟨hOK, hT⟩ HO.out HSS.out]
            rfl
          have hN5 := hN.bel (hb5.alloc (.cells #[.int .i64 V, .slice A5 fs.length c5] 27))
          have hR5 := hR1.bel (hb5.alloc (.cells #[.int .i64 V, .slice A5 fs.length c5] 27))
          have hE5 := HEN2.out.keep (hb5.alloc (.cells #[.int .i64 V, .slice A5 fs.length c5] 27))
          have hb5 := hbc.trans (hb5.alloc (.cells #[.int .i64 V, .slice A5 fs.length c5] 27))
          have hCP := HCP.out.bu
          go_upto_region 15 with fail
          have hi8 : (Tryz.prog.info? 31).map (·.size) = some 8 := by kernel_rfl
          have one8 : ∀ u ∈ ([.int .i64 knd, .int .i64 rd, .int .i64 wt, .int .i64 V, .slice A1 fs.length z1, .slice A2 bs.length z2, .slice A3 L1.length z3, .int .i64 hd] : List Value), u.oneCell' = true := fun u hu => by
            simp only [List.mem_cons, List.not_mem_nil, or_false] at hu
            rcases hu with rfl | rfl | rfl | rfl | rfl | rfl | rfl | rfl <;> rfl
          refine wp_region_lit ?_
          refine wpList_load_at rfl 31 _ rfl rfl hN5 _ Tryz.underlying31 rfl hi8 ?_
          refine wpList_store_at rfl 31 _ _ rfl rfl rfl hR5 rfl one8 hi8 ?_
          have hR9 := (hR5).setRow [.int .i64 knd, .int .i64 rd, .int .i64 wt, .int .i64 V, .slice A1 fs.length z1, .slice A2 bs.length z2, .slice A3 L1.length z3, .int .i64 hd] rfl
          have hE9 := (ElN.setRow (B := w.heap.size + 3) (i := 0) [.int .i64 knd, .int .i64 rd, .int .i64 wt, .int .i64 V, .slice A1 fs.length z1, .slice A2 bs.length z2, .slice A3 L1.length z3, .int .i64 hd] hE5 (by omega)).mono (base' := w.heap.size) (by omega)
          have hb9 := Bel.setRow (B := w.heap.size + 3) (i := 0) [.int .i64 knd, .int .i64 rd, .int .i64 wt, .int .i64 V, .slice A1 fs.length z1, .slice A2 bs.length z2, .slice A3 L1.length z3, .int .i64 hd] hb5 (by omega)
          have hlv := loadVar_at (P := Tryz.prog) 31 hR9 _ Tryz.underlying31 rfl hi8
          generalize setRow _ (w.heap.size + 3) 0 [.int .i64 knd, .int .i64 rd, .int .i64 wt, .int .i64 V, .slice A1 fs.length z1, .slice A2 bs.length z2, .slice A3 L1.length z3, .int .i64 hd] = W10 at *
          simp only [Act.put, Act.eval, List.setIfInBounds_toArray, List.set_cons_succ, List.set_cons_zero]
          go_wp2
          subst hA0
          exact bodyPost_ret (v := .tuple #[.agg #[.int .i64 knd, .int .i64 rd, .int .i64 wt, .int .i64 V, .slice A1 fs.length z1, .slice A2 bs.length z2, .slice A3 L1.length z3, .int .i64 hd], .bool false]) (by simp [results, Tryz.results8, hlv, asAddr]) rfl ⟨_, _, _, _, rfl, hE9, hCP, hb9⟩
        · have hA0 : a = (⟨knd, rd, wt, V, S1, bs, L.map QM.qu ++ [⟨⟨i1, t1, k1, s1, n1, d1, f1, ms1, m1⟩, D, S2, 0⟩], hd⟩, true) := by
            rw [← HA.out, addE_none ⟨hOK, hT⟩ HO.out HSS.out, ← HDD.out]
            rfl
          have hFB : Bel w5 (w5.alloc (.cells #[.int .i64 V, .slice A5 fs.length c5] 27)) := bI
          have hF6 := AtF.new_at (w := w5) rfl 27 [.int .i64 V, .slice A5 fs.length c5]
          simp only [List.toArray] at hF6
          have h5s := hb5.size
          have h4s := hb4.size
          have hN6 := hN.bel (hb5.trans hFB)
          have hE6 := (ElN.newF HEN2.out hb5 (fs' := S1) (by rw [hSL]; exact ho5) h4s (by omega)).keep hFB
          have hOF6 : Off N (.slice A5 fs.length c5) (.slice A2 bs.length z2) (.slice A3 L1.length z3) L1 := ⟨fun e => by have := (ho5.lt _ e).1; omega, HOF.out.b, HOF.out.e, HOF.out.m⟩
          have hY6 := hY1.bel (hb5.trans hFB)
          have hR6 := hR1.bel (hb5.trans hFB)
          have hb6 := hbc.trans (hb5.trans hFB)
          go_upto_region 16 with fail
          generalize w5.alloc (.cells #[.int .i64 V, .slice A5 fs.length c5] 27) = W6 at *
          have f0 := hF6.1.2 0 _ rfl
          have f1' := hF6.1.2 1 _ rfl
          have fb := hF6.1.1
          have n3 := hN6.1.2 3 _ rfl
          have n4 := hN6.1.2 4 _ rfl
          have nl := hN6.1.1
          have nf := hN6.2
          have hN7 := (hN6.set 3 (by simp) (.int .i64 V)).set 4 (by simp) (.slice A5 fs.length c5)
          have hE7 := (hE6.off (p := ⟨N, 3, none⟩) hOF6 (.int .i64 V)).off (p := ⟨N, 4, none⟩) hOF6 (.slice A5 fs.length c5)
          have hb7 := (hb6.setNew (p := ⟨N, 3, none⟩) (by show w.heap.size ≤ N; omega) (.int .i64 V)).setNew (p := ⟨N, 4, none⟩) (by show w.heap.size ≤ N; omega) (.slice A5 fs.length c5)
          have hY7 := (hY6.other (C := N) (by omega) 3 (.int .i64 V)).other (C := N) (by omega) 4 (.slice A5 fs.length c5)
          have hR7 := (hR6.other (C := N) (by omega) 3 (.int .i64 V)).other (C := N) (by omega) 4 (.slice A5 fs.length c5)
          simp only [List.set_cons_succ, List.set_cons_zero] at hN7
          clear hN6 hE6 hb6 hY6 hR6 hF6
          go_upto_region 17 with fail
          clear f0 f1' fb n3 n4 nf nl
          generalize (W6.setCell ⟨N, 3, none⟩ (.int .i64 V)).setCell ⟨N, 4, none⟩ (.slice A5 fs.length c5) = W7 at *
          have hCY : Mems W7 (Bu.at ⟨i1, t1, k1, s1, n1, d1, f1, ms1, m1⟩ a1 c1) ms1 := HYM.out _ hb7
          have n6 := fun d os => cell_regrown (hN7.1.2 6 _ rfl) d os
          have nl := hN7.1.1
          refine wp_region_lex [3, 7] 8 (by kernel_rfl) (by kernel_rfl) ?_
          simp only [List.take_succ_cons, List.take_zero, List.drop_succ_cons, List.drop_zero]
          with_reducible refine lex_seg 3 _ _ _ _ (by kernel_rfl) ?_
          simp only [List.take_succ_cons, List.take_zero, List.drop_succ_cons, List.drop_zero]
          go_big_quiet_step (fail)
          go_big_quiet_step (fail)
          refine wpQuiet_load_at rfl 44 _ rfl rfl hY7 _ Tryz.underlying44 rfl (by kernel_rfl) ?_
          with_reducible refine wpQuiet_nil ?_
          try simp only [Act.put, List.setIfInBounds_toArray, List.set_cons_succ, List.set_cons_zero]
          clear n6 nl
          refine lex_call 26 rfl rfl (by simp [go_sem]; rfl) ?_
          refine (HCB.out _ bI a1 c1 (hCY.bel ((Bel.refl W7).drew))).mono ?_; rintro e w8 ⟨A8, c8, rfl, hZ, hb8⟩
          refine ⟨_, rfl, hb8, ?_⟩
          with_reducible refine lex_seg 3 _ _ _ _ (by kernel_rfl) ?_
          simp only [List.take_succ_cons, List.take_zero, List.drop_succ_cons, List.drop_zero]
          try simp only [Act.put, List.setIfInBounds_toArray, List.set_cons_succ, List.set_cons_zero]
          go_big_quiet_step (fail)
          go_big_quiet_step (fail)
          refine wpQuiet_pure rfl (.agg #[.int .i64 i1, .int .i64 t1, .int .i64 k1, .int .i64 s1, .int .i64 n1, .string d1, .bool f1, .slice A8 ms1.length c8, .int .i64 m1, .int .i64 D, .int .i64 S2, .int .i64 0]) (by intro w; kernel_rfl) ?_
          with_reducible refine wpQuiet_nil ?_
          try simp only [Act.put, List.setIfInBounds_toArray, List.set_cons_succ, List.set_cons_zero]
          refine lex_made rfl rfl (by simp [go_sem]; exact ⟨rfl, rfl⟩) (Bel.alloc (Bel.refl _) _) ?_
          try simp only [Act.put, List.setIfInBounds_toArray, List.set_cons_succ, List.set_cons_zero]
          with_reducible refine lex_nil ?_
          have hb8' : Bel W7 w8 := bI
          have hE8 := hE7.keep hb8'
          have hown8 := hE8.eno.bo.own
          have h7s : W.heap.size ≤ W7.drew.heap.size := by
            have := hN7.1.1
            simp only [World.size_drew]
            omega
          have h8s := hb8.size
          have hN8 := (hN7.bel hb8').alloc (.cells [.int .i64 i1, .int .i64 t1, .int .i64 k1, .int .i64 s1, .int .i64 n1, .string d1, .bool f1, .slice A8 ms1.length c8, .int .i64 m1, .int .i64 D, .int .i64 S2, .int .i64 0].toArray 67)
          have hR8 := (hR7.bel hb8').alloc (.cells [.int .i64 i1, .int .i64 t1, .int .i64 k1, .int .i64 s1, .int .i64 n1, .string d1, .bool f1, .slice A8 ms1.length c8, .int .i64 m1, .int .i64 D, .int .i64 S2, .int .i64 0].toArray 67)
          have hb8w := (hb7.trans hb8').alloc (.cells [.int .i64 i1, .int .i64 t1, .int .i64 k1, .int .i64 s1, .int .i64 n1, .string d1, .bool f1, .slice A8 ms1.length c8, .int .i64 m1, .int .i64 D, .int .i64 S2, .int .i64 0].toArray 67)
          simp only [List.toArray] at hN8 hR8 hb8w
          obtain ⟨i0, hi0, hz0, hz1, hz2⟩ := info_parts Tryz.infoQue
          have hl1 : L1.length ≤ 100 := by have := HCP.out.len; have := HLN.out; omega
          refine wpList_append_own_at _ rfl _ _ 29 rfl W.heap.size 67 i0 _ 12 120 Tryz.underlying29 hi0 hz0 hz1 hz2 rfl (by omega) (.slice A3 L1.length z3) _ _ rfl (hown8.alloc _) ⟨w8.heap.size, 0, none⟩ 1 1 (Qd.mk (Bu.at ⟨i1, t1, k1, s1, n1, d1, f1, ms1, m1⟩ A8 c8) D S2 0).cells rfl rfl (World.news_of_block (cs := #[.int .i64 i1, .int .i64 t1, .int .i64 k1, .int .i64 s1, .int .i64 n1, .string d1, .bool f1, .slice A8 ms1.length c8, .int .i64 m1, .int .i64 D, .int .i64 S2, .int .i64 0]) (t := 67) (fr := (0, 0)) (heap_alloc_new w8 _)) (qcell_one _) (by unfold maxLen; omega) (by omega) (by simp only [World.size_alloc, World.size_drew] at *; omega) ?_
          intro v' w9 hown' hg' _ hloc
          obtain ⟨gn, cn, hvn, _, _⟩ := hown'.form (by omega)
          subst hvn
          have hne8 : ∀ q, q < W.heap.size → some q ≠ (Value.slice A3 L1.length z3).ownBlock := fun q hq e => by have := (hown8.lt q e.symm).1; omega
          have hneN : some N ≠ (Value.slice A3 L1.length z3).ownBlock := fun e => HOF.out.e e.symm
          have hE9 := ElN.snoc hE8 (x := ⟨⟨Bu.at ⟨i1, t1, k1, s1, n1, d1, f1, ms1, m1⟩ A8 c8, D, S2, 0⟩, ms1⟩) hZ.1 hZ.2 h7s (fun k e => (hE7.eno.bo.own.lt k e).2) (fun k e => (hE7.flo.lt k e).2) (fun k e => (hE7.buo.lt k e).2) hown' hg' hloc
          have hN9 := hN8.grown hg' hneN
          have hR9' := hR8.grown hg' (hne8 _ (by omega))
          have hb9' := bel_own hb8w (hown8.alloc _) hg' (by omega)
          have hOF9 : Off N (.slice A5 fs.length c5) (.slice A2 bs.length z2) (.slice (some ⟨gn, 0, none⟩) (L1.length + 1) cn) (L1 ++ [⟨⟨Bu.at ⟨i1, t1, k1, s1, n1, d1, f1, ms1, m1⟩ A8 c8, D, S2, 0⟩, ms1⟩]) := by
            refine ⟨hOF6.f, hOF6.b, fun e => ?_, fun x hx h0 e => ?_⟩
            · rcases hloc with e1 | e1
              · rw [e1] at e; exact hneN e.symm
              · rw [e1] at e
                have := hN8.1.1
                simp at e this
                omega
            · rw [List.mem_append, List.mem_singleton] at hx
              rcases hx with hx | rfl
              · exact HOF.out.m x hx h0 e
              · have h1 := hZ.2 N e
                have h2 := hN7.1.1
                simp only [World.size_drew] at h1
                omega
          have hCP : (L1 ++ [(⟨⟨Bu.at ⟨i1, t1, k1, s1, n1, d1, f1, ms1, m1⟩ A8 c8, D, S2, 0⟩, ms1⟩ : QM)]).map QM.qu = L.map QM.qu ++ [⟨⟨i1, t1, k1, s1, n1, d1, f1, ms1, m1⟩, D, S2, 0⟩] := by
            rw [List.map_append, HCP.out.bu]; rfl
          have n6 := hN9.1.2 6 _ rfl
          have nl := hN9.1.1
          have nf := hN9.2
          have hN10 := hN9.set 6 (by simp) (.slice (some ⟨gn, 0, none⟩) (L1.length + 1) cn)
          have hE10 := hE9.off (p := ⟨N, 6, none⟩) hOF9 (.slice (some ⟨gn, 0, none⟩) (L1.length + 1) cn)
          have hb10 := hb9'.setNew (p := ⟨N, 6, none⟩) (by show w.heap.size ≤ N; omega) (.slice (some ⟨gn, 0, none⟩) (L1.length + 1) cn)
          have hR10 := hR9'.other (C := N) (by omega) 6 (.slice (some ⟨gn, 0, none⟩) (L1.length + 1) cn)
          simp only [List.set_cons_succ, List.set_cons_zero] at hN10
          clear hN9 hE9 hb9' hR9' hN8 hR8 hb8w hown8 hE8 hE7 hR7 hN7 hY7 hb7
          try simp only [Act.put, List.setIfInBounds_toArray, List.set_cons_succ, List.set_cons_zero]
          go_upto_region 18 with fail
          have hi8 : (Tryz.prog.info? 31).map (·.size) = some 8 := by kernel_rfl
          have one8 : ∀ u ∈ ([.int .i64 knd, .int .i64 rd, .int .i64 wt, .int .i64 V, .slice A5 fs.length c5, .slice A2 bs.length z2, .slice (some ⟨gn, 0, none⟩) (L1.length + 1) cn, .int .i64 hd] : List Value), u.oneCell' = true := fun u hu => by
            simp only [List.mem_cons, List.not_mem_nil, or_false] at hu
            rcases hu with rfl | rfl | rfl | rfl | rfl | rfl | rfl | rfl <;> rfl
          refine wp_region_lit ?_
          refine wpList_load_at rfl 31 _ rfl rfl hN10 _ Tryz.underlying31 rfl hi8 ?_
          refine wpList_store_at rfl 31 _ _ rfl rfl rfl hR10 rfl one8 hi8 ?_
          have hR9 := (hR10).setRow [.int .i64 knd, .int .i64 rd, .int .i64 wt, .int .i64 V, .slice A5 fs.length c5, .slice A2 bs.length z2, .slice (some ⟨gn, 0, none⟩) (L1.length + 1) cn, .int .i64 hd] rfl
          have hE9 := (ElN.setRow (B := w.heap.size + 3) (i := 0) [.int .i64 knd, .int .i64 rd, .int .i64 wt, .int .i64 V, .slice A5 fs.length c5, .slice A2 bs.length z2, .slice (some ⟨gn, 0, none⟩) (L1.length + 1) cn, .int .i64 hd] hE10 (by omega)).mono (base' := w.heap.size) (by omega)
          have hb9 := Bel.setRow (B := w.heap.size + 3) (i := 0) [.int .i64 knd, .int .i64 rd, .int .i64 wt, .int .i64 V, .slice A5 fs.length c5, .slice A2 bs.length z2, .slice (some ⟨gn, 0, none⟩) (L1.length + 1) cn, .int .i64 hd] hb10 (by omega)
          have hlv := loadVar_at (P := Tryz.prog) 31 hR9 _ Tryz.underlying31 rfl hi8
          generalize setRow _ (w.heap.size + 3) 0 [.int .i64 knd, .int .i64 rd, .int .i64 wt, .int .i64 V, .slice A5 fs.length c5, .slice A2 bs.length z2, .slice (some ⟨gn, 0, none⟩) (L1.length + 1) cn, .int .i64 hd] = W10 at *
          simp only [Act.put, Act.eval, List.setIfInBounds_toArray, List.set_cons_succ, List.set_cons_zero]
          go_wp2
          subst hA0
          exact bodyPost_ret (v := .tuple #[.agg #[.int .i64 knd, .int .i64 rd, .int .i64 wt, .int .i64 V, .slice A5 fs.length c5, .slice A2 bs.length z2, .slice (some ⟨gn, 0, none⟩) (L1.length + 1) cn, .int .i64 hd], .bool true]) (by simp [results, Tryz.results8, hlv, asAddr]) rfl ⟨_, _, _, _, rfl, hE9, hCP, hb9⟩
      | some i =>
        obtain ⟨x0, hx0, hcx, hnx⟩ := partP_find HO.out
        have hhow : howQ M B (BM.bu ⟨⟨i1, t1, k1, s1, n1, d1, f1, a1, ms1.length, c1, m1⟩, ms1⟩) (L.map QM.qu) (some i) = ((i : Int), canU M B x0.u (BM.bu ⟨⟨i1, t1, k1, s1, n1, d1, f1, a1, ms1.length, c1, m1⟩, ms1⟩)) := by
          simp only [howQ, hx0]
        obtain ⟨cw, Hcw⟩ : ∃ c, Hid (canU M B x0.u (BM.bu ⟨⟨i1, t1, k1, s1, n1, d1, f1, a1, ms1.length, c1, m1⟩, ms1⟩) = c) := ⟨_, rfl⟩
        rw [Hcw.out] at hhow hcx
        rw [hhow]
        simp only
        have hcwb : (cw != 0) = true := by simpa using hcx
        obtain ⟨⟨⟨⟨j1, t2, k2, s2, n2, d2, f2, a2, l2, c2, m2⟩, du, st, tr⟩, ms2⟩, hx1, hq1⟩ : ∃ x1, L1[i]? = some x1 ∧ x1.qu = x0 := by
          rw [← HCP.out.bu, List.getElem?_map] at hx0
          cases h : L1[i]? with
          | none => rw [h] at hx0; cases hx0
          | some x1 => rw [h] at hx0; exact ⟨x1, rfl, by simpa using hx0⟩
        have hil := (List.getElem?_eq_some_iff.1 hx1).1
        obtain rfl : l2 = ms2.length := (HEN2.out.eno.bo.mem _ (List.mem_of_getElem? hx1)).len
        have hEx := hE1.bel hb4
        have hYx := hY1.bel hb4
        have hLx := hL1.bel hb4
        have e0 := (hEx).1.2 0 _ rfl
        have e1 := (hEx).1.2 1 _ rfl
        have e2 := (hEx).1.2 2 _ rfl
        have e3 := (hEx).1.2 3 _ rfl
        have e4 := (hEx).1.2 4 _ rfl
        have e5 := (hEx).1.2 5 _ rfl
        have e6 := (hEx).1.2 6 _ rfl
        have e7 := (hEx).1.2 7 _ rfl
        have y0 := (hYx).1.2 0 _ rfl
        have y1 := (hYx).1.2 1 _ rfl
        have y2 := (hYx).1.2 2 _ rfl
        have y3 := (hYx).1.2 3 _ rfl
        have y4 := (hYx).1.2 4 _ rfl
        have y5 := (hYx).1.2 5 _ rfl
        have y6 := (hYx).1.2 6 _ rfl
        have y7 := (hYx).1.2 7 _ rfl
        have y8 := (hYx).1.2 8 _ rfl
        have l0 := hLx.1.2 0 _ rfl
        have l1' := hLx.1.2 1 _ rfl
        have el := hEx.1.1
        have yl := hYx.1.1
        have ll := hLx.1.1
        go_wp2_with fail
        refine (HG.out _ bI).mono ?_; rintro e w5 ⟨v5, rfl, ho5, hb5⟩
        clear hEx hYx hLx e0 e1 e2 e3 e4 e5 e6 e7 y0 y1 y2 y3 y4 y5 y6 y7 y8 l0 l1' el yl ll
        replace hb5 := hb4.trans hb5
        obtain ⟨A5, c5, rfl⟩ := own_slice ho5
        have hSL : G.1.length = fs.length := by rw [← HGG.out]; exact advB_len2 V fs t1 n1 _
        obtain ⟨G1, G2, G3⟩ := G
        simp only at hSL ho5
        cases G3
        · have hA0 : a = (⟨knd, rd, wt, V, fs, bs, L.map QM.qu, hd⟩, false) := by
            rw [← HA.out, addE_some ⟨hOK, hT⟩ HO.out hx0 HGG.out]
            rfl
          have hN5 := hN.bel (hb5.alloc (.cells #[.int .i64 V, .slice A5 fs.length c5] 27))
          have hR5 := hR1.bel (hb5.alloc (.cells #[.int .i64 V, .slice A5 fs.length c5] 27))
          have hE5 := HEN2.out.keep (hb5.alloc (.cells #[.int .i64 V, .slice A5 fs.length c5] 27))
          have hb5 := hbc.trans (hb5.alloc (.cells #[.int .i64 V, .slice A5 fs.length c5] 27))
          have hCP := HCP.out.bu
          go_upto_region 9 with fail
          have hi8 : (Tryz.prog.info? 31).map (·.size) = some 8 := by kernel_rfl
          have one8 : ∀ u ∈ ([.int .i64 knd, .int .i64 rd, .int .i64 wt, .int .i64 V, .slice A1 fs.length z1, .slice A2 bs.length z2, .slice A3 L1.length z3, .int .i64 hd] : List Value), u.oneCell' = true := fun u hu => by
            simp only [List.mem_cons, List.not_mem_nil, or_false] at hu
            rcases hu with rfl | rfl | rfl | rfl | rfl | rfl | rfl | rfl <;> rfl
          refine wp_region_lit ?_
          refine wpList_load_at rfl 31 _ rfl rfl hN5 _ Tryz.underlying31 rfl hi8 ?_
          refine wpList_store_at rfl 31 _ _ rfl rfl rfl hR5 rfl one8 hi8 ?_
          have hR9 := (hR5).setRow [.int .i64 knd, .int .i64 rd, .int .i64 wt, .int .i64 V, .slice A1 fs.length z1, .slice A2 bs.length z2, .slice A3 L1.length z3, .int .i64 hd] rfl
          have hE9 := (ElN.setRow (B := w.heap.size + 3) (i := 0) [.int .i64 knd, .int .i64 rd, .int .i64 wt, .int .i64 V, .slice A1 fs.length z1, .slice A2 bs.length z2, .slice A3 L1.length z3, .int .i64 hd] hE5 (by omega)).mono (base' := w.heap.size) (by omega)
          have hb9 := Bel.setRow (B := w.heap.size + 3) (i := 0) [.int .i64 knd, .int .i64 rd, .int .i64 wt, .int .i64 V, .slice A1 fs.length z1, .slice A2 bs.length z2, .slice A3 L1.length z3, .int .i64 hd] hb5 (by omega)
          have hlv := loadVar_at (P := Tryz.prog) 31 hR9 _ Tryz.underlying31 rfl hi8
          generalize setRow _ (w.heap.size + 3) 0 [.int .i64 knd, .int .i64 rd, .int .i64 wt, .int .i64 V, .slice A1 fs.length z1, .slice A2 bs.length z2, .slice A3 L1.length z3, .int .i64 hd] = W10 at *
          simp only [Act.put, Act.eval, List.setIfInBounds_toArray, List.set_cons_succ, List.set_cons_zero]
          go_wp2
          subst hA0
          exact bodyPost_ret (v := .tuple #[.agg #[.int .i64 knd, .int .i64 rd, .int .i64 wt, .int .i64 V, .slice A1 fs.length z1, .slice A2 bs.length z2, .slice A3 L1.length z3, .int .i64 hd], .bool false]) (by simp [results, Tryz.results8, hlv, asAddr]) rfl ⟨_, _, _, _, rfl, hE9, hCP, hb9⟩
        · have hA0 : a = (⟨knd, rd, wt, V, G1, bs, (L.map QM.qu).set i ⟨joinU x0.u ⟨i1, t1, k1, s1, n1, d1, f1, ms1, m1⟩ cw, min x0.due D, x0.sta, x0.tri⟩, hd⟩, true) := by
            rw [← HA.out, addE_some ⟨hOK, hT⟩ HO.out hx0 HGG.out, ← HDD.out, ← Hcw.out]
            rfl
          obtain ⟨g, c3, hA3, _, _⟩ := HEN2.out.eno.bo.own.form (by omega)
          obtain ⟨rfl, rfl⟩ : A3 = some ⟨g, 0, none⟩ ∧ z3 = c3 := by injection hA3 with h1 h2 h3; exact ⟨h1, h3⟩
          have hii : (i : Int) < (L1.length : Int) := by omega
          have hi0 : (0 : Int) ≤ (i : Int) := by omega
          have hFB : Bel w5 (w5.alloc (.cells #[.int .i64 V, .slice A5 fs.length c5] 27)) := bI
          have hF6 := AtF.new_at (w := w5) rfl 27 [.int .i64 V, .slice A5 fs.length c5]
          simp only [List.toArray] at hF6
          have h5s := hb5.size
          have h4s := hb4.size
          have hN6 := hN.bel (hb5.trans hFB)
          have hE6 := (ElN.newF HEN2.out hb5 (fs' := G1) (by rw [hSL]; exact ho5) h4s (by omega)).keep hFB
          have hOF6 : Off N (.slice A5 fs.length c5) (.slice A2 bs.length z2) (.slice (some ⟨g, 0, none⟩) L1.length z3) L1 := ⟨fun e => by have := (ho5.lt _ e).1; omega, HOF.out.b, HOF.out.e, HOF.out.m⟩
          have hY6 := hY1.bel (hb5.trans hFB)
          have hR6 := hR1.bel (hb5.trans hFB)
          have hb6 := hbc.trans (hb5.trans hFB)
          have h6s := hFB.size
          have hcy : Mems W1 (Bu.at ⟨i1, t1, k1, s1, n1, d1, f1, ms1, m1⟩ a1 c1) ms1 := HYM.out _ hbc
          go_upto_region 10 with fail
          generalize w5.alloc (.cells #[.int .i64 V, .slice A5 fs.length c5] 27) = W6 at *
          generalize w5.heap.size = FB at *
          have n6 := hN6.1.2 6 _ rfl
          have nl := hN6.1.1
          go_upto_region 11 with fail
          have hgl : g < W6.heap.size := (hE6.eno.bo.own.lt g rfl).2
          have hrow : InRow W6 g (0 + i * 12) (Qd.mk (Bun.mk j1 t2 k2 s2 n2 d2 f2 a2 ms2.length c2 m2) du st tr).cells := row_at (l := L1.map QM.q) Qd.cells_len (fun j u hu => by have h := hE6.eno.bo.own.cells (g := g) rfl j u hu; rw [add_zero_off] at h; rw [Nat.zero_add]; exact h) (by rw [List.getElem?_map, hx1]; rfl)
          rw [Nat.zero_add] at hrow
          have hc9 : ∀ j v, ([.int .i64 j1, .int .i64 t2, .int .i64 k2, .int .i64 s2, .int .i64 n2, .string d2, .bool f2, .slice a2 ms2.length c2, .int .i64 m2] : List Value)[j]? = some v → W6.cell? ⟨g, i * 12 + j, none⟩ = some v := fun j v h => hrow.all j v (by
            have hj := (List.getElem?_eq_some_iff.1 h).1
            show ([.int .i64 j1, .int .i64 t2, .int .i64 k2, .int .i64 s2, .int .i64 n2, .string d2, .bool f2, .slice a2 ms2.length c2, .int .i64 m2] ++ [.int .i64 du, .int .i64 st, .int .i64 tr] : List Value)[j]? = some v
            rw [List.getElem?_append_left hj]; exact h)
          have hxm := hE6.eno.bo.mem _ (List.mem_of_getElem? hx1)
          have hym := hcy.bel (hb5.trans hFB)
          have hJC := Lib.hid (fun (w' : World) (h : Bel W6 w') => join_any ⟨⟨j1, t2, k2, s2, n2, d2, f2, a2, ms2.length, c2, m2⟩, ms2⟩ ⟨⟨i1, t1, k1, s1, n1, d1, f1, a1, ms1.length, c1, m1⟩, ms1⟩ cw w' (hxm.bel h) (hym.bel h))
          obtain ⟨J, HJ⟩ : ∃ J, Hid (joinU (BM.bu ⟨⟨j1, t2, k2, s2, n2, d2, f2, a2, ms2.length, c2, m2⟩, ms2⟩) (BM.bu ⟨⟨i1, t1, k1, s1, n1, d1, f1, a1, ms1.length, c1, m1⟩, ms1⟩) cw = J) := ⟨_, rfl⟩
          rw [HJ.out] at hJC
          simp only [Bu.at] at hJC
          clear hxm hym n6 nl
          let EAS : World → Prop := fun W' => AtF W' (w.heap.size + 2) [.int .i64 i1, .int .i64 t1, .int .i64 k1, .int .i64 s1, .int .i64 n1, .string d1, .bool f1, .slice a1 ms1.length c1, .int .i64 m1] ∧ AtF W' FB [.int .i64 V, .slice A5 fs.length c5]
          haveI nnS : Nonempty (InS EAS) := ⟨⟨W6, hY6, hF6⟩⟩
          have hgF : FB ≠ g := by have := (HEN2.out.eno.bo.own.lt g rfl).2; omega
          have hgY : w.heap.size + 2 ≠ g := by have := (HEN2.out.eno.bo.own.lt g rfl).1; omega
          clear HCE HV HD HP HS HCB HV0 hb4 hb5 HLN HY HYM hbc hL1 hE1 hY1 hcwb hhow hx0 hNs2
          refine wp_region_sts EAS [5, 8, 12, 18, 21] 22 (by kernel_rfl) (by kernel_rfl) ?hS0 ?_
          case hS0 => exact ⟨hY6.drew, hF6.drew⟩
          with_reducible refine st_sel [0, 1, 2, 3, 4, 6, 7, 9, 10, 11, 13, 15] (by kernel_rfl) (by kernel_rfl) ?_
          simp only [picked, List.getElem?_cons_succ, List.getElem?_cons_zero, Option.toList_some, List.nil_append, List.cons_append, List.append_nil]
          go_big_quiet_step (fail)
          go_big_quiet_step (fail)
          go_big_quiet_step (fail)
          go_big_quiet_step (fail)
          go_big_quiet_step (fail)
          refine wpQuiet_load_s rfl 44 _ rfl rfl (fun w' h => h.1) _ Tryz.underlying44 rfl (by kernel_rfl) ?_
          try simp only [Act.put, List.setIfInBounds_toArray, List.set_cons_succ, List.set_cons_zero]
          go_big_quiet_step (fail)
          go_big_quiet_step (fail)
          go_big_quiet_step (fail)
          go_big_quiet_step (fail)
          go_big_quiet_step (fail)
          refine wpQuiet_load_s rfl 27 _ rfl rfl (fun w' h => h.2) _ Tryz.underlying27 rfl (by kernel_rfl) ?_
          with_reducible refine wpQuiet_nil ?_
          try simp only [List.nil_append, List.cons_append, Act.put, List.setIfInBounds_toArray, List.set_cons_succ, List.set_cons_zero]
          refine st_branch [5, 12] (by kernel_rfl) (branch_cons (by simp only [List.getElem?_toArray, List.getElem?_cons_succ, List.getElem?_cons_zero]; rfl) ?_ (branch_cons (by simp only [List.getElem?_toArray, List.getElem?_cons_succ, List.getElem?_cons_zero]; rfl) ?_ branch_nil))
          · skip
            refine eff_made_s rfl (exec_load_off (W := W6.drew) 44 _ rfl rfl (fun j v h => hc9 j v h) _ Tryz.underlying44 rfl (by kernel_rfl)) ?_ ?_
            · exact ⟨hY6.drew, hF6.drew⟩
            try simp only [List.nil_append, List.cons_append, Act.put, List.setIfInBounds_toArray, List.set_cons_succ, List.set_cons_zero]
            refine st_branch [8, 12] (by kernel_rfl) (branch_cons (by simp only [List.getElem?_toArray, List.getElem?_cons_succ, List.getElem?_cons_zero]; rfl) ?_ (branch_cons (by simp only [List.getElem?_toArray, List.getElem?_cons_succ, List.getElem?_cons_zero]; rfl) ?_ branch_nil))
            · skip
              refine eff_call_s 24 rfl (by simp [go_sem]; rfl) ⟨hY6.drew, hF6.drew⟩ ?_
              refine (hJC.out _ bI).mono ?_; rintro e w7 ⟨A7, c7, rfl, hZ, hb7⟩
              have hb7' : Bel W6 w7 := bI
              refine ⟨_, rfl, ⟨hY6.bel hb7', hF6.bel hb7'⟩, ?_⟩
              try simp only [List.nil_append, List.cons_append, Act.put, List.setIfInBounds_toArray, List.set_cons_succ, List.set_cons_zero]
              refine st_branch [12] (by kernel_rfl) (branch_cons (by simp only [List.getElem?_toArray, List.getElem?_cons_succ, List.getElem?_cons_zero]; rfl) ?_ branch_nil)
              have hdd : w7.cell? ⟨g, i * 12 + 9, none⟩ = some (.int .i64 du) := (hrow.bel hb7' hgl).cell 9 rfl
              refine eff_made_s rfl (by simp [go_sem, hdd]; exact ⟨rfl, rfl⟩) ?_ ?_
              · exact ⟨hY6.bel hb7', hF6.bel hb7'⟩
              clear hdd
              try simp only [List.nil_append, List.cons_append, Act.put, List.setIfInBounds_toArray, List.set_cons_succ, List.set_cons_zero]
              with_reducible refine st_sel [14, 16, 17] (by kernel_rfl) (by kernel_rfl) ?_
              simp only [picked, List.getElem?_cons_succ, List.getElem?_cons_zero, Option.toList_some, List.nil_append, List.cons_append, List.append_nil]
              go_big_quiet_step (fail)
              go_big_quiet_step (fail)
              go_big_quiet_step (fail)
              with_reducible refine wpQuiet_nil ?_
              try simp only [List.nil_append, List.cons_append, Act.put, List.setIfInBounds_toArray, List.set_cons_succ, List.set_cons_zero]
              refine st_branch [18] (by kernel_rfl) (branch_cons (by simp only [List.getElem?_toArray, List.getElem?_cons_succ, List.getElem?_cons_zero]; rfl) ?_ branch_nil)
              have hE7 := hE6.keep hb7'
              have hrow7 := hrow.bel hb7' hgl
              have gf := fun j => hE7.eno.bo.own.frozenAt (g := g) j
              have hc7 : ∀ j v, ([.int .i64 j1, .int .i64 t2, .int .i64 k2, .int .i64 s2, .int .i64 n2, .string d2, .bool f2, .slice a2 ms2.length c2, .int .i64 m2] : List Value)[j]? = some v → w7.cell? ⟨g, i * 12 + j, none⟩ = some v := fun j v h => hrow7.all j v (by
                have hj := (List.getElem?_eq_some_iff.1 h).1
                show ([.int .i64 j1, .int .i64 t2, .int .i64 k2, .int .i64 s2, .int .i64 n2, .string d2, .bool f2, .slice a2 ms2.length c2, .int .i64 m2] ++ [.int .i64 du, .int .i64 st, .int .i64 tr] : List Value)[j]? = some v
                rw [List.getElem?_append_left hj]; exact h)
              have one9 : ∀ u ∈ ([.int .i64 J.id, .int .i64 J.ten, .int .i64 J.knd, .int .i64 J.sec, .int .i64 J.cnt, .string J.dat, .bool J.fua, .slice A7 J.ms.length c7, .int .i64 J.tim] : List Value), u.oneCell' = true := fun u hu => by
                simp only [List.mem_cons, List.not_mem_nil, or_false] at hu
                rcases hu with rfl | rfl | rfl | rfl | rfl | rfl | rfl | rfl | rfl <;> rfl
              with_reducible refine eff_done_s (w' := setRow w7 g (i * 12) [.int .i64 J.id, .int .i64 J.ten, .int .i64 J.knd, .int .i64 J.sec, .int .i64 J.cnt, .string J.dat, .bool J.fua, .slice A7 J.ms.length c7, .int .i64 J.tim]) ?_ ?_ ?_ ?_
              · rfl
              · exact exec_store_off (vs := [.int .i64 J.id, .int .i64 J.ten, .int .i64 J.knd, .int .i64 J.sec, .int .i64 J.cnt, .string J.dat, .bool J.fua, .slice A7 J.ms.length c7, .int .i64 J.tim]) 44 _ _ rfl rfl rfl hc7 (fun j => gf (i * 12 + j)) rfl one9 (by kernel_rfl)
              · exact ⟨(hY6.bel hb7').setRow_other (B := g) (i := i * 12) [.int .i64 J.id, .int .i64 J.ten, .int .i64 J.knd, .int .i64 J.sec, .int .i64 J.cnt, .string J.dat, .bool J.fua, .slice A7 J.ms.length c7, .int .i64 J.tim] hgY, (hF6.bel hb7').setRow_other (B := g) (i := i * 12) [.int .i64 J.id, .int .i64 J.ten, .int .i64 J.knd, .int .i64 J.sec, .int .i64 J.cnt, .string J.dat, .bool J.fua, .slice A7 J.ms.length c7, .int .i64 J.tim] hgF⟩
              have hY8 := (hY6.bel hb7').setRow_other (B := g) (i := i * 12) [.int .i64 J.id, .int .i64 J.ten, .int .i64 J.knd, .int .i64 J.sec, .int .i64 J.cnt, .string J.dat, .bool J.fua, .slice A7 J.ms.length c7, .int .i64 J.tim] hgY
              have hF8 := (hF6.bel hb7').setRow_other (B := g) (i := i * 12) [.int .i64 J.id, .int .i64 J.ten, .int .i64 J.knd, .int .i64 J.sec, .int .i64 J.cnt, .string J.dat, .bool J.fua, .slice A7 J.ms.length c7, .int .i64 J.tim] hgF
              have hO8 := own_setRow [.int .i64 J.id, .int .i64 J.ten, .int .i64 J.knd, .int .i64 J.sec, .int .i64 J.cnt, .string J.dat, .bool J.fua, .slice A7 J.ms.length c7, .int .i64 J.tim] (i := i * 12) hE7.eno.bo.own
              generalize hW8 : setRow w7 g (i * 12) [.int .i64 J.id, .int .i64 J.ten, .int .i64 J.knd, .int .i64 J.sec, .int .i64 J.cnt, .string J.dat, .bool J.fua, .slice A7 J.ms.length c7, .int .i64 J.tim] = W8
              rw [hW8] at hY8 hF8 hO8
              have h89 : (setL (qmc L1) (i * 12) [.int .i64 J.id, .int .i64 J.ten, .int .i64 J.knd, .int .i64 J.sec, .int .i64 J.cnt, .string J.dat, .bool J.fua, .slice A7 J.ms.length c7, .int .i64 J.tim])[i * 12 + 9]? = some (.int .i64 du) := by
                rw [setL_getElem? [.int .i64 J.id, .int .i64 J.ten, .int .i64 J.knd, .int .i64 J.sec, .int .i64 J.cnt, .string J.dat, .bool J.fua, .slice A7 J.ms.length c7, .int .i64 J.tim] (qmc L1) (i * 12) (i * 12 + 9) (Or.inr (Nat.le_refl _))]
                exact flat_at (l := L1.map QM.q) (f := Qd.cells) Qd.cells_len (by rw [List.getElem?_map, hx1]; rfl) (j := 9) rfl
              have c89 := hO8.cells (g := g) rfl _ _ h89
              rw [add_zero_off] at c89
              have f89 := hO8.frozenAt (g := g) (i * 12 + 9)
              clear h89
              try simp only [List.nil_append, List.cons_append, Act.put, List.setIfInBounds_toArray, List.set_cons_succ, List.set_cons_zero]
              with_reducible refine st_sel [19, 20] (by kernel_rfl) (by kernel_rfl) ?_
              simp only [picked, List.getElem?_cons_succ, List.getElem?_cons_zero, Option.toList_some, List.nil_append, List.cons_append, List.append_nil]
              go_big_quiet_step (fail)
              go_big_quiet_step (fail)
              with_reducible refine wpQuiet_nil ?_
              try simp only [List.nil_append, List.cons_append, Act.put, List.setIfInBounds_toArray, List.set_cons_succ, List.set_cons_zero]
              refine st_branch [21] (by kernel_rfl) (branch_cons (by simp only [List.getElem?_toArray, List.getElem?_cons_succ, List.getElem?_cons_zero]; rfl) ?_ branch_nil)
              with_reducible refine eff_done_s (w' := W8.setCell ⟨g, i * 12 + 9, none⟩ (.int .i64 (if D < du then D else du))) ?_ ?_ ?_ ?_
              · rfl
              · simp [go_sem, c89, f89]
              · exact ⟨hY8.other hgY (i * 12 + 9) _, hF8.other hgF (i * 12 + 9) _⟩
              try simp only [List.nil_append, List.cons_append, Act.put, List.setIfInBounds_toArray, List.set_cons_succ, List.set_cons_zero]
              have hmin : (if D < du then D else du) = min du D := by rw [Int.min_def]; split <;> split <;> omega
              rw [hmin]
              have hw9 : W8.setCell ⟨g, i * 12 + 9, none⟩ (.int .i64 (min du D)) = setRow w7 g (i * 12) [.int .i64 J.id, .int .i64 J.ten, .int .i64 J.knd, .int .i64 J.sec, .int .i64 J.cnt, .string J.dat, .bool J.fua, .slice A7 J.ms.length c7, .int .i64 J.tim, .int .i64 (min du D)] := by rw [← hW8]; rfl
              generalize W8.setCell ⟨g, i * 12 + 9, none⟩ (.int .i64 (min du D)) = W9 at *
              refine st_end (by kernel_rfl) ?_
              simp only [List.drop_succ_cons, List.drop_zero, List.drop_nil]
              obtain ⟨yq, Hyq⟩ : ∃ y : QM, Hid (y = ⟨⟨Bu.at J A7 c7, min du D, st, tr⟩, J.ms⟩) := ⟨_, rfl⟩
              have hgN : N ≠ g := by have := (HEN2.out.eno.bo.own.lt g rfl).2; exact fun e => HOF.out.e (by rw [e]; rfl)
              have hE9 : ElN W9 W.heap.size (.slice A5 fs.length c5) (.slice A2 bs.length z2) (.slice (some ⟨g, 0, none⟩) L1.length z3) G1 bs (L1.set i yq) := by
                have h := ElN.setV (y := yq) hE7 hx1 (vs := [.int .i64 J.id, .int .i64 J.ten, .int .i64 J.knd, .int .i64 J.sec, .int .i64 J.cnt, .string J.dat, .bool J.fua, .slice A7 J.ms.length c7, .int .i64 J.tim, .int .i64 (min du D)]) (setL_ten hx1 (by rw [Hyq.out]; rfl) rfl) (by rw [Hyq.out]; exact hZ.1) (fun q hq => by
                  rw [Hyq.out] at hq
                  have h1 := hZ.2 q hq
                  simp only [World.size_drew] at h1
                  exact ⟨by omega, by omega, fun e => by have := (hE6.flo.lt q e).2; omega, fun e => by have := (hE6.buo.lt q e).2; omega⟩)
                rw [List.length_set] at h
                rw [hw9]; exact h
              have hOF9 : Off N (.slice A5 fs.length c5) (.slice A2 bs.length z2) (.slice (some ⟨g, 0, none⟩) L1.length z3) (L1.set i yq) := by
                refine ⟨hOF6.f, hOF6.b, hOF6.e, fun z hz h0 e => ?_⟩
                rcases List.mem_or_eq_of_mem_set hz with hz | hz
                · exact HOF.out.m z hz h0 e
                · rw [hz, Hyq.out] at e
                  have h1 := hZ.2 N e
                  have h2 := hN6.1.1
                  simp only [World.size_drew] at h1
                  omega
              have hN9 : AtF W9 N [.int .i64 knd, .int .i64 rd, .int .i64 wt, .int .i64 V, .slice A1 fs.length z1, .slice A2 bs.length z2, .slice (some ⟨g, 0, none⟩) L1.length z3, .int .i64 hd] := by rw [hw9]; exact (hN6.bel hb7').setRow_other (B := g) (i := i * 12) _ hgN
              have hR9' : AtF W9 (w.heap.size + 3) [.int .i64 0, .int .i64 0, .int .i64 0, .int .i64 0, .slice none 0 0, .slice none 0 0, .slice none 0 0, .int .i64 0] := by rw [hw9]; exact (hR6.bel hb7').setRow_other (B := g) (i := i * 12) _ (by have := (HEN2.out.eno.bo.own.lt g rfl).1; omega)
              have hb9' : Bel w W9 := by rw [hw9]; exact Bel.setRow (B := g) (i := i * 12) _ (hb6.trans hb7') (by have := (HEN2.out.eno.bo.own.lt g rfl).1; omega)
              have hCP : (L1.set i yq).map QM.qu = (L.map QM.qu).set i ⟨joinU x0.u ⟨i1, t1, k1, s1, n1, d1, f1, ms1, m1⟩ cw, min x0.due D, x0.sta, x0.tri⟩ := by
                rw [List.map_set, HCP.out.bu, Hyq.out, ← hq1]
                show (L.map QM.qu).set i ⟨J, min du D, st, tr⟩ = _
                rw [← HJ.out]; rfl
              clear hE7 hO8 hY8 hF8 c89 f89 hW8 hZ hb7 hb7' gf hc7 hrow7 hc9 hrow hE6 hY6 hF6 hR6 hb6 hN6 hJC hw9 one9
              have n3 := hN9.1.2 3 _ rfl
              have n4 := hN9.1.2 4 _ rfl
              have nl := hN9.1.1
              have nf := hN9.2
              have hN10 := (hN9.set 3 (by simp) (.int .i64 V)).set 4 (by simp) (.slice A5 fs.length c5)
              have hE10 := (hE9.off (p := ⟨N, 3, none⟩) hOF9 (.int .i64 V)).off (p := ⟨N, 4, none⟩) hOF9 (.slice A5 fs.length c5)
              have hb10 := (hb9'.setNew (p := ⟨N, 3, none⟩) (by show w.heap.size ≤ N; omega) (.int .i64 V)).setNew (p := ⟨N, 4, none⟩) (by show w.heap.size ≤ N; omega) (.slice A5 fs.length c5)
              have hR10 := (hR9'.other (C := N) (by omega) 3 (.int .i64 V)).other (C := N) (by omega) 4 (.slice A5 fs.length c5)
              simp only [List.set_cons_succ, List.set_cons_zero] at hN10
              clear hN9 hE9 hb9' hR9'
              go_upto_region 12 with fail
              have hi8 : (Tryz.prog.info? 31).map (·.size) = some 8 := by kernel_rfl
              have one8 : ∀ u ∈ ([.int .i64 knd, .int .i64 rd, .int .i64 wt, .int .i64 V, .slice A5 fs.length c5, .slice A2 bs.length z2, .slice (some ⟨g, 0, none⟩) L1.length z3, .int .i64 hd] : List Value), u.oneCell' = true := fun u hu => by
                simp only [List.mem_cons, List.not_mem_nil, or_false] at hu
                rcases hu with rfl | rfl | rfl | rfl | rfl | rfl | rfl | rfl <;> rfl
              refine wp_region_lit ?_
              refine wpList_load_at rfl 31 _ rfl rfl hN10 _ Tryz.underlying31 rfl hi8 ?_
              refine wpList_store_at rfl 31 _ _ rfl rfl rfl hR10 rfl one8 hi8 ?_
              have hR9 := (hR10).setRow [.int .i64 knd, .int .i64 rd, .int .i64 wt, .int .i64 V, .slice A5 fs.length c5, .slice A2 bs.length z2, .slice (some ⟨g, 0, none⟩) L1.length z3, .int .i64 hd] rfl
              have hE9 := (ElN.setRow (B := w.heap.size + 3) (i := 0) [.int .i64 knd, .int .i64 rd, .int .i64 wt, .int .i64 V, .slice A5 fs.length c5, .slice A2 bs.length z2, .slice (some ⟨g, 0, none⟩) L1.length z3, .int .i64 hd] hE10 (by omega)).mono (base' := w.heap.size) (by omega)
              have hb9 := Bel.setRow (B := w.heap.size + 3) (i := 0) [.int .i64 knd, .int .i64 rd, .int .i64 wt, .int .i64 V, .slice A5 fs.length c5, .slice A2 bs.length z2, .slice (some ⟨g, 0, none⟩) L1.length z3, .int .i64 hd] hb10 (by omega)
              have hlv := loadVar_at (P := Tryz.prog) 31 hR9 _ Tryz.underlying31 rfl hi8
              generalize setRow _ (w.heap.size + 3) 0 [.int .i64 knd, .int .i64 rd, .int .i64 wt, .int .i64 V, .slice A5 fs.length c5, .slice A2 bs.length z2, .slice (some ⟨g, 0, none⟩) L1.length z3, .int .i64 hd] = W10 at *
              simp only [Act.put, Act.eval, List.setIfInBounds_toArray, List.set_cons_succ, List.set_cons_zero]
              go_wp2
              subst hA0
              exact bodyPost_ret (v := .tuple #[.agg #[.int .i64 knd, .int .i64 rd, .int .i64 wt, .int .i64 V, .slice A5 fs.length c5, .slice A2 bs.length z2, .slice (some ⟨g, 0, none⟩) L1.length z3, .int .i64 hd], .bool true]) (by simp [results, Tryz.results8, hlv, asAddr]) rfl ⟨_, _, _, _, rfl, hE9, hCP, hb9⟩
            · skip
              have hdd : W6.drew.cell? ⟨g, i * 12 + 9, none⟩ = some (.int .i64 du) := hrow.cell 9 rfl
              refine eff_made_s rfl (by simp [go_sem, hdd]; exact ⟨rfl, rfl⟩) ?_ ?_
              · exact ⟨hY6.drew, hF6.drew⟩
              clear hdd
              try simp only [List.nil_append, List.cons_append, Act.put, List.setIfInBounds_toArray, List.set_cons_succ, List.set_cons_zero]
              with_reducible refine st_sel [14] (by kernel_rfl) (by kernel_rfl) ?_
              simp only [picked, List.getElem?_cons_succ, List.getElem?_cons_zero, Option.toList_some, List.nil_append, List.cons_append, List.append_nil]
              go_big_quiet_step (fail)
              with_reducible refine wpQuiet_nil ?_
              try simp only [List.nil_append, List.cons_append, Act.put, List.setIfInBounds_toArray, List.set_cons_succ, List.set_cons_zero]
              refine st_branch [8] (by kernel_rfl) (branch_cons (by simp only [List.getElem?_toArray, List.getElem?_cons_succ, List.getElem?_cons_zero]; rfl) ?_ branch_nil)
              refine eff_call_s 24 rfl (by simp [go_sem]; rfl) ⟨hY6.drew, hF6.drew⟩ ?_
              refine (hJC.out _ bI).mono ?_; rintro e w7 ⟨A7, c7, rfl, hZ, hb7⟩
              have hb7' : Bel W6 w7 := bI
              refine ⟨_, rfl, ⟨hY6.bel hb7', hF6.bel hb7'⟩, ?_⟩
              try simp only [List.nil_append, List.cons_append, Act.put, List.setIfInBounds_toArray, List.set_cons_succ, List.set_cons_zero]
              with_reducible refine st_sel [16, 17] (by kernel_rfl) (by kernel_rfl) ?_
              simp only [picked, List.getElem?_cons_succ, List.getElem?_cons_zero, Option.toList_some, List.nil_append, List.cons_append, List.append_nil]
              go_big_quiet_step (fail)
              go_big_quiet_step (fail)
              with_reducible refine wpQuiet_nil ?_
              try simp only [List.nil_append, List.cons_append, Act.put, List.setIfInBounds_toArray, List.set_cons_succ, List.set_cons_zero]
              refine st_branch [18] (by kernel_rfl) (branch_cons (by simp only [List.getElem?_toArray, List.getElem?_cons_succ, List.getElem?_cons_zero]; rfl) ?_ branch_nil)
              have hE7 := hE6.keep hb7'
              have hrow7 := hrow.bel hb7' hgl
              have gf := fun j => hE7.eno.bo.own.frozenAt (g := g) j
              have hc7 : ∀ j v, ([.int .i64 j1, .int .i64 t2, .int .i64 k2, .int .i64 s2, .int .i64 n2, .string d2, .bool f2, .slice a2 ms2.length c2, .int .i64 m2] : List Value)[j]? = some v → w7.cell? ⟨g, i * 12 + j, none⟩ = some v := fun j v h => hrow7.all j v (by
                have hj := (List.getElem?_eq_some_iff.1 h).1
                show ([.int .i64 j1, .int .i64 t2, .int .i64 k2, .int .i64 s2, .int .i64 n2, .string d2, .bool f2, .slice a2 ms2.length c2, .int .i64 m2] ++ [.int .i64 du, .int .i64 st, .int .i64 tr] : List Value)[j]? = some v
                rw [List.getElem?_append_left hj]; exact h)
              have one9 : ∀ u ∈ ([.int .i64 J.id, .int .i64 J.ten, .int .i64 J.knd, .int .i64 J.sec, .int .i64 J.cnt, .string J.dat, .bool J.fua, .slice A7 J.ms.length c7, .int .i64 J.tim] : List Value), u.oneCell' = true := fun u hu => by
                simp only [List.mem_cons, List.not_mem_nil, or_false] at hu
                rcases hu with rfl | rfl | rfl | rfl | rfl | rfl | rfl | rfl | rfl <;> rfl
              with_reducible refine eff_done_s (w' := setRow w7 g (i * 12) [.int .i64 J.id, .int .i64 J.ten, .int .i64 J.knd, .int .i64 J.sec, .int .i64 J.cnt, .string J.dat, .bool J.fua, .slice A7 J.ms.length c7, .int .i64 J.tim]) ?_ ?_ ?_ ?_
              · rfl
              · exact exec_store_off (vs := [.int .i64 J.id, .int .i64 J.ten, .int .i64 J.knd, .int .i64 J.sec, .int .i64 J.cnt, .string J.dat, .bool J.fua, .slice A7 J.ms.length c7, .int .i64 J.tim]) 44 _ _ rfl rfl rfl hc7 (fun j => gf (i * 12 + j)) rfl one9 (by kernel_rfl)
              · exact ⟨(hY6.bel hb7').setRow_other (B := g) (i := i * 12) [.int .i64 J.id, .int .i64 J.ten, .int .i64 J.knd, .int .i64 J.sec, .int .i64 J.cnt, .string J.dat, .bool J.fua, .slice A7 J.ms.length c7, .int .i64 J.tim] hgY, (hF6.bel hb7').setRow_other (B := g) (i := i * 12) [.int .i64 J.id, .int .i64 J.ten, .int .i64 J.knd, .int .i64 J.sec, .int .i64 J.cnt, .string J.dat, .bool J.fua, .slice A7 J.ms.length c7, .int .i64 J.tim] hgF⟩
              have hY8 := (hY6.bel hb7').setRow_other (B := g) (i := i * 12) [.int .i64 J.id, .int .i64 J.ten, .int .i64 J.knd, .int .i64 J.sec, .int .i64 J.cnt, .string J.dat, .bool J.fua, .slice A7 J.ms.length c7, .int .i64 J.tim] hgY
              have hF8 := (hF6.bel hb7').setRow_other (B := g) (i := i * 12) [.int .i64 J.id, .int .i64 J.ten, .int .i64 J.knd, .int .i64 J.sec, .int .i64 J.cnt, .string J.dat, .bool J.fua, .slice A7 J.ms.length c7, .int .i64 J.tim] hgF
              have hO8 := own_setRow [.int .i64 J.id, .int .i64 J.ten, .int .i64 J.knd, .int .i64 J.sec, .int .i64 J.cnt, .string J.dat, .bool J.fua, .slice A7 J.ms.length c7, .int .i64 J.tim] (i := i * 12) hE7.eno.bo.own
              generalize hW8 : setRow w7 g (i * 12) [.int .i64 J.id, .int .i64 J.ten, .int .i64 J.knd, .int .i64 J.sec, .int .i64 J.cnt, .string J.dat, .bool J.fua, .slice A7 J.ms.length c7, .int .i64 J.tim] = W8
              rw [hW8] at hY8 hF8 hO8
              have h89 : (setL (qmc L1) (i * 12) [.int .i64 J.id, .int .i64 J.ten, .int .i64 J.knd, .int .i64 J.sec, .int .i64 J.cnt, .string J.dat, .bool J.fua, .slice A7 J.ms.length c7, .int .i64 J.tim])[i * 12 + 9]? = some (.int .i64 du) := by
                rw [setL_getElem? [.int .i64 J.id, .int .i64 J.ten, .int .i64 J.knd, .int .i64 J.sec, .int .i64 J.cnt, .string J.dat, .bool J.fua, .slice A7 J.ms.length c7, .int .i64 J.tim] (qmc L1) (i * 12) (i * 12 + 9) (Or.inr (Nat.le_refl _))]
                exact flat_at (l := L1.map QM.q) (f := Qd.cells) Qd.cells_len (by rw [List.getElem?_map, hx1]; rfl) (j := 9) rfl
              have c89 := hO8.cells (g := g) rfl _ _ h89
              rw [add_zero_off] at c89
              have f89 := hO8.frozenAt (g := g) (i * 12 + 9)
              clear h89
              try simp only [List.nil_append, List.cons_append, Act.put, List.setIfInBounds_toArray, List.set_cons_succ, List.set_cons_zero]
              with_reducible refine st_sel [19, 20] (by kernel_rfl) (by kernel_rfl) ?_
              simp only [picked, List.getElem?_cons_succ, List.getElem?_cons_zero, Option.toList_some, List.nil_append, List.cons_append, List.append_nil]
              go_big_quiet_step (fail)
              go_big_quiet_step (fail)
              with_reducible refine wpQuiet_nil ?_
              try simp only [List.nil_append, List.cons_append, Act.put, List.setIfInBounds_toArray, List.set_cons_succ, List.set_cons_zero]
              refine st_branch [21] (by kernel_rfl) (branch_cons (by simp only [List.getElem?_toArray, List.getElem?_cons_succ, List.getElem?_cons_zero]; rfl) ?_ branch_nil)
              with_reducible refine eff_done_s (w' := W8.setCell ⟨g, i * 12 + 9, none⟩ (.int .i64 (if D < du then D else du))) ?_ ?_ ?_ ?_
              · rfl
              · simp [go_sem, c89, f89]
              · exact ⟨hY8.other hgY (i * 12 + 9) _, hF8.other hgF (i * 12 + 9) _⟩
              try simp only [List.nil_append, List.cons_append, Act.put, List.setIfInBounds_toArray, List.set_cons_succ, List.set_cons_zero]
              have hmin : (if D < du then D else du) = min du D := by rw [Int.min_def]; split <;> split <;> omega
              rw [hmin]
              have hw9 : W8.setCell ⟨g, i * 12 + 9, none⟩ (.int .i64 (min du D)) = setRow w7 g (i * 12) [.int .i64 J.id, .int .i64 J.ten, .int .i64 J.knd, .int .i64 J.sec, .int .i64 J.cnt, .string J.dat, .bool J.fua, .slice A7 J.ms.length c7, .int .i64 J.tim, .int .i64 (min du D)] := by rw [← hW8]; rfl
              generalize W8.setCell ⟨g, i * 12 + 9, none⟩ (.int .i64 (min du D)) = W9 at *
              refine st_end (by kernel_rfl) ?_
              simp only [List.drop_succ_cons, List.drop_zero, List.drop_nil]
              obtain ⟨yq, Hyq⟩ : ∃ y : QM, Hid (y = ⟨⟨Bu.at J A7 c7, min du D, st, tr⟩, J.ms⟩) := ⟨_, rfl⟩
              have hgN : N ≠ g := by have := (HEN2.out.eno.bo.own.lt g rfl).2; exact fun e => HOF.out.e (by rw [e]; rfl)
              have hE9 : ElN W9 W.heap.size (.slice A5 fs.length c5) (.slice A2 bs.length z2) (.slice (some ⟨g, 0, none⟩) L1.length z3) G1 bs (L1.set i yq) := by
                have h := ElN.setV (y := yq) hE7 hx1 (vs := [.int .i64 J.id, .int .i64 J.ten, .int .i64 J.knd, .int .i64 J.sec, .int .i64 J.cnt, .string J.dat, .bool J.fua, .slice A7 J.ms.length c7, .int .i64 J.tim, .int .i64 (min du D)]) (setL_ten hx1 (by rw [Hyq.out]; rfl) rfl) (by rw [Hyq.out]; exact hZ.1) (fun q hq => by
                  rw [Hyq.out] at hq
                  have h1 := hZ.2 q hq
                  simp only [World.size_drew] at h1
                  exact ⟨by omega, by omega, fun e => by have := (hE6.flo.lt q e).2; omega, fun e => by have := (hE6.buo.lt q e).2; omega⟩)
                rw [List.length_set] at h
                rw [hw9]; exact h
              have hOF9 : Off N (.slice A5 fs.length c5) (.slice A2 bs.length z2) (.slice (some ⟨g, 0, none⟩) L1.length z3) (L1.set i yq) := by
                refine ⟨hOF6.f, hOF6.b, hOF6.e, fun z hz h0 e => ?_⟩
                rcases List.mem_or_eq_of_mem_set hz with hz | hz
                · exact HOF.out.m z hz h0 e
                · rw [hz, Hyq.out] at e
                  have h1 := hZ.2 N e
                  have h2 := hN6.1.1
                  simp only [World.size_drew] at h1
                  omega
              have hN9 : AtF W9 N [.int .i64 knd, .int .i64 rd, .int .i64 wt, .int .i64 V, .slice A1 fs.length z1, .slice A2 bs.length z2, .slice (some ⟨g, 0, none⟩) L1.length z3, .int .i64 hd] := by rw [hw9]; exact (hN6.bel hb7').setRow_other (B := g) (i := i * 12) _ hgN
              have hR9' : AtF W9 (w.heap.size + 3) [.int .i64 0, .int .i64 0, .int .i64 0, .int .i64 0, .slice none 0 0, .slice none 0 0, .slice none 0 0, .int .i64 0] := by rw [hw9]; exact (hR6.bel hb7').setRow_other (B := g) (i := i * 12) _ (by have := (HEN2.out.eno.bo.own.lt g rfl).1; omega)
              have hb9' : Bel w W9 := by rw [hw9]; exact Bel.setRow (B := g) (i := i * 12) _ (hb6.trans hb7') (by have := (HEN2.out.eno.bo.own.lt g rfl).1; omega)
              have hCP : (L1.set i yq).map QM.qu = (L.map QM.qu).set i ⟨joinU x0.u ⟨i1, t1, k1, s1, n1, d1, f1, ms1, m1⟩ cw, min x0.due D, x0.sta, x0.tri⟩ := by
                rw [List.map_set, HCP.out.bu, Hyq.out, ← hq1]
                show (L.map QM.qu).set i ⟨J, min du D, st, tr⟩ = _
                rw [← HJ.out]; rfl
              clear hE7 hO8 hY8 hF8 c89 f89 hW8 hZ hb7 hb7' gf hc7 hrow7 hc9 hrow hE6 hY6 hF6 hR6 hb6 hN6 hJC hw9 one9
              have n3 := hN9.1.2 3 _ rfl
              have n4 := hN9.1.2 4 _ rfl
              have nl := hN9.1.1
              have nf := hN9.2
              have hN10 := (hN9.set 3 (by simp) (.int .i64 V)).set 4 (by simp) (.slice A5 fs.length c5)
              have hE10 := (hE9.off (p := ⟨N, 3, none⟩) hOF9 (.int .i64 V)).off (p := ⟨N, 4, none⟩) hOF9 (.slice A5 fs.length c5)
              have hb10 := (hb9'.setNew (p := ⟨N, 3, none⟩) (by show w.heap.size ≤ N; omega) (.int .i64 V)).setNew (p := ⟨N, 4, none⟩) (by show w.heap.size ≤ N; omega) (.slice A5 fs.length c5)
              have hR10 := (hR9'.other (C := N) (by omega) 3 (.int .i64 V)).other (C := N) (by omega) 4 (.slice A5 fs.length c5)
              simp only [List.set_cons_succ, List.set_cons_zero] at hN10
              clear hN9 hE9 hb9' hR9'
              go_upto_region 12 with fail
              have hi8 : (Tryz.prog.info? 31).map (·.size) = some 8 := by kernel_rfl
              have one8 : ∀ u ∈ ([.int .i64 knd, .int .i64 rd, .int .i64 wt, .int .i64 V, .slice A5 fs.length c5, .slice A2 bs.length z2, .slice (some ⟨g, 0, none⟩) L1.length z3, .int .i64 hd] : List Value), u.oneCell' = true := fun u hu => by
                simp only [List.mem_cons, List.not_mem_nil, or_false] at hu
                rcases hu with rfl | rfl | rfl | rfl | rfl | rfl | rfl | rfl <;> rfl
              refine wp_region_lit ?_
              refine wpList_load_at rfl 31 _ rfl rfl hN10 _ Tryz.underlying31 rfl hi8 ?_
              refine wpList_store_at rfl 31 _ _ rfl rfl rfl hR10 rfl one8 hi8 ?_
              have hR9 := (hR10).setRow [.int .i64 knd, .int .i64 rd, .int .i64 wt, .int .i64 V, .slice A5 fs.length c5, .slice A2 bs.length z2, .slice (some ⟨g, 0, none⟩) L1.length z3, .int .i64 hd] rfl
              have hE9 := (ElN.setRow (B := w.heap.size + 3) (i := 0) [.int .i64 knd, .int .i64 rd, .int .i64 wt, .int .i64 V, .slice A5 fs.length c5, .slice A2 bs.length z2, .slice (some ⟨g, 0, none⟩) L1.length z3, .int .i64 hd] hE10 (by omega)).mono (base' := w.heap.size) (by omega)
              have hb9 := Bel.setRow (B := w.heap.size + 3) (i := 0) [.int .i64 knd, .int .i64 rd, .int .i64 wt, .int .i64 V, .slice A5 fs.length c5, .slice A2 bs.length z2, .slice (some ⟨g, 0, none⟩) L1.length z3, .int .i64 hd] hb10 (by omega)
              have hlv := loadVar_at (P := Tryz.prog) 31 hR9 _ Tryz.underlying31 rfl hi8
              generalize setRow _ (w.heap.size + 3) 0 [.int .i64 knd, .int .i64 rd, .int .i64 wt, .int .i64 V, .slice A5 fs.length c5, .slice A2 bs.length z2, .slice (some ⟨g, 0, none⟩) L1.length z3, .int .i64 hd] = W10 at *
              simp only [Act.put, Act.eval, List.setIfInBounds_toArray, List.set_cons_succ, List.set_cons_zero]
              go_wp2
              subst hA0
              exact bodyPost_ret (v := .tuple #[.agg #[.int .i64 knd, .int .i64 rd, .int .i64 wt, .int .i64 V, .slice A5 fs.length c5, .slice A2 bs.length z2, .slice (some ⟨g, 0, none⟩) L1.length z3, .int .i64 hd], .bool true]) (by simp [results, Tryz.results8, hlv, asAddr]) rfl ⟨_, _, _, _, rfl, hE9, hCP, hb9⟩
          · skip
            have hdd : W6.drew.cell? ⟨g, i * 12 + 9, none⟩ = some (.int .i64 du) := hrow.cell 9 rfl
            refine eff_made_s rfl (by simp [go_sem, hdd]; exact ⟨rfl, rfl⟩) ?_ ?_
            · exact ⟨hY6.drew, hF6.drew⟩
            clear hdd
            try simp only [List.nil_append, List.cons_append, Act.put, List.setIfInBounds_toArray, List.set_cons_succ, List.set_cons_zero]
            with_reducible refine st_sel [14] (by kernel_rfl) (by kernel_rfl) ?_
            simp only [picked, List.getElem?_cons_succ, List.getElem?_cons_zero, Option.toList_some, List.nil_append, List.cons_append, List.append_nil]
            go_big_quiet_step (fail)
            with_reducible refine wpQuiet_nil ?_
            try simp only [List.nil_append, List.cons_append, Act.put, List.setIfInBounds_toArray, List.set_cons_succ, List.set_cons_zero]
            refine st_branch [5] (by kernel_rfl) (branch_cons (by simp only [List.getElem?_toArray, List.getElem?_cons_succ, List.getElem?_cons_zero]; rfl) ?_ branch_nil)
            refine eff_made_s rfl (exec_load_off (W := W6.drew) 44 _ rfl rfl (fun j v h => hc9 j v h) _ Tryz.underlying44 rfl (by kernel_rfl)) ?_ ?_
            · exact ⟨hY6.drew, hF6.drew⟩
            try simp only [List.nil_append, List.cons_append, Act.put, List.setIfInBounds_toArray, List.set_cons_succ, List.set_cons_zero]
            refine st_branch [8] (by kernel_rfl) (branch_cons (by simp only [List.getElem?_toArray, List.getElem?_cons_succ, List.getElem?_cons_zero]; rfl) ?_ branch_nil)
            refine eff_call_s 24 rfl (by simp [go_sem]; rfl) ⟨hY6.drew, hF6.drew⟩ ?_
            refine (hJC.out _ bI).mono ?_; rintro e w7 ⟨A7, c7, rfl, hZ, hb7⟩
            have hb7' : Bel W6 w7 := bI
            refine ⟨_, rfl, ⟨hY6.bel hb7', hF6.bel hb7'⟩, ?_⟩
            try simp only [List.nil_append, List.cons_append, Act.put, List.setIfInBounds_toArray, List.set_cons_succ, List.set_cons_zero]
            with_reducible refine st_sel [16, 17] (by kernel_rfl) (by kernel_rfl) ?_
            simp only [picked, List.getElem?_cons_succ, List.getElem?_cons_zero, Option.toList_some, List.nil_append, List.cons_append, List.append_nil]
            go_big_quiet_step (fail)
            go_big_quiet_step (fail)
            with_reducible refine wpQuiet_nil ?_
            try simp only [List.nil_append, List.cons_append, Act.put, List.setIfInBounds_toArray, List.set_cons_succ, List.set_cons_zero]
            refine st_branch [18] (by kernel_rfl) (branch_cons (by simp only [List.getElem?_toArray, List.getElem?_cons_succ, List.getElem?_cons_zero]; rfl) ?_ branch_nil)
            have hE7 := hE6.keep hb7'
            have hrow7 := hrow.bel hb7' hgl
            have gf := fun j => hE7.eno.bo.own.frozenAt (g := g) j
            have hc7 : ∀ j v, ([.int .i64 j1, .int .i64 t2, .int .i64 k2, .int .i64 s2, .int .i64 n2, .string d2, .bool f2, .slice a2 ms2.length c2, .int .i64 m2] : List Value)[j]? = some v → w7.cell? ⟨g, i * 12 + j, none⟩ = some v := fun j v h => hrow7.all j v (by
              have hj := (List.getElem?_eq_some_iff.1 h).1
              show ([.int .i64 j1, .int .i64 t2, .int .i64 k2, .int .i64 s2, .int .i64 n2, .string d2, .bool f2, .slice a2 ms2.length c2, .int .i64 m2] ++ [.int .i64 du, .int .i64 st, .int .i64 tr] : List Value)[j]? = some v
              rw [List.getElem?_append_left hj]; exact h)
            have one9 : ∀ u ∈ ([.int .i64 J.id, .int .i64 J.ten, .int .i64 J.knd, .int .i64 J.sec, .int .i64 J.cnt, .string J.dat, .bool J.fua, .slice A7 J.ms.length c7, .int .i64 J.tim] : List Value), u.oneCell' = true := fun u hu => by
              simp only [List.mem_cons, List.not_mem_nil, or_false] at hu
              rcases hu with rfl | rfl | rfl | rfl | rfl | rfl | rfl | rfl | rfl <;> rfl
            with_reducible refine eff_done_s (w' := setRow w7 g (i * 12) [.int .i64 J.id, .int .i64 J.ten, .int .i64 J.knd, .int .i64 J.sec, .int .i64 J.cnt, .string J.dat, .bool J.fua, .slice A7 J.ms.length c7, .int .i64 J.tim]) ?_ ?_ ?_ ?_
            · rfl
            · exact exec_store_off (vs := [.int .i64 J.id, .int .i64 J.ten, .int .i64 J.knd, .int .i64 J.sec, .int .i64 J.cnt, .string J.dat, .bool J.fua, .slice A7 J.ms.length c7, .int .i64 J.tim]) 44 _ _ rfl rfl rfl hc7 (fun j => gf (i * 12 + j)) rfl one9 (by kernel_rfl)
            · exact ⟨(hY6.bel hb7').setRow_other (B := g) (i := i * 12) [.int .i64 J.id, .int .i64 J.ten, .int .i64 J.knd, .int .i64 J.sec, .int .i64 J.cnt, .string J.dat, .bool J.fua, .slice A7 J.ms.length c7, .int .i64 J.tim] hgY, (hF6.bel hb7').setRow_other (B := g) (i := i * 12) [.int .i64 J.id, .int .i64 J.ten, .int .i64 J.knd, .int .i64 J.sec, .int .i64 J.cnt, .string J.dat, .bool J.fua, .slice A7 J.ms.length c7, .int .i64 J.tim] hgF⟩
            have hY8 := (hY6.bel hb7').setRow_other (B := g) (i := i * 12) [.int .i64 J.id, .int .i64 J.ten, .int .i64 J.knd, .int .i64 J.sec, .int .i64 J.cnt, .string J.dat, .bool J.fua, .slice A7 J.ms.length c7, .int .i64 J.tim] hgY
            have hF8 := (hF6.bel hb7').setRow_other (B := g) (i := i * 12) [.int .i64 J.id, .int .i64 J.ten, .int .i64 J.knd, .int .i64 J.sec, .int .i64 J.cnt, .string J.dat, .bool J.fua, .slice A7 J.ms.length c7, .int .i64 J.tim] hgF
            have hO8 := own_setRow [.int .i64 J.id, .int .i64 J.ten, .int .i64 J.knd, .int .i64 J.sec, .int .i64 J.cnt, .string J.dat, .bool J.fua, .slice A7 J.ms.length c7, .int .i64 J.tim] (i := i * 12) hE7.eno.bo.own
            generalize hW8 : setRow w7 g (i * 12) [.int .i64 J.id, .int .i64 J.ten, .int .i64 J.knd, .int .i64 J.sec, .int .i64 J.cnt, .string J.dat, .bool J.fua, .slice A7 J.ms.length c7, .int .i64 J.tim] = W8
            rw [hW8] at hY8 hF8 hO8
            have h89 : (setL (qmc L1) (i * 12) [.int .i64 J.id, .int .i64 J.ten, .int .i64 J.knd, .int .i64 J.sec, .int .i64 J.cnt, .string J.dat, .bool J.fua, .slice A7 J.ms.length c7, .int .i64 J.tim])[i * 12 + 9]? = some (.int .i64 du) := by
              rw [setL_getElem? [.int .i64 J.id, .int .i64 J.ten, .int .i64 J.knd, .int .i64 J.sec, .int .i64 J.cnt, .string J.dat, .bool J.fua, .slice A7 J.ms.length c7, .int .i64 J.tim] (qmc L1) (i * 12) (i * 12 + 9) (Or.inr (Nat.le_refl _))]
              exact flat_at (l := L1.map QM.q) (f := Qd.cells) Qd.cells_len (by rw [List.getElem?_map, hx1]; rfl) (j := 9) rfl
            have c89 := hO8.cells (g := g) rfl _ _ h89
            rw [add_zero_off] at c89
            have f89 := hO8.frozenAt (g := g) (i * 12 + 9)
            clear h89
            try simp only [List.nil_append, List.cons_append, Act.put, List.setIfInBounds_toArray, List.set_cons_succ, List.set_cons_zero]
            with_reducible refine st_sel [19, 20] (by kernel_rfl) (by kernel_rfl) ?_
            simp only [picked, List.getElem?_cons_succ, List.getElem?_cons_zero, Option.toList_some, List.nil_append, List.cons_append, List.append_nil]
            go_big_quiet_step (fail)
            go_big_quiet_step (fail)
            with_reducible refine wpQuiet_nil ?_
            try simp only [List.nil_append, List.cons_append, Act.put, List.setIfInBounds_toArray, List.set_cons_succ, List.set_cons_zero]
            refine st_branch [21] (by kernel_rfl) (branch_cons (by simp only [List.getElem?_toArray, List.getElem?_cons_succ, List.getElem?_cons_zero]; rfl) ?_ branch_nil)
            with_reducible refine eff_done_s (w' := W8.setCell ⟨g, i * 12 + 9, none⟩ (.int .i64 (if D < du then D else du))) ?_ ?_ ?_ ?_
            · rfl
            · simp [go_sem, c89, f89]
            · exact ⟨hY8.other hgY (i * 12 + 9) _, hF8.other hgF (i * 12 + 9) _⟩
            try simp only [List.nil_append, List.cons_append, Act.put, List.setIfInBounds_toArray, List.set_cons_succ, List.set_cons_zero]
            have hmin : (if D < du then D else du) = min du D := by rw [Int.min_def]; split <;> split <;> omega
            rw [hmin]
            have hw9 : W8.setCell ⟨g, i * 12 + 9, none⟩ (.int .i64 (min du D)) = setRow w7 g (i * 12) [.int .i64 J.id, .int .i64 J.ten, .int .i64 J.knd, .int .i64 J.sec, .int .i64 J.cnt, .string J.dat, .bool J.fua, .slice A7 J.ms.length c7, .int .i64 J.tim, .int .i64 (min du D)] := by rw [← hW8]; rfl
            generalize W8.setCell ⟨g, i * 12 + 9, none⟩ (.int .i64 (min du D)) = W9 at *
            refine st_end (by kernel_rfl) ?_
            simp only [List.drop_succ_cons, List.drop_zero, List.drop_nil]
            obtain ⟨yq, Hyq⟩ : ∃ y : QM, Hid (y = ⟨⟨Bu.at J A7 c7, min du D, st, tr⟩, J.ms⟩) := ⟨_, rfl⟩
            have hgN : N ≠ g := by have := (HEN2.out.eno.bo.own.lt g rfl).2; exact fun e => HOF.out.e (by rw [e]; rfl)
            have hE9 : ElN W9 W.heap.size (.slice A5 fs.length c5) (.slice A2 bs.length z2) (.slice (some ⟨g, 0, none⟩) L1.length z3) G1 bs (L1.set i yq) := by
              have h := ElN.setV (y := yq) hE7 hx1 (vs := [.int .i64 J.id, .int .i64 J.ten, .int .i64 J.knd, .int .i64 J.sec, .int .i64 J.cnt, .string J.dat, .bool J.fua, .slice A7 J.ms.length c7, .int .i64 J.tim, .int .i64 (min du D)]) (setL_ten hx1 (by rw [Hyq.out]; rfl) rfl) (by rw [Hyq.out]; exact hZ.1) (fun q hq => by
                rw [Hyq.out] at hq
                have h1 := hZ.2 q hq
                simp only [World.size_drew] at h1
                exact ⟨by omega, by omega, fun e => by have := (hE6.flo.lt q e).2; omega, fun e => by have := (hE6.buo.lt q e).2; omega⟩)
              rw [List.length_set] at h
              rw [hw9]; exact h
            have hOF9 : Off N (.slice A5 fs.length c5) (.slice A2 bs.length z2) (.slice (some ⟨g, 0, none⟩) L1.length z3) (L1.set i yq) := by
              refine ⟨hOF6.f, hOF6.b, hOF6.e, fun z hz h0 e => ?_⟩
              rcases List.mem_or_eq_of_mem_set hz with hz | hz
              · exact HOF.out.m z hz h0 e
              · rw [hz, Hyq.out] at e
                have h1 := hZ.2 N e
                have h2 := hN6.1.1
                simp only [World.size_drew] at h1
                omega
            have hN9 : AtF W9 N [.int .i64 knd, .int .i64 rd, .int .i64 wt, .int .i64 V, .slice A1 fs.length z1, .slice A2 bs.length z2, .slice (some ⟨g, 0, none⟩) L1.length z3, .int .i64 hd] := by rw [hw9]; exact (hN6.bel hb7').setRow_other (B := g) (i := i * 12) _ hgN
            have hR9' : AtF W9 (w.heap.size + 3) [.int .i64 0, .int .i64 0, .int .i64 0, .int .i64 0, .slice none 0 0, .slice none 0 0, .slice none 0 0, .int .i64 0] := by rw [hw9]; exact (hR6.bel hb7').setRow_other (B := g) (i := i * 12) _ (by have := (HEN2.out.eno.bo.own.lt g rfl).1; omega)
            have hb9' : Bel w W9 := by rw [hw9]; exact Bel.setRow (B := g) (i := i * 12) _ (hb6.trans hb7') (by have := (HEN2.out.eno.bo.own.lt g rfl).1; omega)
            have hCP : (L1.set i yq).map QM.qu = (L.map QM.qu).set i ⟨joinU x0.u ⟨i1, t1, k1, s1, n1, d1, f1, ms1, m1⟩ cw, min x0.due D, x0.sta, x0.tri⟩ := by
              rw [List.map_set, HCP.out.bu, Hyq.out, ← hq1]
              show (L.map QM.qu).set i ⟨J, min du D, st, tr⟩ = _
              rw [← HJ.out]; rfl
            clear hE7 hO8 hY8 hF8 c89 f89 hW8 hZ hb7 hb7' gf hc7 hrow7 hc9 hrow hE6 hY6 hF6 hR6 hb6 hN6 hJC hw9 one9
            have n3 := hN9.1.2 3 _ rfl
            have n4 := hN9.1.2 4 _ rfl
            have nl := hN9.1.1
            have nf := hN9.2
            have hN10 := (hN9.set 3 (by simp) (.int .i64 V)).set 4 (by simp) (.slice A5 fs.length c5)
            have hE10 := (hE9.off (p := ⟨N, 3, none⟩) hOF9 (.int .i64 V)).off (p := ⟨N, 4, none⟩) hOF9 (.slice A5 fs.length c5)
            have hb10 := (hb9'.setNew (p := ⟨N, 3, none⟩) (by show w.heap.size ≤ N; omega) (.int .i64 V)).setNew (p := ⟨N, 4, none⟩) (by show w.heap.size ≤ N; omega) (.slice A5 fs.length c5)
            have hR10 := (hR9'.other (C := N) (by omega) 3 (.int .i64 V)).other (C := N) (by omega) 4 (.slice A5 fs.length c5)
            simp only [List.set_cons_succ, List.set_cons_zero] at hN10
            clear hN9 hE9 hb9' hR9'
            go_upto_region 12 with fail
            have hi8 : (Tryz.prog.info? 31).map (·.size) = some 8 := by kernel_rfl
            have one8 : ∀ u ∈ ([.int .i64 knd, .int .i64 rd, .int .i64 wt, .int .i64 V, .slice A5 fs.length c5, .slice A2 bs.length z2, .slice (some ⟨g, 0, none⟩) L1.length z3, .int .i64 hd] : List Value), u.oneCell' = true := fun u hu => by
              simp only [List.mem_cons, List.not_mem_nil, or_false] at hu
              rcases hu with rfl | rfl | rfl | rfl | rfl | rfl | rfl | rfl <;> rfl
            refine wp_region_lit ?_
            refine wpList_load_at rfl 31 _ rfl rfl hN10 _ Tryz.underlying31 rfl hi8 ?_
            refine wpList_store_at rfl 31 _ _ rfl rfl rfl hR10 rfl one8 hi8 ?_
            have hR9 := (hR10).setRow [.int .i64 knd, .int .i64 rd, .int .i64 wt, .int .i64 V, .slice A5 fs.length c5, .slice A2 bs.length z2, .slice (some ⟨g, 0, none⟩) L1.length z3, .int .i64 hd] rfl
            have hE9 := (ElN.setRow (B := w.heap.size + 3) (i := 0) [.int .i64 knd, .int .i64 rd, .int .i64 wt, .int .i64 V, .slice A5 fs.length c5, .slice A2 bs.length z2, .slice (some ⟨g, 0, none⟩) L1.length z3, .int .i64 hd] hE10 (by omega)).mono (base' := w.heap.size) (by omega)
            have hb9 := Bel.setRow (B := w.heap.size + 3) (i := 0) [.int .i64 knd, .int .i64 rd, .int .i64 wt, .int .i64 V, .slice A5 fs.length c5, .slice A2 bs.length z2, .slice (some ⟨g, 0, none⟩) L1.length z3, .int .i64 hd] hb10 (by omega)
            have hlv := loadVar_at (P := Tryz.prog) 31 hR9 _ Tryz.underlying31 rfl hi8
            generalize setRow _ (w.heap.size + 3) 0 [.int .i64 knd, .int .i64 rd, .int .i64 wt, .int .i64 V, .slice A5 fs.length c5, .slice A2 bs.length z2, .slice (some ⟨g, 0, none⟩) L1.length z3, .int .i64 hd] = W10 at *
            simp only [Act.put, Act.eval, List.setIfInBounds_toArray, List.set_cons_succ, List.set_cons_zero]
            go_wp2
            subst hA0
            exact bodyPost_ret (v := .tuple #[.agg #[.int .i64 knd, .int .i64 rd, .int .i64 wt, .int .i64 V, .slice A5 fs.length c5, .slice A2 bs.length z2, .slice (some ⟨g, 0, none⟩) L1.length z3, .int .i64 hd], .bool true]) (by simp [results, Tryz.results8, hlv, asAddr]) rfl ⟨_, _, _, _, rfl, hE9, hCP, hb9⟩
    · have hA0 : a = (⟨knd, rd, wt, V, fs, bs, L.map QM.qu, hd⟩, false) := by rw [← HA.out, addE, if_neg (fun h => hT h.2)]
      by_cases ht0 : t1 < 0
      · skip
        have hN5 := hN.bel hb2
        have hR5 := hR1.bel hb2
        have hE5 := HEN2.out.keep hb2
        have hb5 := hbc.trans hb2
        have hCP := HCP.out.bu
        go_upto_region 3 with fail
        have hi8 : (Tryz.prog.info? 31).map (·.size) = some 8 := by kernel_rfl
        have one8 : ∀ u ∈ ([.int .i64 knd, .int .i64 rd, .int .i64 wt, .int .i64 V, .slice A1 fs.length z1, .slice A2 bs.length z2, .slice A3 L1.length z3, .int .i64 hd] : List Value), u.oneCell' = true := fun u hu => by
          simp only [List.mem_cons, List.not_mem_nil, or_false] at hu
          rcases hu with rfl | rfl | rfl | rfl | rfl | rfl | rfl | rfl <;> rfl
        refine wp_region_lit ?_
        refine wpList_load_at rfl 31 _ rfl rfl hN5 _ Tryz.underlying31 rfl hi8 ?_
        refine wpList_store_at rfl 31 _ _ rfl rfl rfl hR5 rfl one8 hi8 ?_
        have hR9 := (hR5).setRow [.int .i64 knd, .int .i64 rd, .int .i64 wt, .int .i64 V, .slice A1 fs.length z1, .slice A2 bs.length z2, .slice A3 L1.length z3, .int .i64 hd] rfl
        have hE9 := (ElN.setRow (B := w.heap.size + 3) (i := 0) [.int .i64 knd, .int .i64 rd, .int .i64 wt, .int .i64 V, .slice A1 fs.length z1, .slice A2 bs.length z2, .slice A3 L1.length z3, .int .i64 hd] hE5 (by omega)).mono (base' := w.heap.size) (by omega)
        have hb9 := Bel.setRow (B := w.heap.size + 3) (i := 0) [.int .i64 knd, .int .i64 rd, .int .i64 wt, .int .i64 V, .slice A1 fs.length z1, .slice A2 bs.length z2, .slice A3 L1.length z3, .int .i64 hd] hb5 (by omega)
        have hlv := loadVar_at (P := Tryz.prog) 31 hR9 _ Tryz.underlying31 rfl hi8
        generalize setRow _ (w.heap.size + 3) 0 [.int .i64 knd, .int .i64 rd, .int .i64 wt, .int .i64 V, .slice A1 fs.length z1, .slice A2 bs.length z2, .slice A3 L1.length z3, .int .i64 hd] = W10 at *
        simp only [Act.put, Act.eval, List.setIfInBounds_toArray, List.set_cons_succ, List.set_cons_zero]
        go_wp2
        subst hA0
        exact bodyPost_ret (v := .tuple #[.agg #[.int .i64 knd, .int .i64 rd, .int .i64 wt, .int .i64 V, .slice A1 fs.length z1, .slice A2 bs.length z2, .slice A3 L1.length z3, .int .i64 hd], .bool false]) (by simp [results, Tryz.results8, hlv, asAddr]) rfl ⟨_, _, _, _, rfl, hE9, hCP, hb9⟩
      · have ht4 : t1 ≥ 4 := by omega
        have hN5 := hN.bel hb2
        have hR5 := hR1.bel hb2
        have hE5 := HEN2.out.keep hb2
        have hb5 := hbc.trans hb2
        have hCP := HCP.out.bu
        go_upto_region 3 with fail
        have hi8 : (Tryz.prog.info? 31).map (·.size) = some 8 := by kernel_rfl
        have one8 : ∀ u ∈ ([.int .i64 knd, .int .i64 rd, .int .i64 wt, .int .i64 V, .slice A1 fs.length z1, .slice A2 bs.length z2, .slice A3 L1.length z3, .int .i64 hd] : List Value), u.oneCell' = true := fun u hu => by
          simp only [List.mem_cons, List.not_mem_nil, or_false] at hu
          rcases hu with rfl | rfl | rfl | rfl | rfl | rfl | rfl | rfl <;> rfl
        refine wp_region_lit ?_
        refine wpList_load_at rfl 31 _ rfl rfl hN5 _ Tryz.underlying31 rfl hi8 ?_
        refine wpList_store_at rfl 31 _ _ rfl rfl rfl hR5 rfl one8 hi8 ?_
        have hR9 := (hR5).setRow [.int .i64 knd, .int .i64 rd, .int .i64 wt, .int .i64 V, .slice A1 fs.length z1, .slice A2 bs.length z2, .slice A3 L1.length z3, .int .i64 hd] rfl
        have hE9 := (ElN.setRow (B := w.heap.size + 3) (i := 0) [.int .i64 knd, .int .i64 rd, .int .i64 wt, .int .i64 V, .slice A1 fs.length z1, .slice A2 bs.length z2, .slice A3 L1.length z3, .int .i64 hd] hE5 (by omega)).mono (base' := w.heap.size) (by omega)
        have hb9 := Bel.setRow (B := w.heap.size + 3) (i := 0) [.int .i64 knd, .int .i64 rd, .int .i64 wt, .int .i64 V, .slice A1 fs.length z1, .slice A2 bs.length z2, .slice A3 L1.length z3, .int .i64 hd] hb5 (by omega)
        have hlv := loadVar_at (P := Tryz.prog) 31 hR9 _ Tryz.underlying31 rfl hi8
        generalize setRow _ (w.heap.size + 3) 0 [.int .i64 knd, .int .i64 rd, .int .i64 wt, .int .i64 V, .slice A1 fs.length z1, .slice A2 bs.length z2, .slice A3 L1.length z3, .int .i64 hd] = W10 at *
        simp only [Act.put, Act.eval, List.setIfInBounds_toArray, List.set_cons_succ, List.set_cons_zero]
        go_wp2
        subst hA0
        exact bodyPost_ret (v := .tuple #[.agg #[.int .i64 knd, .int .i64 rd, .int .i64 wt, .int .i64 V, .slice A1 fs.length z1, .slice A2 bs.length z2, .slice A3 L1.length z3, .int .i64 hd], .bool false]) (by simp [results, Tryz.results8, hlv, asAddr]) rfl ⟨_, _, _, _, rfl, hE9, hCP, hb9⟩
end Go.Proofs.YtpgjbocjhconoaaGreat
