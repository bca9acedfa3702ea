/- The walk of ElevatorNews. -/
import Derived.Test.YtpgjbocjhconoaaNwA
import Derived.Test.YtpgjbocjhconoaaOpenB
import Derived.Deep.DeepCutAuto
namespace Go.Proofs.Ytpgjbocjhconoaa
open Go.RowKit Go.Maps
set_option linter.unusedSimpArgs false

set_option maxRecDepth 100000 in
set_option maxHeartbeats 16000000 in
theorem elevatorNews_walk (kind rd wt : Int) (wv : Value) (zs : List Int) (bv : Value) (bs : List Bk) (n : Int) (w : World) (_ : IsInt kind) (_ : IsInt rd) (_ : IsInt wt) (hz : Ints w wv zs) (hb : Rd w bv 4 bs.length (bkc bs)) (hn : IsInt n) :
    Calls Try.prog 3 #[.int .i64 kind, .agg #[.int .i64 rd, .int .i64 wt], wv, bv, .int .i64 n] w fun e w' => e = .returned (.bool true) ∧ Bel w w' := by
  obtain ⟨Aw, cw, rfl, -, -⟩ := hz.2
  obtain ⟨Ab, cb, rfl, -, -⟩ := hb.form
  by_cases h10 : 10 < zs.length
  · obtain ⟨n1, Hn1⟩ : ∃ n, Hid (zs.length = n) := ⟨_, rfl⟩
    rw [Hn1.out] at h10 ⊢
    have h10b : (10 : Int) < (n1 : Int) := by omega
    clear hz hb
    go_enter Try.func3, Try.ntmps3
    go_wp2
    go_ret
    exact ⟨rfl, (by repeat (first | (with_reducible exact Bel.refl _) | (with_reducible assumption) | (with_reducible refine Bel.drewN ?_ _) | (with_reducible refine Bel.drew ?_) | (with_reducible refine Bel.alloc ?_ _) | (with_reducible refine Bel.setNew ?_ ?_ _) | (with_reducible refine Bel.trans ?_ (by assumption)) | (focus (simp; done)) | (focus (simp; omega))))⟩
  by_cases h11 : 10 < bs.length
  · obtain ⟨n1, Hn1⟩ : ∃ n, Hid (zs.length = n) := ⟨_, rfl⟩
    obtain ⟨n2, Hn2⟩ : ∃ n, Hid (bs.length = n) := ⟨_, rfl⟩
    rw [Hn1.out] at h10 ⊢
    rw [Hn2.out] at h11 ⊢
    have h10b : ¬ (10 : Int) < (n1 : Int) := by omega
    have h11b : (10 : Int) < (n2 : Int) := by omega
    clear hz hb
    go_enter Try.func3, Try.ntmps3
    go_wp2
    go_ret
    exact ⟨rfl, (by repeat (first | (with_reducible exact Bel.refl _) | (with_reducible assumption) | (with_reducible refine Bel.drewN ?_ _) | (with_reducible refine Bel.drew ?_) | (with_reducible refine Bel.alloc ?_ _) | (with_reducible refine Bel.setNew ?_ ?_ _) | (with_reducible refine Bel.trans ?_ (by assumption)) | (focus (simp; done)) | (focus (simp; omega))))⟩
  have HNA := Lib.hid (fun W (h : Bel w W) => elNew_any kind rd wt zs bs _ _ W (hz.bel h) (hb.bel h) (by omega) (by omega))
  have HNB := Lib.hid (fun W (h : Bel w W) => refElNew_any kind rd wt zs bs _ _ W (hz.bel h) (hb.bel h) (by omega) (by omega))
  obtain ⟨r, Hr⟩ : ∃ r, Hid (newOk kind rd wt zs bs = r) := ⟨_, rfl⟩
  obtain ⟨ak, Hak⟩ : ∃ x, Hid ((if r then kind else 0) = x) := ⟨_, rfl⟩
  obtain ⟨ar, Har⟩ : ∃ x, Hid ((if r then rd else 0) = x) := ⟨_, rfl⟩
  obtain ⟨aw, Haw⟩ : ∃ x, Hid ((if r then wt else 0) = x) := ⟨_, rfl⟩
  obtain ⟨AF, HAF⟩ : ∃ x, Hid ((if r then newF zs else []) = x) := ⟨_, rfl⟩
  obtain ⟨AB, HAB⟩ : ∃ x, Hid ((if r then bs else []) = x) := ⟨_, rfl⟩
  have hAl : AF.length ≤ 1000 ∧ AB.length ≤ 1000 := by
    rw [← HAF.out, ← HAB.out]
    cases r
    · exact ⟨by show 0 ≤ 1000; omega, by show 0 ≤ 1000; omega⟩
    · simp only [if_true]
      rw [newF_len]
      omega
  simp only [Hr.out, Hak.out, Har.out, Haw.out, HAF.out, HAB.out] at HNA HNB
  obtain ⟨k5, Hk5⟩ : ∃ x, Hid (rnd kind 5 = x) := ⟨_, rfl⟩
  obtain ⟨K, HK⟩ : ∃ K, Hid (kindOk k5 = K) := ⟨_, rfl⟩
  have HMD := Lib.hid (fun W => made_any n k5 W hn)
  have HND := Lib.hid (fun wv bv W hw hb => refElNew_any (if K then k5 else 0) (if K then rnd (n / 8) 20 else 0) (if K then rnd (n / 64) 40 else 0) ((if K then newF (madeW n) else []).map Prod.fst) (if K then madeK n else []) wv bv W hw hb (by rw [List.length_map]; exact (news_l n K).1) (news_l n K).2)
  have hkk : (if K then (if K then k5 else 0) else 0) = (if K then k5 else 0) := by cases K <;> rfl
  have hkr : (if K then (if K then rnd (n / 8) 20 else 0) else 0) = (if K then rnd (n / 8) 20 else 0) := by cases K <;> rfl
  have hkw : (if K then (if K then rnd (n / 64) 40 else 0) else 0) = (if K then rnd (n / 64) 40 else 0) := by cases K <;> rfl
  have hkb : (if K then (if K then madeK n else []) else []) = (if K then madeK n else []) := by cases K <;> rfl
  simp only [news_c n k5 HK.out, hkk, hkr, hkw, hkb, news_f] at HND
  have hCl := news_l n K
  have HCI := Lib.hid (news_i n K)
  obtain ⟨ck, Hck⟩ : ∃ x, Hid ((if K then k5 else 0) = x) := ⟨_, rfl⟩
  obtain ⟨cr, Hcr⟩ : ∃ x, Hid ((if K then rnd (n / 8) 20 else 0) = x) := ⟨_, rfl⟩
  obtain ⟨cx, Hcx⟩ : ∃ x, Hid ((if K then rnd (n / 64) 40 else 0) = x) := ⟨_, rfl⟩
  obtain ⟨CF, HCF⟩ : ∃ x, Hid ((if K then newF (madeW n) else []) = x) := ⟨_, rfl⟩
  obtain ⟨CB, HCB⟩ : ∃ x, Hid ((if K then madeK n else []) = x) := ⟨_, rfl⟩
  simp only [HK.out, Hck.out, Hcr.out, Hcx.out, HCF.out, HCB.out] at HMD HND hCl HCI
  have HAL := Lib.hid hAl
  have HCL := Lib.hid hCl
  obtain ⟨n1, Hn1⟩ : ∃ n, Hid (zs.length = n) := ⟨_, rfl⟩
  obtain ⟨n2, Hn2⟩ : ∃ n, Hid (bs.length = n) := ⟨_, rfl⟩
  rw [Hn1.out] at h10 HNA HNB ⊢
  rw [Hn2.out] at h11 HNA HNB ⊢
  have h10b : ¬ (10 : Int) < (n1 : Int) := by omega
  have h11b : ¬ (10 : Int) < (n2 : Int) := by omega
  clear hz hb hkk hkr hkw hkb hAl hCl h10 h11
  have hP1 := AtF.new_at (w := w) rfl 23 [.int .i64 rd, .int .i64 wt]
  have hbw1 : Bel w (w.alloc (.cells [.int .i64 rd, .int .i64 wt].toArray 23)) := (by repeat (first | (with_reducible exact Bel.refl _) | (with_reducible assumption) | (with_reducible refine Bel.drewN ?_ _) | (with_reducible refine Bel.drew ?_) | (with_reducible refine Bel.alloc ?_ _) | (with_reducible refine Bel.setNew ?_ ?_ _) | (with_reducible refine Bel.trans ?_ (by assumption)) | (focus (simp; done)) | (focus (simp; omega))))
  simp only [List.toArray] at hP1 hbw1
  go_enter Try.func3, Try.ntmps3
  go_upto_region 3 with fail
  generalize w.alloc _ = W1 at *
  obtain ⟨P, HP⟩ : ∃ P, Hid (w.heap.size = P) := ⟨_, rfl⟩
  rw [HP.out] at hP1 ⊢
  have p0 := hP1.1.2 0 _ rfl
  have p1 := hP1.1.2 1 _ rfl
  have pl := hP1.1.1
  go_wp2_with fail
  refine (HNA.out _ hbw1).mono ?_; rintro e w2 ⟨fl1, bu1, en1, rfl, hEA, hb2⟩
  clear p0 p1 pl
  obtain ⟨A1, c1, rfl⟩ := own_slice hEA.flo
  obtain ⟨A2, c2, rfl⟩ := own_slice hEA.buo
  obtain ⟨A3, c3, hv3⟩ := own_slice hEA.eno.bo.own
  subst hv3
  obtain ⟨X, HX⟩ : ∃ X, Hid (w2.heap.size = X) := ⟨_, rfl⟩
  have hX2 := AtF.new_at (w := w2) HX.out.symm 31 [.int .i64 ak, .int .i64 ar, .int .i64 aw, .int .i64 0, .slice A1 AF.length c1, .slice A2 AB.length c2, .slice A3 0 c3, .int .i64 0]
  have hbn : Bel w2 (w2.alloc (.cells [.int .i64 ak, .int .i64 ar, .int .i64 aw, .int .i64 0, .slice A1 AF.length c1, .slice A2 AB.length c2, .slice A3 0 c3, .int .i64 0].toArray 31)) := (by repeat (first | (with_reducible exact Bel.refl _) | (with_reducible assumption) | (with_reducible refine Bel.drewN ?_ _) | (with_reducible refine Bel.drew ?_) | (with_reducible refine Bel.alloc ?_ _) | (with_reducible refine Bel.setNew ?_ ?_ _) | (with_reducible refine Bel.trans ?_ (by assumption)) | (focus (simp; done)) | (focus (simp; omega))))
  have hP2 := hP1.bel (hb2.trans hbn)
  have hE2 := hEA.keep hbn
  have hbw2 := (hbw1.trans hb2).trans hbn
  simp only [List.toArray] at hX2 hP2 hE2 hbw2
  go_upto_region 4 with fail
  rw [HX.out]
  generalize hW2 : w2.alloc _ = W2 at *
  clear hW2 hbn hEA hP1 hbw1 hb2
  have p0 := hP2.1.2 0 _ rfl
  have p1 := hP2.1.2 1 _ rfl
  have pl := hP2.1.1
  go_wp2_with fail
  refine (HNB.out _ hbw2).mono ?_; rintro e w3 ⟨fl2, bu2, en2, rfl, hEB, hb3⟩
  clear p0 p1 pl
  obtain ⟨A4, c4, rfl⟩ := own_slice hEB.flo
  obtain ⟨A5, c5, rfl⟩ := own_slice hEB.buo
  obtain ⟨A6, c6, hv6⟩ := own_slice hEB.eno.bo.own
  subst hv6
  obtain ⟨Y, HY⟩ : ∃ X, Hid (w3.heap.size = X) := ⟨_, rfl⟩
  have hY3 := AtF.new_at (w := w3) HY.out.symm 31 [.int .i64 ak, .int .i64 ar, .int .i64 aw, .int .i64 0, .slice A4 AF.length c4, .slice A5 AB.length c5, .slice A6 0 c6, .int .i64 0]
  have hbn : Bel w3 (w3.alloc (.cells [.int .i64 ak, .int .i64 ar, .int .i64 aw, .int .i64 0, .slice A4 AF.length c4, .slice A5 AB.length c5, .slice A6 0 c6, .int .i64 0].toArray 31)) := (by repeat (first | (with_reducible exact Bel.refl _) | (with_reducible assumption) | (with_reducible refine Bel.drewN ?_ _) | (with_reducible refine Bel.drew ?_) | (with_reducible refine Bel.alloc ?_ _) | (with_reducible refine Bel.setNew ?_ ?_ _) | (with_reducible refine Bel.trans ?_ (by assumption)) | (focus (simp; done)) | (focus (simp; omega))))
  have hX3 := hX2.bel (hb3.trans hbn)
  have hEA3 := hE2.keep (hb3.trans hbn)
  have hEB3 := hEB.keep hbn
  have hbw3 := (hbw2.trans hb3).trans hbn
  simp only [List.toArray] at hX3 hY3 hEA3 hEB3 hbw3
  go_upto_region 5 with fail
  rw [HY.out]
  generalize hW3 : w3.alloc _ = W3 at *
  clear hW3 hbn hEB hX2 hP2 hbw2 hb3 hE2
  go_wp2_with fail
  refine (round_any kind 5 _ (by omega)).mono ?_; rw [Hk5.out]; rintro e w9 ⟨rfl, rfl⟩
  go_wp2_with fail
  refine (HMD.out _).mono ?_; rintro e w4 ⟨fl3, bu3, en3, rfl, hEC, hb4⟩
  obtain ⟨A7, c7, rfl⟩ := own_slice hEC.flo
  obtain ⟨A8, c8, rfl⟩ := own_slice hEC.buo
  obtain ⟨A9, c9, hv9⟩ := own_slice hEC.eno.bo.own
  subst hv9
  obtain ⟨Z, HZ⟩ : ∃ X, Hid (w4.heap.size = X) := ⟨_, rfl⟩
  have hZ4 := AtF.new_at (w := w4) HZ.out.symm 31 [.int .i64 ck, .int .i64 cr, .int .i64 cx, .int .i64 0, .slice A7 CF.length c7, .slice A8 CB.length c8, .slice A9 0 c9, .int .i64 0]
  have hbn : Bel w4 (w4.alloc (.cells [.int .i64 ck, .int .i64 cr, .int .i64 cx, .int .i64 0, .slice A7 CF.length c7, .slice A8 CB.length c8, .slice A9 0 c9, .int .i64 0].toArray 31)) := (by repeat (first | (with_reducible exact Bel.refl _) | (with_reducible assumption) | (with_reducible refine Bel.drewN ?_ _) | (with_reducible refine Bel.drew ?_) | (with_reducible refine Bel.alloc ?_ _) | (with_reducible refine Bel.setNew ?_ ?_ _) | (with_reducible refine Bel.trans ?_ (by assumption)) | (focus (simp; done)) | (focus (simp; omega))))
  have hX4 := hX3.bel (hb4.trans hbn)
  have hY4 := hY3.bel (hb4.trans hbn)
  have hEA4 := hEA3.keep (hb4.trans hbn)
  have hEB4 := hEB3.keep (hb4.trans hbn)
  have hEC4 := hEC.keep hbn
  have hbw4 := (hbw3.trans hb4).trans hbn
  simp only [List.toArray] at hX4 hY4 hZ4 hEA4 hEB4 hEC4 hbw4
  go_upto_region 6 with fail
  rw [HZ.out]
  generalize hW4 : w4.alloc _ = W4 at *
  clear hW4 hbn hEC hX3 hY3 hbw3 hb4 hEA3 hEB3
  have HSM1 := Lib.hid (fun W (h : Bel W4 W) => sameElev_any ak ar aw 0 0 AF AB [] [] _ _ _ _ _ _ W (Rd.own (own_keep hEA4.flo h)) (Rd.own (own_keep hEB4.flo h)) (Rd.own (own_keep hEA4.buo h)) (Rd.own (own_keep hEB4.buo h)) (hEA4.eno.bo.ql.bel h) (hEB4.eno.bo.ql.bel h) rfl HAL.out.1 HAL.out.2 (Nat.zero_le _))
  have HWO := Lib.hid (fun W (h : Bel W4 W) => weightsOf_any ck cr cx 0 0 _ (.slice A8 CB.length c8) (.slice A9 0 c9) CF W (Rd.own (own_keep hEC4.flo h)) HCL.out.1 HCI.out)
  have HND2 := Lib.hid (fun wv W (h : Bel W4 W) (hw : Ints W wv (CF.map Prod.fst)) => HND.out wv _ W hw (Rd.own (own_keep hEC4.buo h)))
  go_cut [17, 18] (fun xv kv wx => ∃ (D : Nat) (fl' bu' en' : Value), xv = .pointer (some ⟨D, 0, none⟩) ∧ kv = .bool K ∧ AtF wx D [.int .i64 ck, .int .i64 cr, .int .i64 cx, .int .i64 0, fl', bu', en', .int .i64 0] ∧ Rd wx fl' 2 CF.length (fcells CF) ∧ Rd wx bu' 4 CB.length (bkc CB) ∧ QL wx en' [] ∧ Bel W4 wx)
  case first =>
    have zl := hZ4.1.1
    have z0 := (hZ4).1.2 0 _ rfl
    have z1 := (hZ4).1.2 1 _ rfl
    have z2 := (hZ4).1.2 2 _ rfl
    have z3 := (hZ4).1.2 3 _ rfl
    have z4 := (hZ4).1.2 4 _ rfl
    have z5 := (hZ4).1.2 5 _ rfl
    have z6 := (hZ4).1.2 6 _ rfl
    have z7 := (hZ4).1.2 7 _ rfl
    have rz0 := fun d os => cell_regrown z0 d os
    have rz1 := fun d os => cell_regrown z1 d os
    have rz2 := fun d os => cell_regrown z2 d os
    have rz3 := fun d os => cell_regrown z3 d os
    have rz4 := fun d os => cell_regrown z4 d os
    have rz5 := fun d os => cell_regrown z5 d os
    have rz6 := fun d os => cell_regrown z6 d os
    have rz7 := fun d os => cell_regrown z7 d os
    clear z0 z1 z2 z3 z4 z5 z6 z7
    refine wp_region_st [5, 8, 12, 13] 14 (by kernel_rfl) (by kernel_rfl) ?_
    with_reducible refine st_sel [0, 1, 2, 3, 4, 6, 7] (by kernel_rfl) (by kernel_rfl) ?_
    simp only [picked, List.getElem?_cons_succ, List.getElem?_cons_zero, Option.toList_some, List.nil_append, List.cons_append, List.append_nil]
    try simp only [Act.put, List.setIfInBounds_toArray, List.set_cons_succ, List.set_cons_zero]
    repeat (go_big_quiet_step (fail))
    with_reducible refine wpQuiet_nil ?_
    refine st_branch [5, 12] (by kernel_rfl) (branch_cons (by simp only [List.getElem?_toArray, List.getElem?_cons_succ, List.getElem?_cons_zero]; rfl) ?_ (branch_cons (by simp only [List.getElem?_toArray, List.getElem?_cons_succ, List.getElem?_cons_zero]; rfl) ?_ branch_nil))
    · skip
      refine eff_call 14 rfl (by simp [go_sem]; rfl) (by repeat (first | (with_reducible exact Bel.refl _) | (with_reducible assumption) | (with_reducible refine Bel.drewN ?_ _) | (with_reducible refine Bel.drew ?_) | (with_reducible refine Bel.alloc ?_ _) | (with_reducible refine Bel.setNew ?_ ?_ _) | (with_reducible refine Bel.trans ?_ (by assumption)) | (focus (simp; done)) | (focus (simp; omega)))) ?_
      refine (HWO.out _ (by repeat (first | (with_reducible exact Bel.refl _) | (with_reducible assumption) | (with_reducible refine Bel.drewN ?_ _) | (with_reducible refine Bel.drew ?_) | (with_reducible refine Bel.alloc ?_ _) | (with_reducible refine Bel.setNew ?_ ?_ _) | (with_reducible refine Bel.trans ?_ (by assumption)) | (focus (simp; done)) | (focus (simp; omega))))).mono ?_; rintro e w5 ⟨v5, rfl, hI5, hb5⟩
      refine ⟨_, rfl, hb5, ?_⟩
      try simp only [List.nil_append, List.cons_append, Act.put, List.setIfInBounds_toArray, List.set_cons_succ, List.set_cons_zero]
      refine st_branch [8, 12] (by kernel_rfl) (branch_cons (by simp only [List.getElem?_toArray, List.getElem?_cons_succ, List.getElem?_cons_zero]; rfl) ?_ (branch_cons (by simp only [List.getElem?_toArray, List.getElem?_cons_succ, List.getElem?_cons_zero]; rfl) ?_ branch_nil))
      · skip
        refine eff_call 11 rfl (by simp [go_sem]; rfl) (by repeat (first | (with_reducible exact Bel.refl _) | (with_reducible assumption) | (with_reducible refine Bel.drewN ?_ _) | (with_reducible refine Bel.drew ?_) | (with_reducible refine Bel.alloc ?_ _) | (with_reducible refine Bel.setNew ?_ ?_ _) | (with_reducible refine Bel.trans ?_ (by assumption)) | (focus (simp; done)) | (focus (simp; omega)))) ?_
        refine (HND2.out _ _ (by repeat (first | (with_reducible exact Bel.refl _) | (with_reducible assumption) | (with_reducible refine Bel.drewN ?_ _) | (with_reducible refine Bel.drew ?_) | (with_reducible refine Bel.alloc ?_ _) | (with_reducible refine Bel.setNew ?_ ?_ _) | (with_reducible refine Bel.trans ?_ (by assumption)) | (focus (simp; done)) | (focus (simp; omega)))) (hI5.bel (by repeat (first | (with_reducible exact Bel.refl _) | (with_reducible assumption) | (with_reducible refine Bel.drewN ?_ _) | (with_reducible refine Bel.drew ?_) | (with_reducible refine Bel.alloc ?_ _) | (with_reducible refine Bel.setNew ?_ ?_ _) | (with_reducible refine Bel.trans ?_ (by assumption)) | (focus (simp; done)) | (focus (simp; omega)))))).mono ?_; rintro e w6 ⟨fl', bu', en', rfl, hE6, hb6⟩
        obtain ⟨B1, e1, rfl⟩ := own_slice hE6.flo
        obtain ⟨B2, e2, rfl⟩ := own_slice hE6.buo
        obtain ⟨B3, e3, hve⟩ := own_slice hE6.eno.bo.own
        subst hve
        refine ⟨_, rfl, hb6, ?_⟩
        try simp only [List.nil_append, List.cons_append, Act.put, List.setIfInBounds_toArray, List.set_cons_succ, List.set_cons_zero]
        with_reducible refine st_sel [9, 10, 11] (by kernel_rfl) (by kernel_rfl) ?_
        simp only [picked, List.getElem?_cons_succ, List.getElem?_cons_zero, Option.toList_some, List.nil_append, List.cons_append, List.append_nil]
        try simp only [Act.put, List.setIfInBounds_toArray, List.set_cons_succ, List.set_cons_zero]
        repeat (go_big_quiet_step (fail))
        with_reducible refine wpQuiet_nil ?_
        refine st_branch [12] (by kernel_rfl) (branch_cons (by simp only [List.getElem?_toArray, List.getElem?_cons_succ, List.getElem?_cons_zero]; rfl) ?_ branch_nil)
        refine eff_made rfl (by simp [go_sem]; exact ⟨rfl, rfl⟩) (by repeat (first | (with_reducible exact Bel.refl _) | (with_reducible assumption) | (with_reducible refine Bel.drewN ?_ _) | (with_reducible refine Bel.drew ?_) | (with_reducible refine Bel.alloc ?_ _) | (with_reducible refine Bel.setNew ?_ ?_ _) | (with_reducible refine Bel.trans ?_ (by assumption)) | (focus (simp; done)) | (focus (simp; omega)))) ?_
        try simp only [List.nil_append, List.cons_append, Act.put, List.setIfInBounds_toArray, List.set_cons_succ, List.set_cons_zero]
        refine st_branch [13] (by kernel_rfl) (branch_cons (by simp only [List.getElem?_toArray, List.getElem?_cons_succ, List.getElem?_cons_zero]; rfl) ?_ branch_nil)
        have hs5 := hb5.size
        have hs6 := hb6.size
        simp only [World.size_drew] at hs5
        have hYY := AtF.new_at (w := w6) rfl 31 [.int .i64 0, .int .i64 0, .int .i64 0, .int .i64 0, .slice none 0 0, .slice none 0 0, .slice none 0 0, .int .i64 0]
        have hbn : Bel w6 (w6.alloc (.cells [.int .i64 0, .int .i64 0, .int .i64 0, .int .i64 0, .slice none 0 0, .slice none 0 0, .slice none 0 0, .int .i64 0].toArray 31)) := (by repeat (first | (with_reducible exact Bel.refl _) | (with_reducible assumption) | (with_reducible refine Bel.drewN ?_ _) | (with_reducible refine Bel.drew ?_) | (with_reducible refine Bel.alloc ?_ _) | (with_reducible refine Bel.setNew ?_ ?_ _) | (with_reducible refine Bel.trans ?_ (by assumption)) | (focus (simp; done)) | (focus (simp; omega))))
        have hE7 := hE6.keep hbn
        have hBW : Bel W4 (w6.alloc (.cells [.int .i64 0, .int .i64 0, .int .i64 0, .int .i64 0, .slice none 0 0, .slice none 0 0, .slice none 0 0, .int .i64 0].toArray 31)) := Bel.trans (Bel.trans (Bel.drew (Bel.refl W4)) (hb5.trans hb6)) hbn
        have hYl : W4.heap.size ≤ w6.heap.size := by omega
        have hF2 := ElN.offRow (hE6.newOff (Nat.le_refl _)) [.int .i64 ck, .int .i64 cr, .int .i64 cx, .int .i64 0, .slice B1 CF.length e1, .slice B2 CB.length e2, .slice B3 0 e3, .int .i64 0] (i := 0) hE7
        simp only [List.toArray] at hYY hF2 hBW
        clear hE7 hbn hs5 hs6
        have one8 : ∀ u ∈ ([.int .i64 ck, .int .i64 cr, .int .i64 cx, .int .i64 0, .slice B1 CF.length e1, .slice B2 CB.length e2, .slice B3 0 e3, .int .i64 0] : List Value), u.oneCell' = true := fun u hu => by
          simp only [List.mem_cons, List.not_mem_nil, or_false] at hu
          rcases hu with rfl | rfl | rfl | rfl | rfl | rfl | rfl | rfl <;> rfl
        have hi8 : (Try.prog.info? 31).map (·.size) = some 8 := by kernel_rfl
        have hF1 := hYY.setRow [.int .i64 ck, .int .i64 cr, .int .i64 cx, .int .i64 0, .slice B1 CF.length e1, .slice B2 CB.length e2, .slice B3 0 e3, .int .i64 0] rfl
        have hF3 := Bel.setRow (B := w6.heap.size) (i := 0) [.int .i64 ck, .int .i64 cr, .int .i64 cx, .int .i64 0, .slice B1 CF.length e1, .slice B2 CB.length e2, .slice B3 0 e3, .int .i64 0] hBW hYl
        have HFF := Lib.hid (And.intro hF1 (And.intro hF2 hF3))
        with_reducible refine eff_done (w' := setRow (w6.alloc (.cells #[.int .i64 0, .int .i64 0, .int .i64 0, .int .i64 0, .slice none 0 0, .slice none 0 0, .slice none 0 0, .int .i64 0] 31)) (w6.heap.size) 0 [.int .i64 ck, .int .i64 cr, .int .i64 cx, .int .i64 0, .slice B1 CF.length e1, .slice B2 CB.length e2, .slice B3 0 e3, .int .i64 0]) ?_ ?_ ?_ ?_
        · rfl
        · exact exec_store_at (vs := [.int .i64 ck, .int .i64 cr, .int .i64 cx, .int .i64 0, .slice B1 CF.length e1, .slice B2 CB.length e2, .slice B3 0 e3, .int .i64 0]) 31 _ _ rfl rfl rfl hYY rfl one8 hi8
        · exact hF3
        try simp only [List.nil_append, List.cons_append, Act.put, List.setIfInBounds_toArray, List.set_cons_succ, List.set_cons_zero]
        clear hF1 hF2 hF3 hYY hBW hYl one8 hi8
        generalize setRow (w6.alloc (.cells #[.int .i64 0, .int .i64 0, .int .i64 0, .int .i64 0, .slice none 0 0, .slice none 0 0, .slice none 0 0, .int .i64 0] 31)) (w6.heap.size) 0 [.int .i64 ck, .int .i64 cr, .int .i64 cx, .int .i64 0, .slice B1 CF.length e1, .slice B2 CB.length e2, .slice B3 0 e3, .int .i64 0] = WF at HFF ⊢
        refine st_end (by kernel_rfl) ?_
        simp only [List.drop_succ_cons, List.drop_zero, List.drop_nil]
        go_wp2_with fail
        go_meet
        obtain ⟨f1, f2, f3⟩ := HFF.out
        exact ⟨_, _, _, _, rfl, rfl, f1, Rd.own f2.flo, Rd.own f2.buo, f2.eno.bo.ql, f3⟩
      · skip
        refine eff_made rfl (by simp [go_sem]; exact ⟨rfl, rfl⟩) (by repeat (first | (with_reducible exact Bel.refl _) | (with_reducible assumption) | (with_reducible refine Bel.drewN ?_ _) | (with_reducible refine Bel.drew ?_) | (with_reducible refine Bel.alloc ?_ _) | (with_reducible refine Bel.setNew ?_ ?_ _) | (with_reducible refine Bel.trans ?_ (by assumption)) | (focus (simp; done)) | (focus (simp; omega)))) ?_
        try simp only [List.nil_append, List.cons_append, Act.put, List.setIfInBounds_toArray, List.set_cons_succ, List.set_cons_zero]
        refine st_branch [8] (by kernel_rfl) (branch_cons (by simp only [List.getElem?_toArray, List.getElem?_cons_succ, List.getElem?_cons_zero]; rfl) ?_ branch_nil)
        refine eff_call 11 rfl (by simp [go_sem]; rfl) (by repeat (first | (with_reducible exact Bel.refl _) | (with_reducible assumption) | (with_reducible refine Bel.drewN ?_ _) | (with_reducible refine Bel.drew ?_) | (with_reducible refine Bel.alloc ?_ _) | (with_reducible refine Bel.setNew ?_ ?_ _) | (with_reducible refine Bel.trans ?_ (by assumption)) | (focus (simp; done)) | (focus (simp; omega)))) ?_
        refine (HND2.out _ _ (by repeat (first | (with_reducible exact Bel.refl _) | (with_reducible assumption) | (with_reducible refine Bel.drewN ?_ _) | (with_reducible refine Bel.drew ?_) | (with_reducible refine Bel.alloc ?_ _) | (with_reducible refine Bel.setNew ?_ ?_ _) | (with_reducible refine Bel.trans ?_ (by assumption)) | (focus (simp; done)) | (focus (simp; omega)))) (hI5.bel (by repeat (first | (with_reducible exact Bel.refl _) | (with_reducible assumption) | (with_reducible refine Bel.drewN ?_ _) | (with_reducible refine Bel.drew ?_) | (with_reducible refine Bel.alloc ?_ _) | (with_reducible refine Bel.setNew ?_ ?_ _) | (with_reducible refine Bel.trans ?_ (by assumption)) | (focus (simp; done)) | (focus (simp; omega)))))).mono ?_; rintro e w6 ⟨fl', bu', en', rfl, hE6, hb6⟩
        obtain ⟨B1, e1, rfl⟩ := own_slice hE6.flo
        obtain ⟨B2, e2, rfl⟩ := own_slice hE6.buo
        obtain ⟨B3, e3, hve⟩ := own_slice hE6.eno.bo.own
        subst hve
        refine ⟨_, rfl, hb6, ?_⟩
        try simp only [List.nil_append, List.cons_append, Act.put, List.setIfInBounds_toArray, List.set_cons_succ, List.set_cons_zero]
        with_reducible refine st_sel [9, 10, 11] (by kernel_rfl) (by kernel_rfl) ?_
        simp only [picked, List.getElem?_cons_succ, List.getElem?_cons_zero, Option.toList_some, List.nil_append, List.cons_append, List.append_nil]
        try simp only [Act.put, List.setIfInBounds_toArray, List.set_cons_succ, List.set_cons_zero]
        repeat (go_big_quiet_step (fail))
        with_reducible refine wpQuiet_nil ?_
        refine st_branch [13] (by kernel_rfl) (branch_cons (by simp only [List.getElem?_toArray, List.getElem?_cons_succ, List.getElem?_cons_zero]; rfl) ?_ branch_nil)
        have hs5 := hb5.size
        have hs6 := hb6.size
        simp only [World.size_drew, World.size_alloc] at hs5 hs6
        have hYY := (AtF.new_at (w := w5) rfl 31 [.int .i64 0, .int .i64 0, .int .i64 0, .int .i64 0, .slice none 0 0, .slice none 0 0, .slice none 0 0, .int .i64 0]).bel hb6
        have hBW : Bel W4 w6 := (Bel.drew (Bel.refl W4)).trans (hb5.trans (((Bel.refl w5).alloc _).trans hb6))
        have hYl : W4.heap.size ≤ w5.heap.size := by omega
        have hF2 := ElN.setRow (B := w5.heap.size) (i := 0) [.int .i64 ck, .int .i64 cr, .int .i64 cx, .int .i64 0, .slice B1 CF.length e1, .slice B2 CB.length e2, .slice B3 0 e3, .int .i64 0] hE6 (by simp)
        clear hs5 hs6
        have one8 : ∀ u ∈ ([.int .i64 ck, .int .i64 cr, .int .i64 cx, .int .i64 0, .slice B1 CF.length e1, .slice B2 CB.length e2, .slice B3 0 e3, .int .i64 0] : List Value), u.oneCell' = true := fun u hu => by
          simp only [List.mem_cons, List.not_mem_nil, or_false] at hu
          rcases hu with rfl | rfl | rfl | rfl | rfl | rfl | rfl | rfl <;> rfl
        have hi8 : (Try.prog.info? 31).map (·.size) = some 8 := by kernel_rfl
        have hF1 := hYY.setRow [.int .i64 ck, .int .i64 cr, .int .i64 cx, .int .i64 0, .slice B1 CF.length e1, .slice B2 CB.length e2, .slice B3 0 e3, .int .i64 0] rfl
        have hF3 := Bel.setRow (B := w5.heap.size) (i := 0) [.int .i64 ck, .int .i64 cr, .int .i64 cx, .int .i64 0, .slice B1 CF.length e1, .slice B2 CB.length e2, .slice B3 0 e3, .int .i64 0] hBW hYl
        have HFF := Lib.hid (And.intro hF1 (And.intro hF2 hF3))
        with_reducible refine eff_done (w' := setRow (w6) (w5.heap.size) 0 [.int .i64 ck, .int .i64 cr, .int .i64 cx, .int .i64 0, .slice B1 CF.length e1, .slice B2 CB.length e2, .slice B3 0 e3, .int .i64 0]) ?_ ?_ ?_ ?_
        · rfl
        · exact exec_store_at (vs := [.int .i64 ck, .int .i64 cr, .int .i64 cx, .int .i64 0, .slice B1 CF.length e1, .slice B2 CB.length e2, .slice B3 0 e3, .int .i64 0]) 31 _ _ rfl rfl rfl hYY rfl one8 hi8
        · exact hF3
        try simp only [List.nil_append, List.cons_append, Act.put, List.setIfInBounds_toArray, List.set_cons_succ, List.set_cons_zero]
        clear hF1 hF2 hF3 hYY hBW hYl one8 hi8
        generalize setRow (w6) (w5.heap.size) 0 [.int .i64 ck, .int .i64 cr, .int .i64 cx, .int .i64 0, .slice B1 CF.length e1, .slice B2 CB.length e2, .slice B3 0 e3, .int .i64 0] = WF at HFF ⊢
        refine st_end (by kernel_rfl) ?_
        simp only [List.drop_succ_cons, List.drop_zero, List.drop_nil]
        go_wp2_with fail
        go_meet
        obtain ⟨f1, f2, f3⟩ := HFF.out
        exact ⟨_, _, _, _, rfl, rfl, f1, Rd.own f2.flo, Rd.own f2.buo, f2.eno.bo.ql, f3⟩
    · skip
      refine eff_made rfl (by simp [go_sem]; exact ⟨rfl, rfl⟩) (by repeat (first | (with_reducible exact Bel.refl _) | (with_reducible assumption) | (with_reducible refine Bel.drewN ?_ _) | (with_reducible refine Bel.drew ?_) | (with_reducible refine Bel.alloc ?_ _) | (with_reducible refine Bel.setNew ?_ ?_ _) | (with_reducible refine Bel.trans ?_ (by assumption)) | (focus (simp; done)) | (focus (simp; omega)))) ?_
      try simp only [List.nil_append, List.cons_append, Act.put, List.setIfInBounds_toArray, List.set_cons_succ, List.set_cons_zero]
      refine st_branch [5] (by kernel_rfl) (branch_cons (by simp only [List.getElem?_toArray, List.getElem?_cons_succ, List.getElem?_cons_zero]; rfl) ?_ branch_nil)
      refine eff_call 14 rfl (by simp [go_sem]; rfl) (by repeat (first | (with_reducible exact Bel.refl _) | (with_reducible assumption) | (with_reducible refine Bel.drewN ?_ _) | (with_reducible refine Bel.drew ?_) | (with_reducible refine Bel.alloc ?_ _) | (with_reducible refine Bel.setNew ?_ ?_ _) | (with_reducible refine Bel.trans ?_ (by assumption)) | (focus (simp; done)) | (focus (simp; omega)))) ?_
      refine (HWO.out _ (by repeat (first | (with_reducible exact Bel.refl _) | (with_reducible assumption) | (with_reducible refine Bel.drewN ?_ _) | (with_reducible refine Bel.drew ?_) | (with_reducible refine Bel.alloc ?_ _) | (with_reducible refine Bel.setNew ?_ ?_ _) | (with_reducible refine Bel.trans ?_ (by assumption)) | (focus (simp; done)) | (focus (simp; omega))))).mono ?_; rintro e w5 ⟨v5, rfl, hI5, hb5⟩
      refine ⟨_, rfl, hb5, ?_⟩
      try simp only [List.nil_append, List.cons_append, Act.put, List.setIfInBounds_toArray, List.set_cons_succ, List.set_cons_zero]
      refine st_branch [8] (by kernel_rfl) (branch_cons (by simp only [List.getElem?_toArray, List.getElem?_cons_succ, List.getElem?_cons_zero]; rfl) ?_ branch_nil)
      refine eff_call 11 rfl (by simp [go_sem]; rfl) (by repeat (first | (with_reducible exact Bel.refl _) | (with_reducible assumption) | (with_reducible refine Bel.drewN ?_ _) | (with_reducible refine Bel.drew ?_) | (with_reducible refine Bel.alloc ?_ _) | (with_reducible refine Bel.setNew ?_ ?_ _) | (with_reducible refine Bel.trans ?_ (by assumption)) | (focus (simp; done)) | (focus (simp; omega)))) ?_
      refine (HND2.out _ _ (by repeat (first | (with_reducible exact Bel.refl _) | (with_reducible assumption) | (with_reducible refine Bel.drewN ?_ _) | (with_reducible refine Bel.drew ?_) | (with_reducible refine Bel.alloc ?_ _) | (with_reducible refine Bel.setNew ?_ ?_ _) | (with_reducible refine Bel.trans ?_ (by assumption)) | (focus (simp; done)) | (focus (simp; omega)))) (hI5.bel (by repeat (first | (with_reducible exact Bel.refl _) | (with_reducible assumption) | (with_reducible refine Bel.drewN ?_ _) | (with_reducible refine Bel.drew ?_) | (with_reducible refine Bel.alloc ?_ _) | (with_reducible refine Bel.setNew ?_ ?_ _) | (with_reducible refine Bel.trans ?_ (by assumption)) | (focus (simp; done)) | (focus (simp; omega)))))).mono ?_; rintro e w6 ⟨fl', bu', en', rfl, hE6, hb6⟩
      obtain ⟨B1, e1, rfl⟩ := own_slice hE6.flo
      obtain ⟨B2, e2, rfl⟩ := own_slice hE6.buo
      obtain ⟨B3, e3, hve⟩ := own_slice hE6.eno.bo.own
      subst hve
      refine ⟨_, rfl, hb6, ?_⟩
      try simp only [List.nil_append, List.cons_append, Act.put, List.setIfInBounds_toArray, List.set_cons_succ, List.set_cons_zero]
      with_reducible refine st_sel [9, 10, 11] (by kernel_rfl) (by kernel_rfl) ?_
      simp only [picked, List.getElem?_cons_succ, List.getElem?_cons_zero, Option.toList_some, List.nil_append, List.cons_append, List.append_nil]
      try simp only [Act.put, List.setIfInBounds_toArray, List.set_cons_succ, List.set_cons_zero]
      repeat (go_big_quiet_step (fail))
      with_reducible refine wpQuiet_nil ?_
      refine st_branch [13] (by kernel_rfl) (branch_cons (by simp only [List.getElem?_toArray, List.getElem?_cons_succ, List.getElem?_cons_zero]; rfl) ?_ branch_nil)
      have hs5 := hb5.size
      have hs6 := hb6.size
      simp only [World.size_drew, World.size_alloc] at hs5 hs6
      have hYY := ((AtF.new_at (w := W4.drew) (g := W4.heap.size) (by simp) 31 [.int .i64 0, .int .i64 0, .int .i64 0, .int .i64 0, .slice none 0 0, .slice none 0 0, .slice none 0 0, .int .i64 0]).bel hb5).bel hb6
      have hBW : Bel W4 w6 := (Bel.drew (Bel.refl W4)).trans (((Bel.refl W4.drew).alloc _).trans (hb5.trans hb6))
      have hYl : W4.heap.size ≤ W4.heap.size := Nat.le_refl _
      have hF2 := ElN.setRow (B := W4.heap.size) (i := 0) [.int .i64 ck, .int .i64 cr, .int .i64 cx, .int .i64 0, .slice B1 CF.length e1, .slice B2 CB.length e2, .slice B3 0 e3, .int .i64 0] hE6 (by omega)
      clear hs5 hs6
      have one8 : ∀ u ∈ ([.int .i64 ck, .int .i64 cr, .int .i64 cx, .int .i64 0, .slice B1 CF.length e1, .slice B2 CB.length e2, .slice B3 0 e3, .int .i64 0] : List Value), u.oneCell' = true := fun u hu => by
        simp only [List.mem_cons, List.not_mem_nil, or_false] at hu
        rcases hu with rfl | rfl | rfl | rfl | rfl | rfl | rfl | rfl <;> rfl
      have hi8 : (Try.prog.info? 31).map (·.size) = some 8 := by kernel_rfl
      have hF1 := hYY.setRow [.int .i64 ck, .int .i64 cr, .int .i64 cx, .int .i64 0, .slice B1 CF.length e1, .slice B2 CB.length e2, .slice B3 0 e3, .int .i64 0] rfl
      have hF3 := Bel.setRow (B := W4.heap.size) (i := 0) [.int .i64 ck, .int .i64 cr, .int .i64 cx, .int .i64 0, .slice B1 CF.length e1, .slice B2 CB.length e2, .slice B3 0 e3, .int .i64 0] hBW hYl
      have HFF := Lib.hid (And.intro hF1 (And.intro hF2 hF3))
      with_reducible refine eff_done (w' := setRow (w6) (W4.heap.size) 0 [.int .i64 ck, .int .i64 cr, .int .i64 cx, .int .i64 0, .slice B1 CF.length e1, .slice B2 CB.length e2, .slice B3 0 e3, .int .i64 0]) ?_ ?_ ?_ ?_
      · rfl
      · exact exec_store_at (vs := [.int .i64 ck, .int .i64 cr, .int .i64 cx, .int .i64 0, .slice B1 CF.length e1, .slice B2 CB.length e2, .slice B3 0 e3, .int .i64 0]) 31 _ _ rfl rfl rfl hYY rfl one8 hi8
      · exact hF3
      try simp only [List.nil_append, List.cons_append, Act.put, List.setIfInBounds_toArray, List.set_cons_succ, List.set_cons_zero]
      clear hF1 hF2 hF3 hYY hBW hYl one8 hi8
      generalize setRow (w6) (W4.heap.size) 0 [.int .i64 ck, .int .i64 cr, .int .i64 cx, .int .i64 0, .slice B1 CF.length e1, .slice B2 CB.length e2, .slice B3 0 e3, .int .i64 0] = WF at HFF ⊢
      refine st_end (by kernel_rfl) ?_
      simp only [List.drop_succ_cons, List.drop_zero, List.drop_nil]
      go_wp2_with fail
      go_meet
      obtain ⟨f1, f2, f3⟩ := HFF.out
      exact ⟨_, _, _, _, rfl, rfl, f1, Rd.own f2.flo, Rd.own f2.buo, f2.eno.bo.ql, f3⟩
  case rest =>
    obtain ⟨D, fl', bu', en', rfl, rfl, hD, hfD, hbD, hqD, hb5⟩ := hcut
    have HSM2 := Lib.hid (fun W (h : Bel wc W) => sameElev_any ck cr cx 0 0 CF CB [] [] _ _ _ _ _ _ W (Rd.own (own_keep hEC4.flo (hb5.trans h))) (hfD.bel h) (Rd.own (own_keep hEC4.buo (hb5.trans h))) (hbD.bel h) (hEC4.eno.bo.ql.bel (hb5.trans h)) (hqD.bel h) rfl HCL.out.1 HCL.out.2 (Nat.zero_le _))
    have hX5 := hX4.bel hb5
    have hY5 := hY4.bel hb5
    have hZ5 := hZ4.bel hb5
    have hbw5 := hbw4.trans hb5
    have HS1 := Lib.hid (HSM1.out wc hb5)
    clear hX4 hY4 hZ4 hEA4 hEB4 hEC4 hbw4 hfD hbD hqD HSM1
    have x0 := (hX5).1.2 0 _ rfl
    have x1 := (hX5).1.2 1 _ rfl
    have x2 := (hX5).1.2 2 _ rfl
    have x3 := (hX5).1.2 3 _ rfl
    have x4 := (hX5).1.2 4 _ rfl
    have x5 := (hX5).1.2 5 _ rfl
    have x6 := (hX5).1.2 6 _ rfl
    have x7 := (hX5).1.2 7 _ rfl
    have xl := hX5.1.1
    have y0 := (hY5).1.2 0 _ rfl
    have y1 := (hY5).1.2 1 _ rfl
    have y2 := (hY5).1.2 2 _ rfl
    have y3 := (hY5).1.2 3 _ rfl
    have y4 := (hY5).1.2 4 _ rfl
    have y5 := (hY5).1.2 5 _ rfl
    have y6 := (hY5).1.2 6 _ rfl
    have y7 := (hY5).1.2 7 _ rfl
    have yl := hY5.1.1
    go_upto_region 7 with fail
    go_wp2_with fail
    refine HS1.out.mono ?_; rintro e w6 ⟨rfl, hb6⟩
    clear x0 x1 x2 x3 x4 x5 x6 x7 xl y0 y1 y2 y3 y4 y5 y6 y7 yl hX5 hY5
    have hZ6 := hZ5.bel hb6
    have hD6 := hD.bel hb6
    have z0 := (hZ6).1.2 0 _ rfl
    have z1 := (hZ6).1.2 1 _ rfl
    have z2 := (hZ6).1.2 2 _ rfl
    have z3 := (hZ6).1.2 3 _ rfl
    have z4 := (hZ6).1.2 4 _ rfl
    have z5 := (hZ6).1.2 5 _ rfl
    have z6 := (hZ6).1.2 6 _ rfl
    have z7 := (hZ6).1.2 7 _ rfl
    have zl := hZ6.1.1
    have d0 := (hD6).1.2 0 _ rfl
    have d1 := (hD6).1.2 1 _ rfl
    have d2 := (hD6).1.2 2 _ rfl
    have d3 := (hD6).1.2 3 _ rfl
    have d4 := (hD6).1.2 4 _ rfl
    have d5 := (hD6).1.2 5 _ rfl
    have d6 := (hD6).1.2 6 _ rfl
    have d7 := (hD6).1.2 7 _ rfl
    have dl := hD6.1.1
    have kk : (K == K) = true := by cases K <;> rfl
    have rr : (r == r) = true := by cases r <;> rfl
    go_wp2_with fail
    refine (HSM2.out _ hb6).mono ?_; rintro e w7 ⟨rfl, hb7⟩
    clear z0 z1 z2 z3 z4 z5 z6 z7 zl d0 d1 d2 d3 d4 d5 d6 d7 dl hZ5 hZ6 hD hD6
    go_wp2_with fail
    refine (awake33_any _).mono ?_; rintro e w8 ⟨rfl, hb8⟩
    go_wp2
    go_ret
    exact ⟨rfl, (by repeat (first | (with_reducible exact Bel.refl _) | (with_reducible assumption) | (with_reducible refine Bel.drewN ?_ _) | (with_reducible refine Bel.drew ?_) | (with_reducible refine Bel.alloc ?_ _) | (with_reducible refine Bel.setNew ?_ ?_ _) | (with_reducible refine Bel.trans ?_ (by assumption)) | (focus (simp; done)) | (focus (simp; omega))))⟩
end Go.Proofs.Ytpgjbocjhconoaa
