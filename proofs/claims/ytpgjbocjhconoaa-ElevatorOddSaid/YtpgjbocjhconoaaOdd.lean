/- The walk of ElevatorOdd. -/
import Derived.Test.YtpgjbocjhconoaaElRA
import Derived.Test.YtpgjbocjhconoaaBnsN
import Derived.Test.YtpgjbocjhconoaaK11
import Derived.Test.YtpgjbocjhconoaaOpenB
namespace Go.Proofs.Ytpgjbocjhconoaa
open Go.RowKit Go.Maps
set_option linter.unusedSimpArgs false

/-- What every Add keeps. -/
structure OkA (k : Nat) (E : El) : Prop where
  fl : E.fl.length = 4
  bk : E.bk.length = 4
  en : E.en.length ≤ k
  ok : ∀ x ∈ E.en, okU x.u = true
theorem OkA.add {k : Nat} {E : El} (h : OkA k E) (M B : Int) (b : Bu) : OkA (k + 1) (addE M B E b).1 := by
  have hg : (growB E.vt E.fl b.ten b.cnt).1.length = E.fl.length := advB_len2 _ _ _ _ _
  have hs : (stampB E.vt E.fl b.ten b.cnt).1.length = E.fl.length := advB_len2 _ _ _ _ _
  have h0 : OkA (k + 1) E := ⟨h.fl, h.bk, by have := h.en; omega, h.ok⟩
  unfold addE
  split
  · rename_i hok
    split
    · rename_i i hp
      obtain ⟨a, ha, hc, hd⟩ := partP_find hp
      simp only [ha]
      split
      · obtain ⟨x, y, hj⟩ := join_shape hc
        refine ⟨hg.trans h.fl, h.bk, by show (E.en.set i _).length ≤ k + 1; rw [List.length_set]; have := h.en; omega, fun z hz => ?_⟩
        have hz' : z ∈ E.en.set i ⟨joinU a.u b (canU M B a.u b), min a.due (dueU E.rdE E.wrE b), a.sta, a.tri⟩ := hz
        rcases List.mem_or_eq_of_mem_set hz' with hz | rfl
        · exact h.ok z hz
        · show okU (joinU a.u b (canU M B a.u b)) = true
          rw [hj.eq]; exact hj.ok
      · exact h0
    · split
      · refine ⟨hs.trans h.fl, h.bk, by show (E.en ++ _).length ≤ k + 1; rw [List.length_append]; have := h.en; simp; omega, fun z hz => ?_⟩
        have hz' : z ∈ E.en ++ [(⟨b, dueU E.rdE E.wrE b, (stampB E.vt E.fl b.ten b.cnt).2.1, 0⟩ : Qu)] := hz
        rcases List.mem_append.1 hz' with hz | hz
        · exact h.ok z hz
        · rw [List.mem_singleton] at hz
          subst hz
          exact hok.1
      · exact h0
  · exact h0
theorem addE_no {M B : Int} {E : El} {b : Bu} (h : (addE M B E b).2 = false) : (addE M B E b).1 = E := by
  unfold addE at h ⊢
  split at h
  · rename_i hok
    rw [if_pos hok]
    split at h
    · rename_i i hp
      obtain ⟨a, ha, _, _⟩ := partP_find hp
      simp only [ha] at h ⊢
      split at h
      · cases h
      · rename_i hg; rw [if_neg hg]
    · split at h
      · cases h
      · rename_i hg; rw [if_neg hg]
  · rename_i hok; rw [if_neg hok]
theorem OkA.oke {k : Nat} {E : El} (h : OkA k E) (hk : k ≤ 30) : OkE E := ⟨h.fl, h.bk, by have := h.en; omega, h.ok⟩
theorem refAdd_E (M B : Int) (E : El) (fl bu en : Value) (L : List QM) (y : BM) (w : World) (h : ElR w fl bu en E.fl E.bk L) (hL : L.map QM.qu = E.en) (ho : OkE E) (hy : Mems w y.b y.ms) :
    Calls Try.prog 18 #[.agg #[.int .i64 M, .int .i64 B], .agg #[.int .i64 E.knd, .int .i64 E.rdE, .int .i64 E.wrE, .int .i64 E.vt, fl, bu, en, .int .i64 E.hd], .agg #[.int .i64 (y.b).id, .int .i64 (y.b).ten, .int .i64 (y.b).knd, .int .i64 (y.b).sec, .int .i64 (y.b).cnt, .string (y.b).dat, .bool (y.b).fua, .slice (y.b).mA (y.b).mL (y.b).mC, .int .i64 (y.b).tim]] w fun e w' => ∃ fl' bu' en' L',
      e = .returned (.tuple #[.agg #[.int .i64 E.knd, .int .i64 E.rdE, .int .i64 E.wrE, .int .i64 E.vt, fl', bu', en', .int .i64 E.hd], .bool (addE M B E y.bu).2]) ∧
      ElR w' fl' bu' en' (addE M B E y.bu).1.fl E.bk L' ∧ L'.map QM.qu = (addE M B E y.bu).1.en ∧ (∀ N < w.heap.size, Off N fl bu en L → Ofm N y → Off N fl' bu' en' L') ∧ Bel w w' := by
  have hl : L.length = E.en.length := by rw [← hL, List.length_map]
  have H := refElAdd_any M B E.knd E.rdE E.wrE E.vt E.hd fl bu en E.fl E.bk L y w h hy (by rw [ho.fl]; omega) (by have := ho.en; omega)
  have e : (⟨E.knd, E.rdE, E.wrE, E.vt, E.fl, E.bk, L.map QM.qu, E.hd⟩ : El) = E := by rw [hL]
  rw [e] at H
  exact H
theorem elAdd_R (M B : Int) (E : El) (fl bu en : Value) (L : List QM) (y : BM) (w : World) (h : ElR w fl bu en E.fl E.bk L) (hL : L.map QM.qu = E.en) (ho : OkE E) (hy : Mems w y.b y.ms) (hym : y.ms.length ≤ 1000) :
    Calls Try.prog 19 #[.agg #[.int .i64 M, .int .i64 B], .agg #[.int .i64 E.knd, .int .i64 E.rdE, .int .i64 E.wrE, .int .i64 E.vt, fl, bu, en, .int .i64 E.hd], .agg #[.int .i64 (y.b).id, .int .i64 (y.b).ten, .int .i64 (y.b).knd, .int .i64 (y.b).sec, .int .i64 (y.b).cnt, .string (y.b).dat, .bool (y.b).fua, .slice (y.b).mA (y.b).mL (y.b).mC, .int .i64 (y.b).tim]] w fun e w' => ∃ fl' bu' en' L',
      e = .returned (.tuple #[.agg #[.int .i64 E.knd, .int .i64 E.rdE, .int .i64 E.wrE, .int .i64 E.vt, fl', bu', en', .int .i64 E.hd], .bool (addE M B E y.bu).2]) ∧
      ElN w' w.heap.size fl' bu' en' (addE M B E y.bu).1.fl E.bk L' ∧ L'.map QM.qu = (addE M B E y.bu).1.en ∧ Bel w w' := by
  obtain ⟨h1, h2, _⟩ := ho.ms hL
  have H := elAdd_any M B E.knd E.rdE E.wrE E.vt E.hd fl bu en E.fl E.bk L y w h.f h.b h.q hy (by rw [ho.fl]; omega) (by rw [ho.bk]; omega) h1 h2 hym
  have e : (⟨E.knd, E.rdE, E.wrE, E.vt, E.fl, E.bk, L.map QM.qu, E.hd⟩ : El) = E := by rw [hL]
  rw [e] at H
  exact H

set_option maxRecDepth 100000 in
set_option maxHeartbeats 16000000 in
theorem elevatorOdd_walk (n kind : Int) (v : Value) (zs : List Int) (y : BM) (w : World) (hn : IsInt n) (_ : IsInt kind) (hz : Ints w v zs) (hy : Mems w y.b y.ms) :
    Calls Try.prog 4 #[.int .i64 n, .int .i64 kind, v, .agg #[.int .i64 (y.b).id, .int .i64 (y.b).ten, .int .i64 (y.b).knd, .int .i64 (y.b).sec, .int .i64 (y.b).cnt, .string (y.b).dat, .bool (y.b).fua, .slice (y.b).mA (y.b).mL (y.b).mC, .int .i64 (y.b).tim]] w fun e w' => e = .returned (.bool true) ∧ Bel w w' := by
  have HBN := Lib.hid (fun w' (h : Bel w w') => bunchesN_any v zs w' (hz.bel h))
  have hq1 := rnd_lo kind 3
  have hq2 := rnd_hi kind 3 (by omega)
  obtain ⟨rk, HRK⟩ : ∃ r, Hid (rnd kind 3 = r) := ⟨_, rfl⟩
  rw [HRK.out] at hq1 hq2
  have ek : IntKind.i64.wrap (1 + rk) = 1 + rk := IntWalk.i64_in _ (by omega)
  have HMD := Lib.hid (fun W => made_E n (1 + rk) W hn (by unfold kindOk; rw [decide_eq_true_eq]; omega))
  obtain ⟨E0, HE0⟩ : ∃ E, Hid (madeE n (1 + rk) = E) := ⟨_, rfl⟩
  rw [HE0.out] at HMD
  have HOK0 : Hid (OkA 0 E0) := by
    show OkA 0 E0
    rw [← HE0.out]
    have h := madeE_ok n (1 + rk)
    exact ⟨h.fl, h.bk, Nat.le_refl _, h.ok⟩
  have HEN0 : Hid (E0.en = []) := by show _ = _; rw [← HE0.out]; rfl
  have HY := Lib.hid hy
  obtain ⟨⟨i1, t1, k1, s1, n1, d1, f1, a1, l1, c1, m1⟩, ms1⟩ := y
  obtain rfl : l1 = ms1.length := HY.out.len
  have HYM := Lib.hid (fun w' (h : Bel w w') => HY.out.bel h)
  simp only at HYM ⊢
  have hT1 := AtF.new_at (w := w) rfl 42 [.int .i64 i1, .int .i64 t1, .int .i64 k1, .int .i64 s1, .int .i64 n1, .string d1, .bool f1, .slice a1 ms1.length c1, .int .i64 m1]
  have hbw1 : Bel w (w.alloc (.cells [.int .i64 i1, .int .i64 t1, .int .i64 k1, .int .i64 s1, .int .i64 n1, .string d1, .bool f1, .slice a1 ms1.length c1, .int .i64 m1].toArray 42)) := (by repeat (first | (with_reducible exact Bel.refl _) | (with_reducible assumption) | (with_reducible refine Bel.drewN ?_ _) | (with_reducible refine Bel.drew ?_) | (with_reducible refine Bel.alloc ?_ _) | (with_reducible refine Bel.setNew ?_ ?_ _) | (with_reducible refine Bel.trans ?_ (by assumption)) | (focus (simp; done)) | (focus (simp; omega))))
  simp only [List.toArray] at hT1 hbw1
  clear hz hy
  obtain ⟨ds, Hds⟩ : ∃ k, Hid (d1.size = k) := ⟨_, rfl⟩
  obtain ⟨ml, Hml⟩ : ∃ k, Hid (ms1.length = k) := ⟨_, rfl⟩
  rw [Hml.out] at hT1 hbw1 ⊢
  by_cases hd : 1200 < ds
  · have hdb : (1200 : Int) < (d1.size : Int) := by rw [Hds.out]; omega
    go_enter Try.func4, Try.ntmps4
    go_wp2
    go_ret
    exact ⟨rfl, (by repeat (first | (with_reducible exact Bel.refl _) | (with_reducible assumption) | (with_reducible refine Bel.drewN ?_ _) | (with_reducible refine Bel.drew ?_) | (with_reducible refine Bel.alloc ?_ _) | (with_reducible refine Bel.setNew ?_ ?_ _) | (with_reducible refine Bel.trans ?_ (by assumption)) | (focus (simp; done)) | (focus (simp; omega))))⟩
  have hdb : ¬ (1200 : Int) < (d1.size : Int) := by rw [Hds.out]; omega
  by_cases hm : 10 < ml
  · have hmb : (10 : Int) < (ml : Int) := by omega
    go_enter Try.func4, Try.ntmps4
    go_wp2
    go_ret
    exact ⟨rfl, (by repeat (first | (with_reducible exact Bel.refl _) | (with_reducible assumption) | (with_reducible refine Bel.drewN ?_ _) | (with_reducible refine Bel.drew ?_) | (with_reducible refine Bel.alloc ?_ _) | (with_reducible refine Bel.setNew ?_ ?_ _) | (with_reducible refine Bel.trans ?_ (by assumption)) | (focus (simp; done)) | (focus (simp; omega))))⟩
  have hmb : ¬ (10 : Int) < (ml : Int) := by omega
  go_enter Try.func4, Try.ntmps4
  go_upto_region 3 with fail
  generalize w.alloc _ = W1 at *
  obtain ⟨P, HP⟩ : ∃ P, Hid (w.heap.size = P) := ⟨_, rfl⟩
  rw [HP.out] at hT1 ⊢
  have hPw : w.heap.size ≤ P := Nat.le_of_eq HP.out
  have hPl := hT1.1.1
  go_wp2_with fail
  refine (round_any kind 3 _ (by omega)).mono ?_; rw [HRK.out]; rintro e w1 ⟨rfl, rfl⟩
  go_wp2_with fail
  refine (HMD.out _).mono ?_; rintro e w2 ⟨fl1, bu1, en1, rfl, hEN, hb2⟩
  obtain ⟨A4, c4, rfl⟩ := own_slice hEN.flo
  obtain ⟨A5, c5, rfl⟩ := own_slice hEN.buo
  obtain ⟨A6, c6, hv6⟩ := own_slice hEN.eno.bo.own
  subst hv6
  obtain ⟨X, HX0⟩ : ∃ X, Hid (w2.heap.size = X) := ⟨_, rfl⟩
  have hPX : P < X := by rw [← HX0.out]; have := hb2.size; omega
  have hX := AtF.new_at (w := w2) HX0.out.symm 31 [.int .i64 E0.knd, .int .i64 E0.rdE, .int .i64 E0.wrE, .int .i64 E0.vt, .slice A4 E0.fl.length c4, .slice A5 E0.bk.length c5, .slice A6 0 c6, .int .i64 E0.hd]
  have hbn : Bel w2 (w2.alloc (.cells [.int .i64 E0.knd, .int .i64 E0.rdE, .int .i64 E0.wrE, .int .i64 E0.vt, .slice A4 E0.fl.length c4, .slice A5 E0.bk.length c5, .slice A6 0 c6, .int .i64 E0.hd].toArray 31)) := (by repeat (first | (with_reducible exact Bel.refl _) | (with_reducible assumption) | (with_reducible refine Bel.drewN ?_ _) | (with_reducible refine Bel.drew ?_) | (with_reducible refine Bel.alloc ?_ _) | (with_reducible refine Bel.setNew ?_ ?_ _) | (with_reducible refine Bel.trans ?_ (by assumption)) | (focus (simp; done)) | (focus (simp; omega))))
  have hEN2 := hEN.keep hbn
  have hOF : Off X (.slice A4 E0.fl.length c4) (.slice A5 E0.bk.length c5) (.slice A6 0 c6) [] := hEN.newOff (by rw [HX0.out]; exact Nat.le_refl _)
  have hT2 := hT1.bel (hb2.trans hbn)
  have hb3 := (hbw1.trans hb2).trans hbn
  simp only [List.toArray] at hX hEN2 hb3 hT2
  go_upto_region 4 with fail
  rw [HX0.out]
  generalize hW2 : w2.alloc _ = W2 at *
  clear hW2 hbn hEN hb2 hT1 hbw1
  go_wp2_with fail
  refine (HBN.out _ hb3).mono ?_; rintro e w3 ⟨U, LB, rfl, hLB, hBN, hb4⟩
  have hXl := hX.1.1
  have hX3 := hX.bel hb4
  have hT3 := hT2.bel hb4
  have hR3 := (ElR.of hEN2).bel hb4
  have hBN3 := hBN.mono (base' := X + 1) (by omega)
  have hb34 := hb3.trans hb4
  clear hX hT2 hEN2 hBN hb3 hb4 hXl
  have HLB := Lib.hid hLB
  obtain ⟨Au, cu, huv⟩ := own_slice hBN3.bo.own
  subst huv
  obtain ⟨nb, Hnb⟩ : ∃ k, Hid (LB.length = k) := ⟨_, rfl⟩
  have hn8 : nb ≤ 8 := by rw [← Hnb.out, hLB.1]; omega
  rw [Hnb.out] at hBN3 ⊢
  clear hLB
  go_wp2_with fail
  have HS0 := Lib.hid (And.intro hX3 (And.intro hT3 (And.intro hR3 (And.intro hBN3 hb34))))
  go_loopw [12] (fun iv wr => ∃ (i : Nat) (E : El) (fl bu en : Value) (L : List QM), iv = .int .i64 i ∧ i ≤ nb ∧ Hid (OkA i E) ∧ AtF wr X [.int .i64 E.knd, .int .i64 E.rdE, .int .i64 E.wrE, .int .i64 E.vt, fl, bu, en, .int .i64 E.hd] ∧ AtF wr P [.int .i64 i1, .int .i64 t1, .int .i64 k1, .int .i64 s1, .int .i64 n1, .string d1, .bool f1, .slice a1 ml c1, .int .i64 m1] ∧ ElR wr fl bu en E.fl E.bk L ∧ Hid (Off X fl bu en L) ∧ Hid (L.map QM.qu = E.en) ∧ BN wr (X + 1) (.slice Au nb cu) LB ∧ Bel w wr ∧ X < wr.heap.size) (fun iv _ => nb - (intOf iv).toNat)
  case atStart => exact ⟨0, E0, .slice A4 E0.fl.length c4, .slice A5 E0.bk.length c5, .slice A6 0 c6, [], rfl, by omega, HOK0, hX3, hT3, hR3, hOF, HEN0.out.symm, hBN3, hb34, hX3.1.1⟩
  case round =>
    clear hX3 hT3 hR3 hBN3 hb34 HS0 hOF
    obtain ⟨i, E, fl, bu, en, L, rfl, p1, HOK, hX, hT, hR, HOF, HL, hBN, hbr, hXW⟩ := hrel
    obtain ⟨W4, rfl⟩ : ∃ X, X = wr := ⟨_, rfl⟩
    obtain ⟨A1, c1', rfl, -, -⟩ := hR.f.form
    obtain ⟨A2, c2, rfl, -, -⟩ := hR.b.form
    obtain ⟨A3, c3, rfl, -, -⟩ := hR.q.form
    by_cases hlt : i < nb
    · have hin : (i : Int) < (nb : Int) := by omega
      obtain ⟨x, hx⟩ : ∃ x, LB[i]? = some x := ⟨LB[i]'(by have := Hnb.out; omega), List.getElem?_eq_getElem _⟩
      obtain ⟨g, o, c9, hat⟩ := hBN.bo.bl.at hx
      have HOK2 := Lib.hid (HOK.out.add 4 0 x.bu)
      have hfo := hat.form
      injection hfo with h1 h2 h3
      subst h1
      have hrow := hat.row
      have hmx := hat.mem
      have gl := hat.lt
      have HOM : Hid (∀ N, (N = X ∨ W4.heap.size ≤ N) → Ofm N x) := fun N hN h0 e => by
        rcases hN with rfl | hN
        · have := hBN.fr i x (List.getElem?_eq_some_iff.1 hx).1 hx h0 N e
          omega
        · have := hmx.rd.own_lt h0 e
          omega
      have HAD : Hid (∀ W, Bel W4 W → _) := fun W hb => refAdd_E 4 0 E _ _ _ L x W (hR.bel hb) HL.out (HOK.out.oke (by omega)) (hmx.bel hb)
      have HNO := Lib.hid (addE_no (M := 4) (B := 0) (E := E) (b := x.bu))
      have HSM := Lib.hid (addE_same 4 0 E x.bu)
      obtain ⟨E', HE'⟩ : ∃ E', Hid (addE 4 0 E x.bu = E') := ⟨_, rfl⟩
      obtain ⟨E', b'⟩ := E'
      rw [HE'.out] at HAD HSM HOK2 HNO
      simp only at HAD HSM HOK2 HNO
      have HNW := Lib.hid (fun N (hN : W4.heap.size ≤ N) => hR.newOff hN)
      clear h2 h3 hx hat HE' hmx
      go_upto_region 8 with fail
      go_cut [13, 14] (fun xv kv wx => ∃ (Y : Nat) (fl' bu' en' : Value) (L2 : List QM), xv = .pointer (some ⟨Y, 0, none⟩) ∧ kv = .bool b' ∧ AtF wx Y [.int .i64 E.knd, .int .i64 E.rdE, .int .i64 E.wrE, .int .i64 E.vt, fl', bu', en', .int .i64 E.hd] ∧ ElR wx fl' bu' en' E'.fl E.bk L2 ∧ L2.map QM.qu = E'.en ∧ Off X fl' bu' en' L2 ∧ Bel W4 wx)
      case first =>
        obtain ⟨⟨i2, t2, k2, s2, n2, d2, f2, a2, l2, c3', m2⟩, ms2⟩ := x
        simp only at hrow HAD
        have k0 := (hX).1.2 0 _ rfl
        have k1 := (hX).1.2 1 _ rfl
        have k2 := (hX).1.2 2 _ rfl
        have k3 := (hX).1.2 3 _ rfl
        have k4 := (hX).1.2 4 _ rfl
        have k5 := (hX).1.2 5 _ rfl
        have k6 := (hX).1.2 6 _ rfl
        have k7 := (hX).1.2 7 _ rfl
        have r0 := fun d os => cell_regrown k0 d os
        have r1 := fun d os => cell_regrown k1 d os
        have r2 := fun d os => cell_regrown k2 d os
        have r3 := fun d os => cell_regrown k3 d os
        have r4 := fun d os => cell_regrown k4 d os
        have r5 := fun d os => cell_regrown k5 d os
        have r6 := fun d os => cell_regrown k6 d os
        have r7 := fun d os => cell_regrown k7 d os
        have b0 := (hrow).cell 0 rfl
        have b1 := (hrow).cell 1 rfl
        have b2 := (hrow).cell 2 rfl
        have b3 := (hrow).cell 3 rfl
        have b4 := (hrow).cell 4 rfl
        have b5 := (hrow).cell 5 rfl
        have b6 := (hrow).cell 6 rfl
        have b7 := (hrow).cell 7 rfl
        have b8 := (hrow).cell 8 rfl
        rw [Nat.add_zero] at b0
        have q0 := fun d os => cell_regrown b0 d os
        have q1 := fun d os => cell_regrown b1 d os
        have q2 := fun d os => cell_regrown b2 d os
        have q3 := fun d os => cell_regrown b3 d os
        have q4 := fun d os => cell_regrown b4 d os
        have q5 := fun d os => cell_regrown b5 d os
        have q6 := fun d os => cell_regrown b6 d os
        have q7 := fun d os => cell_regrown b7 d os
        have q8 := fun d os => cell_regrown b8 d os
        have kl := hX.1.1
        clear k0 k1 k2 k3 k4 k5 k6 k7 hrow
        clear b0 b1 b2 b3 b4 b5 b6 b7 b8
        refine wp_region_st [6, 10, 11] 12 (by kernel_rfl) (by kernel_rfl) ?_
        with_reducible refine st_sel [0, 1, 2, 3, 4, 5] (by kernel_rfl) (by kernel_rfl) ?_
        simp only [picked, List.getElem?_cons_succ, List.getElem?_cons_zero, Option.toList_some, List.nil_append, List.cons_append, List.append_nil]
        try simp only [Act.put, List.setIfInBounds_toArray, List.set_cons_succ, List.set_cons_zero]
        repeat (go_big_quiet_step (fail))
        with_reducible refine wpQuiet_nil ?_
        refine st_branch [6, 10] (by kernel_rfl) (branch_cons (by simp only [List.getElem?_toArray, List.getElem?_cons_succ, List.getElem?_cons_zero]; rfl) ?_ (branch_cons (by simp only [List.getElem?_toArray, List.getElem?_cons_succ, List.getElem?_cons_zero]; rfl) ?_ branch_nil))
        · skip
          refine eff_call 18 rfl (by simp [go_sem]; rfl) (by repeat (first | (with_reducible exact Bel.refl _) | (with_reducible assumption) | (with_reducible refine Bel.drewN ?_ _) | (with_reducible refine Bel.drew ?_) | (with_reducible refine Bel.alloc ?_ _) | (with_reducible refine Bel.setNew ?_ ?_ _) | (with_reducible refine Bel.trans ?_ (by assumption)) | (focus (simp; done)) | (focus (simp; omega)))) ?_
          refine (HAD.out _ (by repeat (first | (with_reducible exact Bel.refl _) | (with_reducible assumption) | (with_reducible refine Bel.drewN ?_ _) | (with_reducible refine Bel.drew ?_) | (with_reducible refine Bel.alloc ?_ _) | (with_reducible refine Bel.setNew ?_ ?_ _) | (with_reducible refine Bel.trans ?_ (by assumption)) | (focus (simp; done)) | (focus (simp; omega))))).mono ?_; rintro e w6 ⟨fl', bu', en', L2, rfl, hE6, hL6, hO6, hb6⟩
          obtain ⟨A7, c7, rfl, -, -⟩ := hE6.f.form
          obtain ⟨A8, c8, rfl, -, -⟩ := hE6.b.form
          obtain ⟨A9, c9', rfl, -, -⟩ := hE6.q.form
          refine ⟨_, rfl, hb6, ?_⟩
          try simp only [List.nil_append, List.cons_append, Act.put, List.setIfInBounds_toArray, List.set_cons_succ, List.set_cons_zero]
          with_reducible refine st_sel [7, 8, 9] (by kernel_rfl) (by kernel_rfl) ?_
          simp only [picked, List.getElem?_cons_succ, List.getElem?_cons_zero, Option.toList_some, List.nil_append, List.cons_append, List.append_nil]
          try simp only [Act.put, List.setIfInBounds_toArray, List.set_cons_succ, List.set_cons_zero]
          repeat (go_big_quiet_step (fail))
          with_reducible refine wpQuiet_nil ?_
          refine st_branch [10] (by kernel_rfl) (branch_cons (by simp only [List.getElem?_toArray, List.getElem?_cons_succ, List.getElem?_cons_zero]; rfl) ?_ branch_nil)
          refine eff_made rfl (by simp [go_sem]; exact ⟨rfl, rfl⟩) (by repeat (first | (with_reducible exact Bel.refl _) | (with_reducible assumption) | (with_reducible refine Bel.drewN ?_ _) | (with_reducible refine Bel.drew ?_) | (with_reducible refine Bel.alloc ?_ _) | (with_reducible refine Bel.setNew ?_ ?_ _) | (with_reducible refine Bel.trans ?_ (by assumption)) | (focus (simp; done)) | (focus (simp; omega)))) ?_
          try simp only [List.nil_append, List.cons_append, Act.put, List.setIfInBounds_toArray, List.set_cons_succ, List.set_cons_zero]
          refine st_branch [11] (by kernel_rfl) (branch_cons (by simp only [List.getElem?_toArray, List.getElem?_cons_succ, List.getElem?_cons_zero]; rfl) ?_ branch_nil)
          have hs6 := hb6.size
          simp only [World.size_drew] at hs6
          have hYY := AtF.new_at (w := w6) rfl 31 [.int .i64 0, .int .i64 0, .int .i64 0, .int .i64 0, .slice none 0 0, .slice none 0 0, .slice none 0 0, .int .i64 0]
          have hbn : Bel w6 (w6.alloc (.cells [.int .i64 0, .int .i64 0, .int .i64 0, .int .i64 0, .slice none 0 0, .slice none 0 0, .slice none 0 0, .int .i64 0].toArray 31)) := (by repeat (first | (with_reducible exact Bel.refl _) | (with_reducible assumption) | (with_reducible refine Bel.drewN ?_ _) | (with_reducible refine Bel.drew ?_) | (with_reducible refine Bel.alloc ?_ _) | (with_reducible refine Bel.setNew ?_ ?_ _) | (with_reducible refine Bel.trans ?_ (by assumption)) | (focus (simp; done)) | (focus (simp; omega))))
          have hBW : Bel W4 (w6.alloc (.cells [.int .i64 0, .int .i64 0, .int .i64 0, .int .i64 0, .slice none 0 0, .slice none 0 0, .slice none 0 0, .int .i64 0].toArray 31)) := Bel.trans (Bel.trans (Bel.drew (Bel.refl W4)) hb6) hbn
          have hYl : W4.heap.size ≤ w6.heap.size := by omega
          have hF2 := ElR.offRow (hE6.newOff (Nat.le_refl _)) [.int .i64 E.knd, .int .i64 E.rdE, .int .i64 E.wrE, .int .i64 E.vt, .slice A7 E'.fl.length c7, .slice A8 E.bk.length c8, .slice A9 L2.length c9', .int .i64 E.hd] (i := 0) (hE6.bel hbn)
          have hOX := hO6 X (by simp only [World.size_drew]; omega) HOF.out (HOM.out X (.inl rfl))
          simp only [List.toArray] at hYY hF2 hBW
          clear hbn hs6
          have one8 : ∀ u ∈ ([.int .i64 E.knd, .int .i64 E.rdE, .int .i64 E.wrE, .int .i64 E.vt, .slice A7 E'.fl.length c7, .slice A8 E.bk.length c8, .slice A9 L2.length c9', .int .i64 E.hd] : List Value), u.oneCell' = true := fun u hu => by
            simp only [List.mem_cons, List.not_mem_nil, or_false] at hu
            rcases hu with rfl | rfl | rfl | rfl | rfl | rfl | rfl | rfl <;> rfl
          have hi8 : (Try.prog.info? 31).map (·.size) = some 8 := by kernel_rfl
          have hF1 := hYY.setRow [.int .i64 E.knd, .int .i64 E.rdE, .int .i64 E.wrE, .int .i64 E.vt, .slice A7 E'.fl.length c7, .slice A8 E.bk.length c8, .slice A9 L2.length c9', .int .i64 E.hd] rfl
          have hF3 := Bel.setRow (B := w6.heap.size) (i := 0) [.int .i64 E.knd, .int .i64 E.rdE, .int .i64 E.wrE, .int .i64 E.vt, .slice A7 E'.fl.length c7, .slice A8 E.bk.length c8, .slice A9 L2.length c9', .int .i64 E.hd] hBW hYl
          have HFF := Lib.hid (And.intro hF1 (And.intro hF2 hF3))
          with_reducible refine eff_done (w' := setRow (w6.alloc (.cells #[.int .i64 0, .int .i64 0, .int .i64 0, .int .i64 0, .slice none 0 0, .slice none 0 0, .slice none 0 0, .int .i64 0] 31)) (w6.heap.size) 0 [.int .i64 E.knd, .int .i64 E.rdE, .int .i64 E.wrE, .int .i64 E.vt, .slice A7 E'.fl.length c7, .slice A8 E.bk.length c8, .slice A9 L2.length c9', .int .i64 E.hd]) ?_ ?_ ?_ ?_
          · rfl
          · exact exec_store_at (vs := [.int .i64 E.knd, .int .i64 E.rdE, .int .i64 E.wrE, .int .i64 E.vt, .slice A7 E'.fl.length c7, .slice A8 E.bk.length c8, .slice A9 L2.length c9', .int .i64 E.hd]) 31 _ _ rfl rfl rfl hYY rfl one8 hi8
          · exact hF3
          try simp only [List.nil_append, List.cons_append, Act.put, List.setIfInBounds_toArray, List.set_cons_succ, List.set_cons_zero]
          clear hF1 hF2 hF3 hYY hBW hYl one8 hi8
          generalize setRow (w6.alloc (.cells #[.int .i64 0, .int .i64 0, .int .i64 0, .int .i64 0, .slice none 0 0, .slice none 0 0, .slice none 0 0, .int .i64 0] 31)) (w6.heap.size) 0 [.int .i64 E.knd, .int .i64 E.rdE, .int .i64 E.wrE, .int .i64 E.vt, .slice A7 E'.fl.length c7, .slice A8 E.bk.length c8, .slice A9 L2.length c9', .int .i64 E.hd] = WF at HFF ⊢
          refine st_end (by kernel_rfl) ?_
          simp only [List.drop_succ_cons, List.drop_zero, List.drop_nil]
          obtain ⟨x1, x2, x3⟩ := HFF.out
          have HL6 := Lib.hid hL6
          clear hL6
          go_wp2_with fail
          go_meet
          exact ⟨_, _, _, _, L2, rfl, rfl, x1, x2, HL6.out, hOX, x3⟩
        · skip
          refine eff_made rfl (by simp [go_sem]; exact ⟨rfl, rfl⟩) (by repeat (first | (with_reducible exact Bel.refl _) | (with_reducible assumption) | (with_reducible refine Bel.drewN ?_ _) | (with_reducible refine Bel.drew ?_) | (with_reducible refine Bel.alloc ?_ _) | (with_reducible refine Bel.setNew ?_ ?_ _) | (with_reducible refine Bel.trans ?_ (by assumption)) | (focus (simp; done)) | (focus (simp; omega)))) ?_
          try simp only [List.nil_append, List.cons_append, Act.put, List.setIfInBounds_toArray, List.set_cons_succ, List.set_cons_zero]
          refine st_branch [6] (by kernel_rfl) (branch_cons (by simp only [List.getElem?_toArray, List.getElem?_cons_succ, List.getElem?_cons_zero]; rfl) ?_ branch_nil)
          refine eff_call 18 rfl (by simp [go_sem]; rfl) (by repeat (first | (with_reducible exact Bel.refl _) | (with_reducible assumption) | (with_reducible refine Bel.drewN ?_ _) | (with_reducible refine Bel.drew ?_) | (with_reducible refine Bel.alloc ?_ _) | (with_reducible refine Bel.setNew ?_ ?_ _) | (with_reducible refine Bel.trans ?_ (by assumption)) | (focus (simp; done)) | (focus (simp; omega)))) ?_
          refine (HAD.out _ (by repeat (first | (with_reducible exact Bel.refl _) | (with_reducible assumption) | (with_reducible refine Bel.drewN ?_ _) | (with_reducible refine Bel.drew ?_) | (with_reducible refine Bel.alloc ?_ _) | (with_reducible refine Bel.setNew ?_ ?_ _) | (with_reducible refine Bel.trans ?_ (by assumption)) | (focus (simp; done)) | (focus (simp; omega))))).mono ?_; rintro e w6 ⟨fl', bu', en', L2, rfl, hE6, hL6, hO6, hb6⟩
          obtain ⟨A7, c7, rfl, -, -⟩ := hE6.f.form
          obtain ⟨A8, c8, rfl, -, -⟩ := hE6.b.form
          obtain ⟨A9, c9', rfl, -, -⟩ := hE6.q.form
          refine ⟨_, rfl, hb6, ?_⟩
          try simp only [List.nil_append, List.cons_append, Act.put, List.setIfInBounds_toArray, List.set_cons_succ, List.set_cons_zero]
          with_reducible refine st_sel [7, 8, 9] (by kernel_rfl) (by kernel_rfl) ?_
          simp only [picked, List.getElem?_cons_succ, List.getElem?_cons_zero, Option.toList_some, List.nil_append, List.cons_append, List.append_nil]
          try simp only [Act.put, List.setIfInBounds_toArray, List.set_cons_succ, List.set_cons_zero]
          repeat (go_big_quiet_step (fail))
          with_reducible refine wpQuiet_nil ?_
          refine st_branch [11] (by kernel_rfl) (branch_cons (by simp only [List.getElem?_toArray, List.getElem?_cons_succ, List.getElem?_cons_zero]; rfl) ?_ branch_nil)
          have hs6 := hb6.size
          simp only [World.size_drew, World.size_alloc] at hs6
          have hYY := (AtF.new_at (w := W4.drew) (g := W4.heap.size) (by simp) 31 [.int .i64 0, .int .i64 0, .int .i64 0, .int .i64 0, .slice none 0 0, .slice none 0 0, .slice none 0 0, .int .i64 0]).bel hb6
          have hBW : Bel W4 w6 := (Bel.drew (Bel.refl W4)).trans (((Bel.refl W4.drew).alloc _).trans hb6)
          have hYl : W4.heap.size ≤ W4.heap.size := Nat.le_refl _
          have hF2 := ElR.offRow (i := 0) (hO6 W4.heap.size (by simp) (HNW.out _ (Nat.le_refl _)) (HOM.out _ (.inr (Nat.le_refl _)))) [.int .i64 E.knd, .int .i64 E.rdE, .int .i64 E.wrE, .int .i64 E.vt, .slice A7 E'.fl.length c7, .slice A8 E.bk.length c8, .slice A9 L2.length c9', .int .i64 E.hd] hE6
          have hOX := hO6 X (by simp only [World.size_drew, World.size_alloc]; omega) HOF.out (HOM.out X (.inl rfl))
          clear hs6
          have one8 : ∀ u ∈ ([.int .i64 E.knd, .int .i64 E.rdE, .int .i64 E.wrE, .int .i64 E.vt, .slice A7 E'.fl.length c7, .slice A8 E.bk.length c8, .slice A9 L2.length c9', .int .i64 E.hd] : List Value), u.oneCell' = true := fun u hu => by
            simp only [List.mem_cons, List.not_mem_nil, or_false] at hu
            rcases hu with rfl | rfl | rfl | rfl | rfl | rfl | rfl | rfl <;> rfl
          have hi8 : (Try.prog.info? 31).map (·.size) = some 8 := by kernel_rfl
          have hF1 := hYY.setRow [.int .i64 E.knd, .int .i64 E.rdE, .int .i64 E.wrE, .int .i64 E.vt, .slice A7 E'.fl.length c7, .slice A8 E.bk.length c8, .slice A9 L2.length c9', .int .i64 E.hd] rfl
          have hF3 := Bel.setRow (B := W4.heap.size) (i := 0) [.int .i64 E.knd, .int .i64 E.rdE, .int .i64 E.wrE, .int .i64 E.vt, .slice A7 E'.fl.length c7, .slice A8 E.bk.length c8, .slice A9 L2.length c9', .int .i64 E.hd] hBW hYl
          have HFF := Lib.hid (And.intro hF1 (And.intro hF2 hF3))
          with_reducible refine eff_done (w' := setRow (w6) (W4.heap.size) 0 [.int .i64 E.knd, .int .i64 E.rdE, .int .i64 E.wrE, .int .i64 E.vt, .slice A7 E'.fl.length c7, .slice A8 E.bk.length c8, .slice A9 L2.length c9', .int .i64 E.hd]) ?_ ?_ ?_ ?_
          · rfl
          · exact exec_store_at (vs := [.int .i64 E.knd, .int .i64 E.rdE, .int .i64 E.wrE, .int .i64 E.vt, .slice A7 E'.fl.length c7, .slice A8 E.bk.length c8, .slice A9 L2.length c9', .int .i64 E.hd]) 31 _ _ rfl rfl rfl hYY rfl one8 hi8
          · exact hF3
          try simp only [List.nil_append, List.cons_append, Act.put, List.setIfInBounds_toArray, List.set_cons_succ, List.set_cons_zero]
          clear hF1 hF2 hF3 hYY hBW hYl one8 hi8
          generalize setRow (w6) (W4.heap.size) 0 [.int .i64 E.knd, .int .i64 E.rdE, .int .i64 E.wrE, .int .i64 E.vt, .slice A7 E'.fl.length c7, .slice A8 E.bk.length c8, .slice A9 L2.length c9', .int .i64 E.hd] = WF at HFF ⊢
          refine st_end (by kernel_rfl) ?_
          simp only [List.drop_succ_cons, List.drop_zero, List.drop_nil]
          obtain ⟨x1, x2, x3⟩ := HFF.out
          have HL6 := Lib.hid hL6
          clear hL6
          go_wp2_with fail
          go_meet
          exact ⟨_, _, _, _, L2, rfl, rfl, x1, x2, HL6.out, hOX, x3⟩
      case rest =>
        clear HAD hrow
        obtain ⟨Y, fl', bu', en', L2, rfl, rfl, hY, hE2, hL2, hO2, hb2⟩ := hcut
        have hX2 := hX.bel hb2
        have hT2 := hT.bel hb2
        have hb02 := hbr.trans hb2
        have hBN2 := hBN.keep hb2
        have HL2 := Lib.hid hL2
        have HO2 := Lib.hid hO2
        have hs2 := hb2.size
        cases b'
        · have hEE : E' = E := HNO.out rfl
          subst hEE
          have hR2 := hR.bel hb2
          have HXX := Lib.hid (And.intro hX2 (And.intro hT2 (And.intro hR2 (And.intro hBN2 (And.intro hb02 hX2.1.1)))))
          clear hX2 hT2 hR2 hBN2 hb02 hX hT hR hBN hbr hY hE2 hb2 hL2 hO2
          go_wp2
          go_roundw
          case rel =>
            obtain ⟨x1, x2, x3, x4, x5, x6⟩ := HXX.out
            exact ⟨i + 1, E', .slice A1 E'.fl.length c1', .slice A2 E'.bk.length c2, .slice A3 L.length c3, L, by go_num, by omega, HOK2.out, x1, x2, x3, HOF, HL, x4, x5, x6⟩
          case measure => simp [intOf]; omega
        · obtain ⟨A7, c7, rfl, -, -⟩ := hE2.f.form
          obtain ⟨A8, c8, rfl, -, -⟩ := hE2.b.form
          obtain ⟨A9, c9', rfl, -, -⟩ := hE2.q.form
          have hwX : w.heap.size ≤ X := by omega
          have hX3 := hX2.setRow [.int .i64 E.knd, .int .i64 E.rdE, .int .i64 E.wrE, .int .i64 E.vt, .slice A7 E'.fl.length c7, .slice A8 E.bk.length c8, .slice A9 L2.length c9', .int .i64 E.hd] rfl
          have hT3 := hT2.setRow_other (B := X) (i := 0) [.int .i64 E.knd, .int .i64 E.rdE, .int .i64 E.wrE, .int .i64 E.vt, .slice A7 E'.fl.length c7, .slice A8 E.bk.length c8, .slice A9 L2.length c9', .int .i64 E.hd] (by omega)
          have hR3 := ElR.offRow (i := 0) hO2 [.int .i64 E.knd, .int .i64 E.rdE, .int .i64 E.wrE, .int .i64 E.vt, .slice A7 E'.fl.length c7, .slice A8 E.bk.length c8, .slice A9 L2.length c9', .int .i64 E.hd] hE2
          have hBN3 := BN.setRow (B := X) (i := 0) [.int .i64 E.knd, .int .i64 E.rdE, .int .i64 E.wrE, .int .i64 E.vt, .slice A7 E'.fl.length c7, .slice A8 E.bk.length c8, .slice A9 L2.length c9', .int .i64 E.hd] hBN2 (by omega)
          have hb3 := Bel.setRow (B := X) (i := 0) [.int .i64 E.knd, .int .i64 E.rdE, .int .i64 E.wrE, .int .i64 E.vt, .slice A7 E'.fl.length c7, .slice A8 E.bk.length c8, .slice A9 L2.length c9', .int .i64 E.hd] hb02 (by omega)
          simp only [setRow, Nat.zero_add, Nat.reduceAdd] at hX3 hT3 hR3 hBN3 hb3
          have k0 := (hX2).1.2 0 _ rfl
          have k1 := (hX2).1.2 1 _ rfl
          have k2 := (hX2).1.2 2 _ rfl
          have k3 := (hX2).1.2 3 _ rfl
          have k4 := (hX2).1.2 4 _ rfl
          have k5 := (hX2).1.2 5 _ rfl
          have k6 := (hX2).1.2 6 _ rfl
          have k7 := (hX2).1.2 7 _ rfl
          have kf := hX2.2
          have kl := hX2.1.1
          have y0 := (hY).1.2 0 _ rfl
          have y1 := (hY).1.2 1 _ rfl
          have y2 := (hY).1.2 2 _ rfl
          have y3 := (hY).1.2 3 _ rfl
          have y4 := (hY).1.2 4 _ rfl
          have y5 := (hY).1.2 5 _ rfl
          have y6 := (hY).1.2 6 _ rfl
          have y7 := (hY).1.2 7 _ rfl
          have yl := hY.1.1
          have hl3 := hX3.1.1
          have HXX := Lib.hid (And.intro hX3 (And.intro hT3 (And.intro hR3 (And.intro hBN3 (And.intro hb3 hl3)))))
          clear hX3 hT3 hR3 hBN3 hb3 hX2 hT2 hBN2 hb02 hX hT hR hBN hbr hY hE2 hb2 hL2 hO2 hl3
          go_wp2
          clear k0 k1 k2 k3 k4 k5 k6 k7 kf kl y0 y1 y2 y3 y4 y5 y6 y7 yl
          go_roundw
          case rel =>
            obtain ⟨x1, x2, x3, x4, x5, x6⟩ := HXX.out
            obtain ⟨q1, q2, q3, q4, q5, q6⟩ := HSM.out
            refine ⟨i + 1, E', .slice A7 E'.fl.length c7, .slice A8 E.bk.length c8, .slice A9 L2.length c9', L2, by go_num, by omega, HOK2.out, ?_, x2, ?_, HO2.out, HL2.out, x4, x5, x6⟩
            · rw [q1, q2, q3, q4, q6]; exact x1
            · rw [q5]; exact x3
          case measure => simp [intOf]; omega
    · obtain rfl : i = nb := by omega
      have jk : decide ((i : Int) < (i : Int)) = false := by simp
      have hOK := HOK.out.oke (by omega)
      have HA1 := Lib.hid (fun W (hb : Bel W4 W) => elAdd_R 4 0 E _ _ _ L ⟨⟨i1, t1, k1, s1, n1, d1, f1, a1, ms1.length, c1, m1⟩, ms1⟩ W (hR.bel hb) HL.out hOK (HYM.out W (hbr.trans hb)) (by show ms1.length ≤ 1000; rw [Hml.out]; omega))
      have HA2 := Lib.hid (fun W (hb : Bel W4 W) => refAdd_E 4 0 E _ _ _ L ⟨⟨i1, t1, k1, s1, n1, d1, f1, a1, ms1.length, c1, m1⟩, ms1⟩ W (hR.bel hb) HL.out hOK (HYM.out W (hbr.trans hb)))
      have HOK2 := Lib.hid (HOK.out.add 4 0 (BM.bu ⟨⟨i1, t1, k1, s1, n1, d1, f1, a1, ms1.length, c1, m1⟩, ms1⟩))
      have HNO := Lib.hid (addE_no (M := 4) (B := 0) (E := E) (b := BM.bu ⟨⟨i1, t1, k1, s1, n1, d1, f1, a1, ms1.length, c1, m1⟩, ms1⟩))
      obtain ⟨E', HE'⟩ : ∃ E', Hid (addE 4 0 E (BM.bu ⟨⟨i1, t1, k1, s1, n1, d1, f1, a1, ms1.length, c1, m1⟩, ms1⟩) = E') := ⟨_, rfl⟩
      obtain ⟨E', b'⟩ := E'
      rw [HE'.out] at HA1 HA2 HOK2 HNO
      simp only [Hml.out] at HA1 HA2 HOK2 HNO
      have HRR := Lib.hid hR
      clear hOK HE' hBN HOF hXW hR
      have kx0 := (hX).1.2 0 _ rfl
      have kx1 := (hX).1.2 1 _ rfl
      have kx2 := (hX).1.2 2 _ rfl
      have kx3 := (hX).1.2 3 _ rfl
      have kx4 := (hX).1.2 4 _ rfl
      have kx5 := (hX).1.2 5 _ rfl
      have kx6 := (hX).1.2 6 _ rfl
      have kx7 := (hX).1.2 7 _ rfl
      have kl := hX.1.1
      have tx0 := (hT).1.2 0 _ rfl
      have tx1 := (hT).1.2 1 _ rfl
      have tx2 := (hT).1.2 2 _ rfl
      have tx3 := (hT).1.2 3 _ rfl
      have tx4 := (hT).1.2 4 _ rfl
      have tx5 := (hT).1.2 5 _ rfl
      have tx6 := (hT).1.2 6 _ rfl
      have tx7 := (hT).1.2 7 _ rfl
      have tx8 := (hT).1.2 8 _ rfl
      have tl := hT.1.1
      go_wp2_with fail
      refine (HA1.out _ (Bel.refl _)).mono ?_; rintro e w5 ⟨fl5, bu5, en5, L5, rfl, hE5, hL5, hb5⟩
      clear kx0 kx1 kx2 kx3 kx4 kx5 kx6 kx7 kl tx0 tx1 tx2 tx3 tx4 tx5 tx6 tx7 tx8 tl
      obtain ⟨A7, c7, rfl⟩ := own_slice hE5.flo
      obtain ⟨A8, c8, rfl⟩ := own_slice hE5.buo
      obtain ⟨A9, c9, hv9⟩ := own_slice hE5.eno.bo.own
      subst hv9
      obtain ⟨Y1, HY1⟩ : ∃ X, Hid (w5.heap.size = X) := ⟨_, rfl⟩
      have hU := AtF.new_at (w := w5) HY1.out.symm 31 [.int .i64 E.knd, .int .i64 E.rdE, .int .i64 E.wrE, .int .i64 E.vt, .slice A7 E'.fl.length c7, .slice A8 E.bk.length c8, .slice A9 L5.length c9, .int .i64 E.hd]
      have hbn : Bel w5 (w5.alloc (.cells [.int .i64 E.knd, .int .i64 E.rdE, .int .i64 E.wrE, .int .i64 E.vt, .slice A7 E'.fl.length c7, .slice A8 E.bk.length c8, .slice A9 L5.length c9, .int .i64 E.hd].toArray 31)) := (by repeat (first | (with_reducible exact Bel.refl _) | (with_reducible assumption) | (with_reducible refine Bel.drewN ?_ _) | (with_reducible refine Bel.drew ?_) | (with_reducible refine Bel.alloc ?_ _) | (with_reducible refine Bel.setNew ?_ ?_ _) | (with_reducible refine Bel.trans ?_ (by assumption)) | (focus (simp; done)) | (focus (simp; omega))))
      have hb45 := hb5.trans hbn
      have hE6 := hE5.keep hbn
      have hX5 := hX.bel hb45
      have hT5 := hT.bel hb45
      simp only [List.toArray] at hU hb45 hE6 hX5 hT5
      go_upto_region 12 with fail
      rw [HY1.out]
      generalize hW5 : w5.alloc _ = W5 at *
      clear hW5 hbn hE5 hb5 hX hT
      have kx0 := (hX5).1.2 0 _ rfl
      have kx1 := (hX5).1.2 1 _ rfl
      have kx2 := (hX5).1.2 2 _ rfl
      have kx3 := (hX5).1.2 3 _ rfl
      have kx4 := (hX5).1.2 4 _ rfl
      have kx5 := (hX5).1.2 5 _ rfl
      have kx6 := (hX5).1.2 6 _ rfl
      have kx7 := (hX5).1.2 7 _ rfl
      have kl := hX5.1.1
      have tx0 := (hT5).1.2 0 _ rfl
      have tx1 := (hT5).1.2 1 _ rfl
      have tx2 := (hT5).1.2 2 _ rfl
      have tx3 := (hT5).1.2 3 _ rfl
      have tx4 := (hT5).1.2 4 _ rfl
      have tx5 := (hT5).1.2 5 _ rfl
      have tx6 := (hT5).1.2 6 _ rfl
      have tx7 := (hT5).1.2 7 _ rfl
      have tx8 := (hT5).1.2 8 _ rfl
      have tl := hT5.1.1
      go_wp2_with fail
      refine (HA2.out _ hb45).mono ?_; rintro e w6 ⟨fl6, bu6, en6, L6, rfl, hR6, hL6, _, hb6⟩
      clear kx0 kx1 kx2 kx3 kx4 kx5 kx6 kx7 kl tx0 tx1 tx2 tx3 tx4 tx5 tx6 tx7 tx8 tl
      obtain ⟨B7, d7, rfl, -, -⟩ := hR6.f.form
      obtain ⟨B8, d8, rfl, -, -⟩ := hR6.b.form
      obtain ⟨B9, d9, rfl, -, -⟩ := hR6.q.form
      obtain ⟨Y2, HY2⟩ : ∃ X, Hid (w6.heap.size = X) := ⟨_, rfl⟩
      have hV := AtF.new_at (w := w6) HY2.out.symm 31 [.int .i64 E.knd, .int .i64 E.rdE, .int .i64 E.wrE, .int .i64 E.vt, .slice B7 E'.fl.length d7, .slice B8 E.bk.length d8, .slice B9 L6.length d9, .int .i64 E.hd]
      have hbn : Bel w6 (w6.alloc (.cells [.int .i64 E.knd, .int .i64 E.rdE, .int .i64 E.wrE, .int .i64 E.vt, .slice B7 E'.fl.length d7, .slice B8 E.bk.length d8, .slice B9 L6.length d9, .int .i64 E.hd].toArray 31)) := (by repeat (first | (with_reducible exact Bel.refl _) | (with_reducible assumption) | (with_reducible refine Bel.drewN ?_ _) | (with_reducible refine Bel.drew ?_) | (with_reducible refine Bel.alloc ?_ _) | (with_reducible refine Bel.setNew ?_ ?_ _) | (with_reducible refine Bel.trans ?_ (by assumption)) | (focus (simp; done)) | (focus (simp; omega))))
      have hb46 := hb45.trans (hb6.trans hbn)
      have hE7 := hE6.keep (hb6.trans hbn)
      have hU6 := hU.bel (hb6.trans hbn)
      have hX6 := hX5.bel (hb6.trans hbn)
      have hR7 := hR6.bel hbn
      simp only [List.toArray] at hV hb46 hE7 hU6 hX6 hR7
      go_upto_region 13 with fail
      rw [HY2.out]
      generalize hW6 : w6.alloc _ = W6 at *
      clear hW6 hbn hE6 hb6 hb45 hX5 hT5 hU hR6
      have hl5 : L5.length ≤ 1000 := by
        have h1 : L5.length = E'.en.length := by rw [← hL5, List.length_map]
        have := HOK2.out.en
        omega
      have HSM1 := Lib.hid (fun W (h : Bel W6 W) => sameElev_any E.knd E.rdE E.wrE E.vt E.hd E'.fl E.bk L5 L6 _ _ _ _ _ _ W (Rd.own (own_keep hE7.flo h)) (hR7.f.bel h) (Rd.own (own_keep hE7.buo h)) (hR7.b.bel h) (hE7.eno.bo.ql.bel h) (hR7.q.bel h) (by rw [hL5, hL6]) (by rw [HOK2.out.fl]; omega) (by rw [HOK.out.bk]; omega) hl5)
      have HL5 := Lib.hid hL5
      have HL6 := Lib.hid hL6
      have hbw6 := hbr.trans hb46
      clear hl5 hL5 hL6
      have x0 := (hU6).1.2 0 _ rfl
      have x1 := (hU6).1.2 1 _ rfl
      have x2 := (hU6).1.2 2 _ rfl
      have x3 := (hU6).1.2 3 _ rfl
      have x4 := (hU6).1.2 4 _ rfl
      have x5 := (hU6).1.2 5 _ rfl
      have x6 := (hU6).1.2 6 _ rfl
      have x7 := (hU6).1.2 7 _ rfl
      have xl := hU6.1.1
      have v0 := (hV).1.2 0 _ rfl
      have v1 := (hV).1.2 1 _ rfl
      have v2 := (hV).1.2 2 _ rfl
      have v3 := (hV).1.2 3 _ rfl
      have v4 := (hV).1.2 4 _ rfl
      have v5 := (hV).1.2 5 _ rfl
      have v6 := (hV).1.2 6 _ rfl
      have v7 := (hV).1.2 7 _ rfl
      have vl := hV.1.1
      have bb : (b' == b') = true := by cases b' <;> rfl
      go_wp2_with fail
      refine (HSM1.out _ (Bel.refl _)).mono ?_; rintro e w7 ⟨rfl, hb7⟩
      clear x0 x1 x2 x3 x4 x5 x6 x7 xl v0 v1 v2 v3 v4 v5 v6 v7 vl
      cases b'
      · have hEE : E' = E := HNO.out rfl
        subst hEE
        have HSM2 := Lib.hid (fun W (h : Bel W6 W) => sameElev_any E'.knd E'.rdE E'.wrE E'.vt E'.hd E'.fl E'.bk L5 L _ _ _ _ _ _ W (Rd.own (own_keep hE7.flo h)) (HRR.out.f.bel (hb46.trans h)) (Rd.own (own_keep hE7.buo h)) (HRR.out.b.bel (hb46.trans h)) (hE7.eno.bo.ql.bel h) (HRR.out.q.bel (hb46.trans h)) (by rw [HL5.out, HL.out]) (by rw [HOK2.out.fl]; omega) (by rw [HOK.out.bk]; omega) (by
          have h1 : L5.length = E'.en.length := by rw [← HL5.out, List.length_map]
          have := HOK2.out.en
          omega))
        have hU7 := hU6.bel hb7
        have hX7 := hX6.bel hb7
        have x0 := (hU7).1.2 0 _ rfl
        have x1 := (hU7).1.2 1 _ rfl
        have x2 := (hU7).1.2 2 _ rfl
        have x3 := (hU7).1.2 3 _ rfl
        have x4 := (hU7).1.2 4 _ rfl
        have x5 := (hU7).1.2 5 _ rfl
        have x6 := (hU7).1.2 6 _ rfl
        have x7 := (hU7).1.2 7 _ rfl
        have xl := hU7.1.1
        have v0 := (hX7).1.2 0 _ rfl
        have v1 := (hX7).1.2 1 _ rfl
        have v2 := (hX7).1.2 2 _ rfl
        have v3 := (hX7).1.2 3 _ rfl
        have v4 := (hX7).1.2 4 _ rfl
        have v5 := (hX7).1.2 5 _ rfl
        have v6 := (hX7).1.2 6 _ rfl
        have v7 := (hX7).1.2 7 _ rfl
        have vl := hX7.1.1
        clear hE7 hR7 hU6 hX6 hV
        go_wp2_with fail
        refine (HSM2.out _ hb7).mono ?_; rintro e w8 ⟨rfl, hb8⟩
        clear x0 x1 x2 x3 x4 x5 x6 x7 xl v0 v1 v2 v3 v4 v5 v6 v7 vl hU7 hX7
        go_wp2_with fail
        refine (awake33_any _).mono ?_; rintro e w9 ⟨rfl, hb9⟩
        go_wp2
        go_ret
        exact ⟨rfl, hbw6.trans (hb7.trans (hb8.trans hb9))⟩
      · clear hE7 hR7 hU6 hX6 hV
        go_wp2_with fail
        refine (awake33_any _).mono ?_; rintro e w9 ⟨rfl, hb9⟩
        go_wp2
        go_ret
        exact ⟨rfl, hbw6.trans (hb7.trans hb9)⟩
end Go.Proofs.Ytpgjbocjhconoaa
