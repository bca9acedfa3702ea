/- The walk of ElevatorShares. -/
import Derived.Test.YtpgjbocjhconoaaShA
import Derived.Deep.DeepCutAuto
namespace Go.Proofs.Ytpgjbocjhconoaa
open Go.RowKit Go.Maps
set_option linter.unusedSimpArgs false

theorem shr_new (n : Int) : newOk 3 0 0 (shrW n) shrK = true := by
  have h := (shr_f4 n).fair (by omega)
  unfold newOk
  rw [h]
  rfl

theorem intC_at {a : List Int} {k : Nat} {v : Int} (h : a[k]? = some v) : (intC a)[k]? = some (.int .i64 v) := by simp [intC, h]
theorem intC_set (a : List Int) (k : Nat) (v : Int) : (intC a).set k (.int .i64 v) = intC (a.set k v) := by simp [intC, List.map_set]
theorem rnd_id3 {n m : Int} (h0 : 0 ≤ n) (h1 : n < m) (h2 : m ≤ 9223372036854775807) : rnd n m = n := by
  unfold rnd
  rw [if_neg (by omega), Int.emod_eq_of_lt h0 (by omega), Int.emod_eq_of_lt h0 h1]

set_option maxRecDepth 100000 in
set_option maxHeartbeats 16000000 in
theorem elevatorShares_walk (n : Int) (v : Value) (zs : List Int) (xa xb : Int) (w : World) (hn : IsInt n) (hz : Ints w v zs) (_ : IsInt xa) (_ : IsInt xb) :
    Calls Try.prog 6 #[.int .i64 n, v, .int .i64 xa, .int .i64 xb] w fun e w' => e = .returned (.bool true) ∧ Bel w w' := by
  have HPL := Lib.hid (fun w' (h : Bel w w') => plainN_any v zs 3 w' (hz.bel h) (by omega) (by omega))
  have hW8 := fun (k : Nat) (x : Int) (h : (shrW n)[k]? = some x) => shrW_in h
  have HST0 := Lib.hid (ShA.start n)
  have hnw := shr_new n
  obtain ⟨x0, Hx0⟩ : ∃ x, Hid (rnd n 8 = x) := ⟨_, rfl⟩
  obtain ⟨x1, Hx1⟩ : ∃ x, Hid (rnd (n / 8) 8 = x) := ⟨_, rfl⟩
  obtain ⟨x2, Hx2⟩ : ∃ x, Hid (rnd (n / 64) 8 = x) := ⟨_, rfl⟩
  have hx0 : 0 ≤ x0 ∧ x0 < 8 := by rw [← Hx0.out]; exact ⟨rnd_lo _ _, rnd_hi _ _ (by omega)⟩
  have hx1 : 0 ≤ x1 ∧ x1 < 8 := by rw [← Hx1.out]; exact ⟨rnd_lo _ _, rnd_hi _ _ (by omega)⟩
  have hx2 : 0 ≤ x2 ∧ x2 < 8 := by rw [← Hx2.out]; exact ⟨rnd_lo _ _, rnd_hi _ _ (by omega)⟩
  have e0 : IntKind.i64.wrap (1 + x0) = 1 + x0 := IntWalk.i64_in _ (by omega)
  have e1 : IntKind.i64.wrap (1 + x1) = 1 + x1 := IntWalk.i64_in _ (by omega)
  have e2 : IntKind.i64.wrap (1 + x2) = 1 + x2 := IntWalk.i64_in _ (by omega)
  obtain ⟨W, HW⟩ : ∃ W, Hid (W = shrW n) := ⟨_, rfl⟩
  have HWE : Hid (W = [1 + x0, 1 + x1, 1 + x2, 1]) := by show _ = _; rw [HW.out]; unfold shrW; rw [Hx0.out, Hx1.out, Hx2.out]
  rw [← HW.out] at hnw hW8
  have HW8 := Lib.hid hW8
  obtain ⟨E0, HE0⟩ : ∃ E, Hid (shrE n = E) := ⟨_, rfl⟩
  have HST : Hid (∀ Q, ShA W Q 0 E0) := fun Q => by rw [← HE0.out, HW.out]; exact HST0.out Q
  have HEN0 : Hid (E0.en = []) := by show _ = _; rw [← HE0.out]; rfl
  have HNW := Lib.hid (fun (wv bv : Value) (w' : World) (hw : Ints w' wv W) (hb : Rd w' bv 4 4 (bkc shrK)) => elNew_any 3 0 0 W shrK wv bv w' hw hb (by rw [HWE.out]; simp) (by decide))
  rw [hnw] at HNW
  have HFL : Hid (newF W = E0.fl ∧ shrK = E0.bk ∧ (3 : Int) = E0.knd ∧ (0 : Int) = E0.rdE ∧ (0 : Int) = E0.wrE ∧ (0 : Int) = E0.vt ∧ (0 : Int) = E0.hd) := by
    show _ ∧ _
    rw [← HE0.out, HW.out]
    exact ⟨rfl, rfl, rfl, rfl, rfl, rfl, rfl⟩
  have t1 := rnd_lo xa 3
  have t2 := rnd_hi xa 3 (by omega)
  have t3 := rnd_lo xb 3
  have t4 := rnd_hi xb 3 (by omega)
  obtain ⟨ta, hta⟩ : ∃ k : Nat, (k : Int) = rnd xa 3 := ⟨(rnd xa 3).toNat, by omega⟩
  obtain ⟨tb, htb⟩ : ∃ k : Nat, (k : Int) = rnd xb 3 := ⟨(rnd xb 3).toNat, by omega⟩
  rw [← hta] at t1 t2
  rw [← htb] at t3 t4
  have Hta := Lib.hid hta
  have Htb := Lib.hid htb
  clear hz hta htb hnw HST0 hW8
  go_enter Try.func6, Try.ntmps6
  go_wp2_with fail
  refine (round_any n 8 _ (by omega)).mono ?_; rw [Hx0.out]; rintro e w1 ⟨rfl, rfl⟩
  go_wp2_with fail
  refine (round_any (n / 8) 8 _ (by omega)).mono ?_; rw [Hx1.out]; rintro e w1 ⟨rfl, rfl⟩
  go_wp2_with fail
  refine (round_any (n / 64) 8 _ (by omega)).mono ?_; rw [Hx2.out]; rintro e w1 ⟨rfl, rfl⟩
  have hR1 := AtF.new_at (w := w) rfl 3 [.int .i64 (1 + x0), .int .i64 (1 + x1), .int .i64 (1 + x2), .int .i64 1]
  have hb1 : Bel w (w.alloc (.cells [.int .i64 (1 + x0), .int .i64 (1 + x1), .int .i64 (1 + x2), .int .i64 1].toArray 3)) := (Bel.refl w).alloc _
  have hRs := hR1.1.1
  simp only [List.toArray] at hR1 hb1 hRs
  go_upto_region 2 with fail
  generalize hW1 : w.alloc _ = W1 at *
  clear hW1
  obtain ⟨R, HR⟩ : ∃ R, Hid (w.heap.size = R) := ⟨_, rfl⟩
  have hRw : w.heap.size ≤ R := Nat.le_of_eq HR.out
  rw [HR.out] at hR1 hRs ⊢
  have hR2 := hR1.alloc (.cells [.int .i64 0, .int .i64 1, .int .i64 0, .int .i64 0, .int .i64 0, .int .i64 1, .int .i64 0, .int .i64 0, .int .i64 0, .int .i64 1, .int .i64 0, .int .i64 0, .int .i64 0, .int .i64 1, .int .i64 0, .int .i64 0].toArray 60)
  have hB2 := AtF.new_at (w := W1) rfl 60 [.int .i64 0, .int .i64 1, .int .i64 0, .int .i64 0, .int .i64 0, .int .i64 1, .int .i64 0, .int .i64 0, .int .i64 0, .int .i64 1, .int .i64 0, .int .i64 0, .int .i64 0, .int .i64 1, .int .i64 0, .int .i64 0]
  have hb2 : Bel w (W1.alloc (.cells [.int .i64 0, .int .i64 1, .int .i64 0, .int .i64 0, .int .i64 0, .int .i64 1, .int .i64 0, .int .i64 0, .int .i64 0, .int .i64 1, .int .i64 0, .int .i64 0, .int .i64 0, .int .i64 1, .int .i64 0, .int .i64 0].toArray 60)) := hb1.alloc _
  have hWI : Ints (W1.alloc (.cells [.int .i64 0, .int .i64 1, .int .i64 0, .int .i64 0, .int .i64 0, .int .i64 1, .int .i64 0, .int .i64 0, .int .i64 0, .int .i64 1, .int .i64 0, .int .i64 0, .int .i64 0, .int .i64 1, .int .i64 0, .int .i64 0].toArray 60)) (.slice (some ⟨R, 0, none⟩) 4 4) W := by
    rw [HWE.out]
    refine ⟨by simp [IsInt]; omega, _, 4, rfl, Nat.le_refl _, by unfold maxLen; omega, fun _ => ⟨_, 0, rfl, hR2.1.1, fun j hj => ?_⟩⟩
    rw [Nat.zero_add]
    match j, hj with
    | 0, _ => exact hR2.1.2 0 _ rfl
    | 1, _ => exact hR2.1.2 1 _ rfl
    | 2, _ => exact hR2.1.2 2 _ rfl
    | 3, _ => exact hR2.1.2 3 _ rfl
  have hBR : Rd (W1.alloc (.cells [.int .i64 0, .int .i64 1, .int .i64 0, .int .i64 0, .int .i64 0, .int .i64 1, .int .i64 0, .int .i64 0, .int .i64 0, .int .i64 1, .int .i64 0, .int .i64 0, .int .i64 0, .int .i64 1, .int .i64 0, .int .i64 0].toArray 60)) (.slice (some ⟨W1.heap.size, 0, none⟩) 4 4) 4 4 (bkc shrK) :=
    ⟨rfl, _, 4, rfl, Nat.le_refl _, by unfold maxLen; omega, fun _ => ⟨_, 0, rfl, hB2.1.1, fun j u hu => by rw [Nat.zero_add]; exact hB2.1.2 j u hu⟩⟩
  have HNW2 := Lib.hid (HNW.out _ _ _ hWI hBR)
  clear HNW hWI hBR hB2
  simp only [if_true] at HNW2
  obtain ⟨f1, f2, f3, f4, f5, f6, f7⟩ := HFL.out
  rw [f1, f2] at HNW2
  simp only [List.toArray] at HNW2 hR2 hb2
  clear f1 f2 f3 f4 f5 f6 f7
  go_wp2_with fail
  refine HNW2.out.mono ?_; rintro e w2 ⟨fl1, bu1, en1, rfl, hEN, hbn2⟩
  obtain ⟨A4, c4, rfl⟩ := own_slice hEN.flo
  obtain ⟨A5, c5, rfl⟩ := own_slice hEN.buo
  obtain ⟨A6, c6, hv6⟩ := own_slice hEN.eno.bo.own
  subst hv6
  have hR3 := hR2.bel hbn2
  have hb3 := hb2.trans hbn2
  have hEN := hEN.mono (base' := w.heap.size) (by simp; have := hb1.size; omega)
  have hRX := hR3.1.1
  clear hR2 hR1 hb2 hbn2 hb1 HNW2
  obtain ⟨X, HX0⟩ : ∃ X, Hid (w2.heap.size = X) := ⟨_, rfl⟩
  have hwX : w.heap.size ≤ X := by rw [← HX0.out]; exact hb3.size
  have hX := AtF.new_at (w := w2) HX0.out.symm 31 [.int .i64 3, .int .i64 0, .int .i64 0, .int .i64 0, .slice A4 E0.fl.length c4, .slice A5 E0.bk.length c5, .slice A6 0 c6, .int .i64 0]
  have hbn : Bel w2 (w2.alloc (.cells [.int .i64 3, .int .i64 0, .int .i64 0, .int .i64 0, .slice A4 E0.fl.length c4, .slice A5 E0.bk.length c5, .slice A6 0 c6, .int .i64 0].toArray 31)) := (by repeat (first | (with_reducible exact Bel.refl _) | (with_reducible assumption) | (with_reducible refine Bel.drewN ?_ _) | (with_reducible refine Bel.drew ?_) | (with_reducible refine Bel.alloc ?_ _) | (with_reducible refine Bel.setNew ?_ ?_ _) | (with_reducible refine Bel.trans ?_ (by assumption)) | (focus (simp; done)) | (focus (simp; omega))))
  have hEN2 := hEN.keep hbn
  have HOF : Hid (Off X (.slice A4 E0.fl.length c4) (.slice A5 E0.bk.length c5) (.slice A6 0 c6) []) := hEN.newOff (by rw [HX0.out]; exact Nat.le_refl _)
  have hR4 := hR3.bel hbn
  have hb4 := hb3.trans hbn
  simp only [List.toArray] at hX hEN2 hb4 hR4
  go_upto_region 3 with fail
  rw [HX0.out]
  rw [HX0.out] at hRX
  generalize hW2 : w2.alloc _ = W2 at *
  clear hW2 hbn hEN hb3 hR3
  have hX2 : AtF W2 X [.int .i64 E0.knd, .int .i64 E0.rdE, .int .i64 E0.wrE, .int .i64 E0.vt, .slice A4 E0.fl.length c4, .slice A5 E0.bk.length c5, .slice A6 0 c6, .int .i64 E0.hd] := by
    obtain ⟨_, _, f3, f4, f5, f6, f7⟩ := HFL.out
    rw [← f3, ← f4, ← f5, ← f6, ← f7]; exact hX
  clear hX
  go_wp2_with fail
  refine (HPL.out _ hb4).mono ?_; rintro e w3 ⟨U, LB, rfl, hLB, hBN, hb5⟩
  have hXl := hX2.1.1
  have hX3 := hX2.bel hb5
  have hEN3 := hEN2.keep hb5
  have hR3 := hR4.bel hb5
  have hBN3 := hBN.mono (base' := X + 1) (by omega)
  have hb34 := hb4.trans hb5
  clear hX2 hEN2 hBN hb4 hb5 hXl hR4
  obtain ⟨Q, HQ⟩ : ∃ Q, Hid (LB.map BM.bu = Q) := ⟨_, rfl⟩
  have HPQ : Hid (PlnR Q) := by show PlnR Q; rw [← HQ.out]; exact plain_r hLB (by omega)
  obtain ⟨Au, cu, huv⟩ := own_slice hBN3.bo.own
  subst huv
  obtain ⟨nb, Hnb⟩ : ∃ k, Hid (LB.length = k) := ⟨_, rfl⟩
  have hn8 : nb ≤ 24 := by rw [← Hnb.out, hLB.1]; omega
  have HQL : Hid (Q.length = nb) := by show _ = _; rw [← HQ.out, List.length_map]; exact Hnb.out
  rw [Hnb.out] at hBN3 ⊢
  clear hLB
  go_wp2_with fail
  have HS0 := Lib.hid (And.intro hX3 (And.intro hEN3 (And.intro hBN3 (And.intro hR3 hb34))))
  go_loopw [11, 13] (fun okv iv wr => ∃ (i : Nat) (E : El) (fl bu en : Value) (L : List QM), okv = .bool true ∧ iv = .int .i64 i ∧ i ≤ nb ∧ Hid (ShA W Q i E) ∧ AtF wr X [.int .i64 E.knd, .int .i64 E.rdE, .int .i64 E.wrE, .int .i64 E.vt, fl, bu, en, .int .i64 E.hd] ∧ ElN wr w.heap.size fl bu en E.fl E.bk L ∧ Hid (Off X fl bu en L) ∧ Hid (L.map QM.qu = E.en) ∧ BN wr (X + 1) (.slice Au nb cu) LB ∧ AtF wr R [.int .i64 (1 + x0), .int .i64 (1 + x1), .int .i64 (1 + x2), .int .i64 1] ∧ Bel w wr ∧ X < wr.heap.size) (fun _ iv _ => nb - (intOf iv).toNat)
  case atStart => exact ⟨0, E0, .slice A4 E0.fl.length c4, .slice A5 E0.bk.length c5, .slice A6 0 c6, [], rfl, rfl, by omega, HST.out Q, hX3, hEN3, HOF, HEN0.out.symm, hBN3, hR3, hb34, hX3.1.1⟩
  case round =>
    clear hX3 hEN3 hBN3 hR3 hb34 HS0 HOF
    obtain ⟨i, E, fl, bu, en, L, rfl, rfl, p1, HF, hX, hEN, HOF, HL, hBN, hRr, hbr, hXW⟩ := hrel
    obtain ⟨W4, rfl⟩ : ∃ X, X = wr := ⟨_, rfl⟩
    obtain ⟨A1, c1, rfl⟩ := own_slice hEN.flo
    obtain ⟨A2, c2, rfl⟩ := own_slice hEN.buo
    obtain ⟨A3, c3, hv3⟩ := own_slice hEN.eno.bo.own
    subst hv3
    by_cases hlt : i < nb
    · have hin : (i : Int) < (nb : Int) := by omega
      obtain ⟨x, hx⟩ : ∃ x, LB[i]? = some x := ⟨LB[i]'(by have := Hnb.out; omega), List.getElem?_eq_getElem _⟩
      obtain ⟨g, o, c9, hat⟩ := hBN.bo.bl.at hx
      have hQx : Q[i]? = some x.bu := by rw [← HQ.out, List.getElem?_map, hx]; rfl
      obtain ⟨hs1, hs2⟩ := HF.out.step HPQ.out hQx
      have HF2 := Lib.hid hs2
      have HOK := Lib.hid (HF.out.ok HPQ.out)
      have hml : x.ms.length ≤ 1000 := by have := (HPQ.out.1.2 i _ hQx).2.2.2.2.2; have e : x.bu.ms = x.ms := rfl; rw [e] at this; omega
      have hfo := hat.form
      injection hfo with h1 h2 h3
      subst h1
      have hrow := hat.row
      have hmx := hat.mem
      have gl : g < W4.heap.size := hat.lt
      have gX : X < g := (hBN.bo.own.lt g rfl).1
      have HAD : Hid (∀ W, Bel W4 W → _) := fun W hb => elAdd_E 1 0 E _ _ _ L x W _ (hEN.keep hb) HL.out HOK.out (hmx.bel hb) hml
      rw [hs1] at HAD
      have HSM := Lib.hid (addE_same 1 0 E x.bu)
      obtain ⟨E', HE'⟩ : ∃ E', Hid (addE 1 0 E x.bu = E') := ⟨_, rfl⟩
      obtain ⟨E', b'⟩ := E'
      rw [HE'.out] at HAD HSM HF2
      simp only at HAD HSM HF2
      have HXI := Lib.hid hx
      clear hs1 hs2 hx hQx h2 h3 hat HE'
      obtain ⟨⟨i1, t1, kd1, s1, n1, d1, f1, a1, l1, c3', m3⟩, ms1⟩ := x
      simp only at hrow HAD
      let FIS : World → Prop := fun W' => InRow W' g (o + i * 9) [.int .i64 i1, .int .i64 t1, .int .i64 kd1, .int .i64 s1, .int .i64 n1, .string d1, .bool f1, .slice a1 l1 c3', .int .i64 m3]
      have hr0 : FIS W4 := hrow
      haveI nnS : Nonempty (InS FIS) := ⟨⟨W4, hr0⟩⟩
      have s0 := fun (p : InS FIS) => InRow.cell p.h 0 rfl
      have s1' := fun (p : InS FIS) => InRow.cell p.h 1 rfl
      have s2 := fun (p : InS FIS) => InRow.cell p.h 2 rfl
      have s3 := fun (p : InS FIS) => InRow.cell p.h 3 rfl
      have s4 := fun (p : InS FIS) => InRow.cell p.h 4 rfl
      have s5 := fun (p : InS FIS) => InRow.cell p.h 5 rfl
      have s6 := fun (p : InS FIS) => InRow.cell p.h 6 rfl
      have s7 := fun (p : InS FIS) => InRow.cell p.h 7 rfl
      have s8 := fun (p : InS FIS) => InRow.cell p.h 8 rfl
      simp only [Nat.add_zero] at s0
      go_upto_region 7 with fail
      refine wp_region_sts FIS [1, 6, 10] 11 (by kernel_rfl) (by kernel_rfl) ?hS0 ?_
      case hS0 => exact hrow.bel (Bel.drew (Bel.refl W4)) gl
      with_reducible refine st_sel [0, 2, 3, 4, 5] (by kernel_rfl) (by kernel_rfl) ?_
      simp only [picked, List.getElem?_cons_succ, List.getElem?_cons_zero, Option.toList_some, List.nil_append, List.cons_append, List.append_nil]
      try simp only [Act.put, List.setIfInBounds_toArray, List.set_cons_succ, List.set_cons_zero]
      repeat (go_big_quiet_step (fail))
      with_reducible refine wpQuiet_nil ?_
      refine st_branch [1] (by kernel_rfl) (branch_cons (by simp only [List.getElem?_toArray, List.getElem?_cons_succ, List.getElem?_cons_zero]; rfl) ?_ branch_nil)
      refine eff_made_s rfl (exec_load_off (W := W4.drew) 31 _ rfl rfl (fun j v h => by rw [Nat.zero_add]; exact hX.drew.1.2 j v h) _ Try.underlying31 rfl (by kernel_rfl)) ?_ ?_
      · exact hrow.bel (Bel.drew (Bel.refl W4)) gl
      try simp only [List.nil_append, List.cons_append, Act.put, List.setIfInBounds_toArray, List.set_cons_succ, List.set_cons_zero]
      refine st_branch [6] (by kernel_rfl) (branch_cons (by simp only [List.getElem?_toArray, List.getElem?_cons_succ, List.getElem?_cons_zero]; rfl) ?_ branch_nil)
      refine eff_call_s 19 rfl (by simp [go_sem]; rfl) (hrow.bel (Bel.drew (Bel.refl W4)) gl) ?_
      refine (HAD.out _ (by repeat (first | (with_reducible exact Bel.refl _) | (with_reducible assumption) | (with_reducible refine Bel.drewN ?_ _) | (with_reducible refine Bel.drew ?_) | (with_reducible refine Bel.alloc ?_ _) | (with_reducible refine Bel.setNew ?_ ?_ _) | (with_reducible refine Bel.trans ?_ (by assumption)) | (focus (simp; done)) | (focus (simp; omega))))).mono ?_; rintro e w6 ⟨fl', bu', en', L2, rfl, hE6, hL6, hb6⟩
      obtain ⟨A7, c7, rfl⟩ := own_slice hE6.flo
      obtain ⟨A8, c8, rfl⟩ := own_slice hE6.buo
      obtain ⟨A9, c9', hv9⟩ := own_slice hE6.eno.bo.own
      subst hv9
      have hb46 : Bel W4 w6 := (Bel.drew (Bel.refl W4)).trans hb6
      have hr6 : FIS w6 := hrow.bel hb46 gl
      refine ⟨_, rfl, hr6, ?_⟩
      try simp only [List.nil_append, List.cons_append, Act.put, List.setIfInBounds_toArray, List.set_cons_succ, List.set_cons_zero]
      with_reducible refine st_sel [7, 8, 9] (by kernel_rfl) (by kernel_rfl) ?_
      simp only [picked, List.getElem?_cons_succ, List.getElem?_cons_zero, Option.toList_some, List.nil_append, List.cons_append, List.append_nil]
      try simp only [Act.put, List.setIfInBounds_toArray, List.set_cons_succ, List.set_cons_zero]
      repeat (go_big_quiet_step (fail))
      with_reducible refine wpQuiet_nil ?_
      refine st_branch [10] (by kernel_rfl) (branch_cons (by simp only [List.getElem?_toArray, List.getElem?_cons_succ, List.getElem?_cons_zero]; rfl) ?_ branch_nil)
      have one8 : ∀ u ∈ ([.int .i64 E.knd, .int .i64 E.rdE, .int .i64 E.wrE, .int .i64 E.vt, .slice A7 E'.fl.length c7, .slice A8 E.bk.length c8, .slice A9 L2.length c9', .int .i64 E.hd] : List Value), u.oneCell' = true := fun u hu => by
        simp only [List.mem_cons, List.not_mem_nil, or_false] at hu
        rcases hu with rfl | rfl | rfl | rfl | rfl | rfl | rfl | rfl <;> rfl
      have hX6 := hX.bel hb46
      have hs6 := hb46.size
      have hs46 := hb6.size
      simp only [World.size_drew] at hs46
      have hX9 := hX6.setRow [.int .i64 E.knd, .int .i64 E.rdE, .int .i64 E.wrE, .int .i64 E.vt, .slice A7 E'.fl.length c7, .slice A8 E.bk.length c8, .slice A9 L2.length c9', .int .i64 E.hd] rfl
      have hE9 := (ElN.setRow (B := X) (i := 0) [.int .i64 E.knd, .int .i64 E.rdE, .int .i64 E.wrE, .int .i64 E.vt, .slice A7 E'.fl.length c7, .slice A8 E.bk.length c8, .slice A9 L2.length c9', .int .i64 E.hd] hE6 (by simp; omega))
      have hBN9 := BN.setRow (B := X) (i := 0) [.int .i64 E.knd, .int .i64 E.rdE, .int .i64 E.wrE, .int .i64 E.vt, .slice A7 E'.fl.length c7, .slice A8 E.bk.length c8, .slice A9 L2.length c9', .int .i64 E.hd] (hBN.keep hb46) (by omega)
      have hb9 := Bel.setRow (B := X) (i := 0) [.int .i64 E.knd, .int .i64 E.rdE, .int .i64 E.wrE, .int .i64 E.vt, .slice A7 E'.fl.length c7, .slice A8 E.bk.length c8, .slice A9 L2.length c9', .int .i64 E.hd] (hbr.trans hb46) (by omega)
      have hr9 : FIS (setRow w6 X 0 [.int .i64 E.knd, .int .i64 E.rdE, .int .i64 E.wrE, .int .i64 E.vt, .slice A7 E'.fl.length c7, .slice A8 E.bk.length c8, .slice A9 L2.length c9', .int .i64 E.hd]) := InRow.setRow_other _ hr6 (by omega)
      with_reducible refine eff_done_s (w' := setRow w6 X 0 [.int .i64 E.knd, .int .i64 E.rdE, .int .i64 E.wrE, .int .i64 E.vt, .slice A7 E'.fl.length c7, .slice A8 E.bk.length c8, .slice A9 L2.length c9', .int .i64 E.hd]) ?_ ?_ ?_ ?_
      · rfl
      · exact exec_store_at (vs := [.int .i64 E.knd, .int .i64 E.rdE, .int .i64 E.wrE, .int .i64 E.vt, .slice A7 E'.fl.length c7, .slice A8 E.bk.length c8, .slice A9 L2.length c9', .int .i64 E.hd]) 31 _ _ rfl rfl rfl hX6 rfl one8 (by kernel_rfl)
      · exact hr9
      try simp only [List.nil_append, List.cons_append, Act.put, List.setIfInBounds_toArray, List.set_cons_succ, List.set_cons_zero]
      refine st_end (by kernel_rfl) ?_
      simp only [List.drop_succ_cons, List.drop_zero, List.drop_nil]
      have HL6 := Lib.hid hL6
      have hR9 := (hRr.bel hb46).setRow_other (B := X) (i := 0) [.int .i64 E.knd, .int .i64 E.rdE, .int .i64 E.wrE, .int .i64 E.vt, .slice A7 E'.fl.length c7, .slice A8 E.bk.length c8, .slice A9 L2.length c9', .int .i64 E.hd] (by omega)
      have hE9l := hE9.offLow (N := X) (by simp; omega)
      have hE9m := hE9.mono (base' := w.heap.size) (by simp; omega)
      have hX9l := hX9.1.1
      clear hX hEN hBN hRr hbr hrow hr0 hr6 hr9 hX6 hE6 hL6 hb6 hE9 one8 s0 s1' s2 s3 s4 s5 s6 s7 s8 nnS hmx hb46 HAD
      generalize setRow w6 X 0 [.int .i64 E.knd, .int .i64 E.rdE, .int .i64 E.wrE, .int .i64 E.vt, .slice A7 E'.fl.length c7, .slice A8 E.bk.length c8, .slice A9 L2.length c9', .int .i64 E.hd] = W9 at *
      have HXX := Lib.hid (And.intro hX9 (And.intro hE9l (And.intro hE9m (And.intro hBN9 (And.intro hR9 (And.intro hb9 hX9l))))))
      clear hX9 hE9l hE9m hBN9 hR9 hb9 hX9l
      go_wp2
      obtain ⟨x1, x2, x3, x4, x7, x5, x6⟩ := HXX.out
      go_roundw
      case rel =>
        obtain ⟨q1, q2, q3, q4, q5, q6⟩ := HSM.out
        refine ⟨i + 1, E', .slice A7 E'.fl.length c7, .slice A8 E.bk.length c8, .slice A9 L2.length c9', L2, rfl, by go_num, by omega, HF2.out, ?_, ?_, x2, HL6.out, x4, x7, x5, x6⟩
        · rw [q1, q2, q3, q4, q6]; exact x1
        · rw [q5]; exact x3
      case measure => simp [intOf]; omega
    · obtain rfl : i = nb := by omega
      have jk : decide ((i : Int) < (i : Int)) = false := by simp
      have HB0 := Lib.hid (HF.out.toB HW8.out HPQ.out)
      clear HF hBN jk
      go_wp2_with fail
      refine (round_any xa 3 _ (by omega)).mono ?_; rw [← Hta.out]; rintro e w9 ⟨rfl, rfl⟩
      go_wp2_with fail
      refine (round_any xb 3 _ (by omega)).mono ?_; rw [← Htb.out]; rintro e w9 ⟨rfl, rfl⟩
      obtain ⟨S, HS⟩ : ∃ S, Hid (W4.heap.size = S) := ⟨_, rfl⟩
      have hS5 := AtF.new_at (w := W4) HS.out.symm 62 [.int .i64 0, .int .i64 0, .int .i64 0]
      have hba : Bel W4 (W4.alloc (.cells [.int .i64 0, .int .i64 0, .int .i64 0].toArray 62)) := (Bel.refl W4).alloc _
      have hX5 := hX.bel hba
      have hEN5 := hEN.keep hba
      have hR5 : AtF (W4.alloc (.cells [.int .i64 0, .int .i64 0, .int .i64 0].toArray 62)) R (intC W) := by rw [HWE.out]; exact hRr.bel hba
      have hb5 := hbr.trans hba
      have HOS : Hid (Off S (.slice A1 E.fl.length c1) (.slice A2 E.bk.length c2) (.slice A3 L.length c3) L) := hEN.newOff (by rw [HS.out]; exact Nat.le_refl _)
      have hXS : X < S := by rw [← HS.out]; exact hX.1.1
      have hRS : R < X := hRX
      simp only [List.toArray] at hS5 hX5 hEN5 hb5 hR5
      go_upto_region 12 with fail
      rw [HS.out]
      generalize hW5 : W4.alloc _ = W5 at *
      clear hW5 hba hX hEN hRr hbr
      have hS5' : AtF W5 S (intC [0, 0, 0]) := hS5
      have hR5' : AtF W5 R (intC W) := hR5
      clear hS5 hR5
      have HSS := Lib.hid (And.intro hX5 (And.intro hEN5 (And.intro hS5' (And.intro hR5' hb5))))
      go_wp2
      go_loopw [17] (fun rv wr => ∃ (r : Nat) (E : El) (fl bu en : Value) (L : List QM) (s : List Int) (P : Int → Int), rv = .int .i64 r ∧ r ≤ 30 ∧ Hid (ShB W P E) ∧ AtF wr X [.int .i64 E.knd, .int .i64 E.rdE, .int .i64 E.wrE, .int .i64 E.vt, fl, bu, en, .int .i64 E.hd] ∧ ElN wr w.heap.size fl bu en E.fl E.bk L ∧ Hid (Off X fl bu en L) ∧ Hid (Off S fl bu en L) ∧ Hid (L.map QM.qu = E.en) ∧ AtF wr S (intC s) ∧ s.length = 3 ∧ Hid (∀ (t : Nat) x, s[t]? = some x → P t = kW W t * x) ∧ Hid (∀ (t : Nat) x, s[t]? = some x → 0 ≤ x ∧ x ≤ r) ∧ AtF wr R (intC W) ∧ Bel w wr) (fun rv _ => 30 - (intOf rv).toNat)
      case atStart =>
        refine ⟨0, E, .slice A1 E.fl.length c1, .slice A2 E.bk.length c2, .slice A3 L.length c3, L, [0, 0, 0], fun _ => 0, rfl, by omega, HB0, hX5, hEN5, HOF, HOS, HL, hS5', rfl, Lib.hid ?_, Lib.hid ?_, hR5', hb5⟩
        · intro t x hx
          have : x = 0 := by simpa using List.mem_of_getElem? hx
          subst this; simp
        · intro t x hx
          have : x = 0 := by simpa using List.mem_of_getElem? hx
          subst this; omega
      case round =>
        clear hX5 hEN5 hS5' hR5' hb5 HSS HOF HOS HL HB0
        obtain ⟨r, E, fl, bu, en, L, s, P, rfl, hr30, HB, hX, hEN, HOX, HOS, HL, hS, hs3, HPS, HSB, hR, hbr⟩ := hrel
        obtain ⟨W6, rfl⟩ : ∃ X, X = wr := ⟨_, rfl⟩
        obtain ⟨A1, c1, rfl⟩ := own_slice hEN.flo
        obtain ⟨A2, c2, rfl⟩ := own_slice hEN.buo
        obtain ⟨A3, c3, hv3⟩ := own_slice hEN.eno.bo.own
        subst hv3
        by_cases hlt : r < 30
        · have hrn : (r : Int) < 30 := by omega
          have HR30 := Lib.hid hlt
          obtain ⟨nl, Hnl⟩ : ∃ k, Hid (L.length = k) := ⟨_, rfl⟩
          have HLN : Hid (E.en.length = nl) := by show _ = _; rw [← Hnl.out, ← HL.out, List.length_map]
          have hnl : nl ≤ 30 := by rw [← HLN.out]; exact HB.out.ok.en
          rw [Hnl.out] at hX
          obtain ⟨Y, HY⟩ : ∃ Y, Hid (W6.heap.size = Y) := ⟨_, rfl⟩
          have hY7 := AtF.new_at (w := W6) HY.out.symm 62 [.int .i64 0, .int .i64 0, .int .i64 0]
          have hba : Bel W6 (W6.alloc (.cells [.int .i64 0, .int .i64 0, .int .i64 0].toArray 62)) := (Bel.refl W6).alloc _
          simp only [List.toArray] at hY7 hba
          go_upto_region 16 with fail
          rw [HY.out]
          generalize hW7 : W6.alloc _ = W7 at *
          clear hW7
          have hY7' : AtF W7 Y (intC [0, 0, 0]) := hY7
          clear hY7
          have HYS := Lib.hid (And.intro hY7' hba)
          go_wp2
          go_loopw [19] (fun jv wr => ∃ (j : Nat) (c : List Int), jv = .int .i64 j ∧ j ≤ nl ∧ c.length = 3 ∧ AtF wr Y (intC c) ∧ Hid (∀ t : Nat, t < 3 → c[t]? = some (tenN E.en t j : Int)) ∧ Bel W6 wr) (fun jv _ => nl - (intOf jv).toNat)
          case atStart =>
            refine ⟨0, [0, 0, 0], rfl, Nat.zero_le _, rfl, hY7', Lib.hid ?_, hba⟩
            intro t ht
            match t, ht with
            | 0, _ | 1, _ | 2, _ => rfl
          case round =>
            clear hY7' hba HYS
            obtain ⟨j, c, rfl, hj, hc3, hY, HC, hbj⟩ := hrel
            obtain ⟨W8, rfl⟩ : ∃ X, X = wr := ⟨_, rfl⟩
            have hX8 := hX.bel hbj
            have e6 := hX8.1.2 6 _ rfl
            have el := hX8.1.1
            by_cases hjn : j < nl
            · have hjl : (j : Int) < (nl : Int) := by omega
              have HJN := Lib.hid hjn
              obtain ⟨y, hy⟩ : ∃ y, L[j]? = some y := ⟨L[j]'(by have := Hnl.out; omega), List.getElem?_eq_getElem _⟩
              obtain ⟨ge, oe, ce, hat⟩ := (hEN.eno.bo.ql.bel hbj).at hy
              have hfo := hat.form
              injection hfo with h1 h2 h3
              subst h1; subst h3
              clear h2
              have hge := hat.lt
              have q1 := hat.row.cell 1 rfl
              have hyE : E.en[j]? = some y.qu := by rw [← HL.out, List.getElem?_map, hy]; rfl
              have hyt : 0 ≤ y.q.b.ten ∧ y.q.b.ten < 3 := by
                have hm := List.mem_of_getElem? hyE
                exact ⟨(HB.out.fr.en _ hm).1, (HB.out.rd _ hm).2.1⟩
              obtain ⟨hyt0, hyt3⟩ := hyt
              obtain ⟨t, ht⟩ : ∃ t : Nat, (t : Int) = y.q.b.ten := ⟨y.q.b.ten.toNat, by omega⟩
              rw [← ht] at q1 hyt0 hyt3
              have hrt := rnd_id3 (n := (t : Int)) (m := 3) hyt0 hyt3 (by omega)
              have hct := HC.out t (by omega)
              have cY := hY.1.2 t _ (intC_at hct)
              have hYf := hY.2
              have hYl := hY.1.1
              have HTS := Lib.hid (fun u : Nat => tenN_succ (t := (u : Int)) hyE)
              have HT := Lib.hid ht
              obtain ⟨tn, Htn⟩ : ∃ k, Hid (tenN E.en t j = k) := ⟨_, rfl⟩
              have htn : tn ≤ 30 := by
                rw [← Htn.out]
                unfold tenN
                exact Nat.le_trans (List.length_filter_le _ _) (by rw [List.length_take]; omega)
              rw [Htn.out] at cY
              have ew : IntKind.i64.wrap ((tn : Int) + 1) = (tn : Int) + 1 := IntWalk.i64_in _ (by omega)
              clear hat hy hyE ht hct
              go_wp2_with fail
              refine (round_any (t : Int) 3 _ (by omega)).mono ?_; rw [hrt]; rintro e w9 ⟨rfl, rfl⟩
              clear hrt
              have hY9 := hY.set t (by simp [intC]; omega) (.int .i64 ((tn : Int) + 1))
              rw [intC_set] at hY9
              have hb9 : Bel W6 (W8.setCell ⟨Y, t, none⟩ (.int .i64 ((tn : Int) + 1))) := hbj.setNew (by rw [← HY.out]; exact Nat.le_refl _) _
              have HZ9 := Lib.hid (And.intro hY9 hb9)
              clear hX8 hY hbj hY9 hb9
              go_wp2
              go_roundw
              case rel =>
                refine ⟨j + 1, c.set t ((tn : Int) + 1), by go_num, HJN.out, by simpa using hc3, HZ9.out.1, Lib.hid ?_, HZ9.out.2⟩
                intro u hu
                have h8 := HTS.out u
                by_cases eu : t = u
                · subst eu
                  rw [List.getElem?_set_self (by omega), h8, if_pos (show y.qu.u.ten = (t : Int) from HT.out.symm), Htn.out]
                  rfl
                · rw [List.getElem?_set_ne eu, HC.out u hu, h8, if_neg (show ¬ y.qu.u.ten = (u : Int) from by have := HT.out; show ¬ y.q.b.ten = _; omega)]
                  rfl
              case measure => have := HJN.out; simp [intOf]; omega
            · obtain rfl : j = nl := by omega
              have jk : decide ((j : Int) < (j : Int)) = false := by simp
              have hca := HC.out ta (by omega)
              have hcb := HC.out tb (by omega)
              obtain ⟨ca, Hca⟩ : ∃ k, Hid (tenN E.en ta j = k) := ⟨_, rfl⟩
              obtain ⟨cb, Hcb⟩ : ∃ k, Hid (tenN E.en tb j = k) := ⟨_, rfl⟩
              rw [Hca.out] at hca
              rw [Hcb.out] at hcb
              have cYa := hY.1.2 ta _ (intC_at hca)
              have cYb := hY.1.2 tb _ (intC_at hcb)
              have hYl := hY.1.1
              have hbw8 := hbr.trans hbj
              clear hca hcb
              by_cases h0a : ca = 0
              · subst h0a
                go_wp2_with fail
                refine (awake33_any _).mono ?_; rintro e w9 ⟨rfl, hbz⟩
                go_wp2
                go_ret
                exact ⟨rfl, (by repeat (first | (with_reducible exact Bel.refl _) | (with_reducible assumption) | (with_reducible refine Bel.drewN ?_ _) | (with_reducible refine Bel.drew ?_) | (with_reducible refine Bel.alloc ?_ _) | (with_reducible refine Bel.setNew ?_ ?_ _) | (with_reducible refine Bel.trans ?_ (by assumption)) | (focus (simp; done)) | (focus (simp; omega))))⟩
              · have ca0 : (((ca : Nat) : Int) == 0) = false := by simpa using h0a
                by_cases h0b : cb = 0
                · subst h0b
                  go_wp2_with fail
                  refine (awake33_any _).mono ?_; rintro e w9 ⟨rfl, hbz⟩
                  go_wp2
                  go_ret
                  exact ⟨rfl, (by repeat (first | (with_reducible exact Bel.refl _) | (with_reducible assumption) | (with_reducible refine Bel.drewN ?_ _) | (with_reducible refine Bel.drew ?_) | (with_reducible refine Bel.alloc ?_ _) | (with_reducible refine Bel.setNew ?_ ?_ _) | (with_reducible refine Bel.trans ?_ (by assumption)) | (focus (simp; done)) | (focus (simp; omega))))⟩
                · have cb0 : (((cb : Nat) : Int) == 0) = false := by simpa using h0b
                  have hea := tenN_ex (en := E.en) (t := (ta : Int)) (by rw [HLN.out, Hca.out]; exact h0a)
                  have heb := tenN_ex (en := E.en) (t := (tb : Int)) (by rw [HLN.out, Hcb.out]; exact h0b)
                  obtain ⟨bd1, bd2⟩ := HB.out.bound hea heb
                  have hen0 : 0 < E.en.length := by
                    obtain ⟨x, hx, _⟩ := hea
                    exact List.length_pos_of_mem hx
                  have HGO := Lib.hid (HB.out.go HW8.out hen0)
                  have hWl : W.length = 4 := by rw [HWE.out]; rfl
                  obtain ⟨wa, hwa⟩ : ∃ x, W[ta]? = some x := ⟨W[ta]'(by omega), List.getElem?_eq_getElem _⟩
                  obtain ⟨wb, hwb⟩ : ∃ x, W[tb]? = some x := ⟨W[tb]'(by omega), List.getElem?_eq_getElem _⟩
                  obtain ⟨wa1, wa2⟩ := HW8.out ta wa hwa
                  obtain ⟨wb1, wb2⟩ := HW8.out tb wb hwb
                  have hka : kW W ta = 840 / wa := by unfold kW; rw [Int.toNat_natCast, List.getD_eq_getElem?_getD, hwa]; rfl
                  have hkb : kW W tb = 840 / wb := by unfold kW; rw [Int.toNat_natCast, List.getD_eq_getElem?_getD, hwb]; rfl
                  have hkp := kW_pos HW8.out ta
                  have hkq := kW_pos HW8.out tb
                  obtain ⟨sa, hsa⟩ : ∃ x, s[ta]? = some x := ⟨s[ta]'(by omega), List.getElem?_eq_getElem _⟩
                  obtain ⟨sb, hsb⟩ : ∃ x, s[tb]? = some x := ⟨s[tb]'(by omega), List.getElem?_eq_getElem _⟩
                  obtain ⟨sa1, sa2⟩ := HSB.out ta sa hsa
                  obtain ⟨sb1, sb2⟩ := HSB.out tb sb hsb
                  have hPA := HPS.out ta sa hsa
                  have hPB := HPS.out tb sb hsb
                  obtain ⟨KA, HKA⟩ : ∃ x, Hid (kW W ta = x) := ⟨_, rfl⟩
                  obtain ⟨KB, HKB⟩ : ∃ x, Hid (kW W tb = x) := ⟨_, rfl⟩
                  obtain ⟨PA, HPA⟩ : ∃ x, Hid (P ta = x) := ⟨_, rfl⟩
                  obtain ⟨PB, HPB⟩ : ∃ x, Hid (P tb = x) := ⟨_, rfl⟩
                  rw [HKA.out] at bd1 hka hkp hPA
                  rw [HKB.out] at bd2 hkb hkq hPB
                  rw [HPA.out] at bd1 bd2 hPA
                  rw [HPB.out] at bd1 bd2 hPB
                  obtain ⟨ka1, ka2⟩ := hkp
                  obtain ⟨kb1, kb2⟩ := hkq
                  have pa1 : 0 ≤ PA := by rw [hPA]; exact Int.mul_nonneg ka1 sa1
                  have pb1 : 0 ≤ PB := by rw [hPB]; exact Int.mul_nonneg kb1 sb1
                  have pa2 : PA ≤ 25200 := by rw [hPA]; exact Int.le_trans (Int.mul_le_mul ka2 (show sa ≤ 30 by omega) sa1 (by omega)) (by omega)
                  have pb2 : PB ≤ 25200 := by rw [hPB]; exact Int.le_trans (Int.mul_le_mul kb2 (show sb ≤ 30 by omega) sb1 (by omega)) (by omega)
                  have hqa : (sa * 840).tdiv wa = PA := by rw [Int.tdiv_eq_ediv_of_nonneg (by omega), w_div wa1 wa2, hPA, hka]
                  have hqb : (sb * 840).tdiv wb = PB := by rw [Int.tdiv_eq_ediv_of_nonneg (by omega), w_div wb1 wb2, hPB, hkb]
                  have hda : (840 : Int).tdiv wa = KA := by rw [Int.tdiv_eq_ediv_of_nonneg (by omega), hka]
                  have hdb : (840 : Int).tdiv wb = KB := by rw [Int.tdiv_eq_ediv_of_nonneg (by omega), hkb]
                  have HQ1 := Lib.hid (And.intro hqa (And.intro hqb (And.intro hda hdb)))
                  have cSa := (hS.bel hbj).1.2 ta _ (intC_at hsa)
                  have cSb := (hS.bel hbj).1.2 tb _ (intC_at hsb)
                  have cRa := (hR.bel hbj).1.2 ta _ (intC_at hwa)
                  have cRb := (hR.bel hbj).1.2 tb _ (intC_at hwb)
                  obtain ⟨D, HD⟩ : ∃ x, Hid (PA - PB = x) := ⟨_, rfl⟩
                  have HDD := HD.out
                  have dd1 : D ≤ KA + KB := by omega
                  have dd2 : -D ≤ KA + KB := by omega
                  have dd3 : -25200 ≤ D ∧ D ≤ 25200 := by omega
                  obtain ⟨dd3, dd4⟩ := dd3
                  have HWA := Lib.hid hwa
                  have HWB := Lib.hid hwb
                  clear HDD bd1 bd2 hPA hPB hqa hqb hda hdb hsa hsb hwa hwb hea heb hka hkb
                  have e6 := (hX.bel hbj).1.2 6 _ rfl
                  have el := (hX.bel hbj).1.1
                  go_upto_region 21 with fail
                  have rg0 := fun d os => cell_regrown cSa d os
                  have rg1 := fun d os => cell_regrown cSb d os
                  have rg2 := fun d os => cell_regrown cRa d os
                  have rg3 := fun d os => cell_regrown cRb d os
                  have x0a : (wa == 0) = false := by simp; omega
                  have x0b : (wb == 0) = false := by simp; omega
                  have g1 : IntKind.i64.wrap (sa * 840) = sa * 840 := IntWalk.i64_in _ (by omega)
                  have g2 : IntKind.i64.wrap (sb * 840) = sb * 840 := IntWalk.i64_in _ (by omega)
                  have g3 : IntKind.i64.wrap PA = PA := IntWalk.i64_in _ (by omega)
                  have g4 : IntKind.i64.wrap PB = PB := IntWalk.i64_in _ (by omega)
                  have g5 : IntKind.i64.wrap (PA - PB) = D := by rw [HD.out]; exact IntWalk.i64_in _ (by omega)
                  obtain ⟨g6, g7, _, _⟩ := HQ1.out
                  have u3 : (ta : Int) < 4 := by omega
                  have u4 : (tb : Int) < 4 := by omega
                  refine wp_region_lex [] 19 (by kernel_rfl) (by kernel_rfl) ?_
                  simp only [List.take_succ_cons, List.take_zero, List.drop_succ_cons, List.drop_zero]
                  with_reducible refine lex_seg 19 _ _ _ _ (by kernel_rfl) ?_
                  simp only [List.take_succ_cons, List.take_zero, List.drop_succ_cons, List.drop_zero]
                  try simp only [Act.put, List.setIfInBounds_toArray, List.set_cons_succ, List.set_cons_zero]
                  repeat (go_big_quiet_step (fail))
                  with_reducible refine wpQuiet_nil ?_
                  with_reducible refine lex_nil ?_
                  clear rg0 rg1 rg2 rg3 g1 g2 g3 g4 g5 g6 g7 cSa cSb cYa cYb hYl e6 el
                  go_upto_region 22 with fail
                  have hbd : Bel W6 W8.drew := hbj.drew
                  have hX9 := hX.bel hbd
                  have hEN9 := hEN.keep hbd
                  have hS9 := hS.bel hbd
                  have hR9 := hR.bel hbd
                  have hb9 := hbr.trans hbd
                  clear hX hEN hS hR hbr hbj hbd hbw8 hY
                  generalize W8.drew = W9 at *
                  have cRa := hR9.1.2 ta _ (intC_at HWA.out)
                  have cRb := hR9.1.2 tb _ (intC_at HWB.out)
                  have rg2 := fun d os => cell_regrown cRa d os
                  have rg3 := fun d os => cell_regrown cRb d os
                  obtain ⟨_, _, g6, g7⟩ := HQ1.out
                  have g3 : IntKind.i64.wrap KA = KA := IntWalk.i64_in _ (by omega)
                  have g4 : IntKind.i64.wrap KB = KB := IntWalk.i64_in _ (by omega)
                  have g5 : IntKind.i64.wrap (KA + KB) = KA + KB := IntWalk.i64_in _ (by omega)
                  have g8 : IntKind.i64.wrap (-D) = -D := IntWalk.i64_in _ (by omega)
                  have y1 : decide (KA + KB < D) = false := by simp; omega
                  have y2 : decide (KA + KB < -D) = false := by simp; omega
                  refine wp_region_lex [] 11 (by kernel_rfl) (by kernel_rfl) ?_
                  simp only [List.take_succ_cons, List.take_zero, List.drop_succ_cons, List.drop_zero]
                  with_reducible refine lex_seg 11 _ _ _ _ (by kernel_rfl) ?_
                  simp only [List.take_succ_cons, List.take_zero, List.drop_succ_cons, List.drop_zero]
                  try simp only [Act.put, List.setIfInBounds_toArray, List.set_cons_succ, List.set_cons_zero]
                  repeat (go_big_quiet_step (fail))
                  with_reducible refine wpQuiet_nil ?_
                  with_reducible refine lex_nil ?_
                  clear rg2 rg3 g3 g4 g5 g6 g7 cRa cRb
                  have hbd : Bel W9 W9.drew := (Bel.refl W9).drew
                  have hXa := hX9.bel hbd
                  have hENa := hEN9.keep hbd
                  have hSa := hS9.bel hbd
                  have hRa := hR9.bel hbd
                  have hba := hb9.trans hbd
                  clear hX9 hEN9 hS9 hR9 hb9 hbd
                  go_upto_region 23 with fail
                  generalize W9.drew = Wa at *
                  obtain ⟨E2, x, k, hnx, hNS, hB2, hx0, hx3, hx1, _⟩ := HGO.out
                  have HB2 := Lib.hid hB2
                  have HNX := Lib.hid (elNext_E E 0 _ _ _ _ L [] Wa _ hENa HL.out HB.out.ok (BL.nil Wa))
                  simp only [List.map_nil, hnx] at HNX
                  obtain ⟨q1, q2, q3⟩ := nxtE_same E 0 []
                  rw [hnx] at q1 q2 q3
                  have HSM := Lib.hid (And.intro q1 (And.intro q2 q3))
                  obtain ⟨u, hu⟩ : ∃ u, x.u = u := ⟨_, rfl⟩
                  rw [hu] at HNX HB2 hx0 hx3 hx1
                  rw [Hnl.out] at HNX
                  clear hnx q1 q2 q3 hNS hB2 hu
                  have k0 := (hXa).1.2 0 _ rfl
                  have k1 := (hXa).1.2 1 _ rfl
                  have k2 := (hXa).1.2 2 _ rfl
                  have k3 := (hXa).1.2 3 _ rfl
                  have k4 := (hXa).1.2 4 _ rfl
                  have k5 := (hXa).1.2 5 _ rfl
                  have k6 := (hXa).1.2 6 _ rfl
                  have k7 := (hXa).1.2 7 _ rfl
                  have kl := hXa.1.1
                  go_wp2_with fail
                  refine HNX.out.mono ?_; rintro e w5 ⟨fl5, bu5, en5, L5, A, cM, rfl, hE5, hL5, hZ5, hb5⟩
                  clear k0 k1 k2 k3 k4 k5 k6 k7 kl HNX
                  obtain ⟨A7, c7, rfl⟩ := own_slice hE5.flo
                  obtain ⟨A8, c8, rfl⟩ := own_slice hE5.buo
                  obtain ⟨A9, c9, hv9⟩ := own_slice hE5.eno.bo.own
                  subst hv9
                  have HL5 := Lib.hid hL5
                  clear hL5
                  obtain ⟨i1, t1', kd1, s1, n1, d1, f1, m1, tm⟩ := u
                  simp only at hx0 hx3 hx1
                  subst hx1
                  obtain ⟨t, ht⟩ : ∃ t : Nat, (t : Int) = t1' := ⟨t1'.toNat, by omega⟩
                  subst ht
                  simp only [Bu.at] at hZ5 ⊢
                  have hsN := hb5.size
                  have nw0 : Bel w5 ((w5.alloc (.cells [.int .i64 0, .int .i64 0, .int .i64 0, .int .i64 0, .slice none 0 0, .slice none 0 0, .slice none 0 0, .int .i64 0].toArray 31)).alloc (.cells [.int .i64 0, .int .i64 0, .int .i64 0, .int .i64 0, .int .i64 0, .string ⟨#[]⟩, .bool false, .slice none 0 0, .int .i64 0].toArray 42)) := (by repeat (first | (with_reducible exact Bel.refl _) | (with_reducible assumption) | (with_reducible refine Bel.drewN ?_ _) | (with_reducible refine Bel.drew ?_) | (with_reducible refine Bel.alloc ?_ _) | (with_reducible refine Bel.setNew ?_ ?_ _) | (with_reducible refine Bel.trans ?_ (by assumption)) | (focus (simp; done)) | (focus (simp; omega))))
                  have nx0 := (AtF.new_at (w := w5) rfl 31 [.int .i64 0, .int .i64 0, .int .i64 0, .int .i64 0, .slice none 0 0, .slice none 0 0, .slice none 0 0, .int .i64 0]).alloc (.cells [.int .i64 0, .int .i64 0, .int .i64 0, .int .i64 0, .int .i64 0, .string ⟨#[]⟩, .bool false, .slice none 0 0, .int .i64 0].toArray 42)
                  have ny0 := AtF.new_at (w := w5.alloc (.cells [.int .i64 0, .int .i64 0, .int .i64 0, .int .i64 0, .slice none 0 0, .slice none 0 0, .slice none 0 0, .int .i64 0].toArray 31)) (g := w5.heap.size + 1) (by simp) 42 [.int .i64 0, .int .i64 0, .int .i64 0, .int .i64 0, .int .i64 0, .string ⟨#[]⟩, .bool false, .slice none 0 0, .int .i64 0]
                  have hi8 : (Try.prog.info? 31).map (·.size) = some 8 := by kernel_rfl
                  have hi9 : (Try.prog.info? 42).map (·.size) = some 9 := by kernel_rfl
                  have one8 : ∀ u ∈ ([.int .i64 E.knd, .int .i64 E.rdE, .int .i64 E.wrE, .int .i64 E2.vt, .slice A7 E2.fl.length c7, .slice A8 E2.bk.length c8, .slice A9 L5.length c9, .int .i64 E2.hd] : List Value), u.oneCell' = true := fun u hu => by
                    simp only [List.mem_cons, List.not_mem_nil, or_false] at hu
                    rcases hu with rfl | rfl | rfl | rfl | rfl | rfl | rfl | rfl <;> rfl
                  have one9 : ∀ u ∈ ([.int .i64 i1, .int .i64 (t : Int), .int .i64 kd1, .int .i64 s1, .int .i64 1, .string d1, .bool f1, .slice A m1.length cM, .int .i64 tm] : List Value), u.oneCell' = true := fun u hu => by
                    simp only [List.mem_cons, List.not_mem_nil, or_false] at hu
                    rcases hu with rfl | rfl | rfl | rfl | rfl | rfl | rfl | rfl | rfl <;> rfl
                  have ny1 := ny0.setRow_other (B := w5.heap.size) (i := 0) [.int .i64 E.knd, .int .i64 E.rdE, .int .i64 E.wrE, .int .i64 E2.vt, .slice A7 E2.fl.length c7, .slice A8 E2.bk.length c8, .slice A9 L5.length c9, .int .i64 E2.hd] (by omega)
                  have nx2 := (nx0.setRow [.int .i64 E.knd, .int .i64 E.rdE, .int .i64 E.wrE, .int .i64 E2.vt, .slice A7 E2.fl.length c7, .slice A8 E2.bk.length c8, .slice A9 L5.length c9, .int .i64 E2.hd] rfl).setRow_other (B := w5.heap.size + 1) (i := 0) [.int .i64 i1, .int .i64 (t : Int), .int .i64 kd1, .int .i64 s1, .int .i64 1, .string d1, .bool f1, .slice A m1.length cM, .int .i64 tm] (by omega)
                  have ny2 := ny1.setRow [.int .i64 i1, .int .i64 (t : Int), .int .i64 kd1, .int .i64 s1, .int .i64 1, .string d1, .bool f1, .slice A m1.length cM, .int .i64 tm] rfl
                  have nw2 := Bel.setRow (B := w5.heap.size + 1) (i := 0) [.int .i64 i1, .int .i64 (t : Int), .int .i64 kd1, .int .i64 s1, .int .i64 1, .string d1, .bool f1, .slice A m1.length cM, .int .i64 tm] (Bel.setRow (B := w5.heap.size) (i := 0) [.int .i64 E.knd, .int .i64 E.rdE, .int .i64 E.wrE, .int .i64 E2.vt, .slice A7 E2.fl.length c7, .slice A8 E2.bk.length c8, .slice A9 L5.length c9, .int .i64 E2.hd] nw0 (by omega)) (by omega)
                  simp only [List.toArray] at nx0 ny1 nx2 ny2 nw2
                  rename_i hKK
                  refine hKK _ _ ?_
                  iterate 18 (first | go_step | go_upon | go_values)
                  refine wpList_store_at rfl 31 _ _ rfl rfl rfl nx0 rfl one8 hi8 ?_
                  refine wpList_store_at rfl 42 _ _ rfl rfl rfl ny1 rfl one9 hi9 ?_
                  clear nx0 ny0 nw0 ny1 one8 one9 hi8 hi9 hKK
                  generalize setRow (setRow ((w5.alloc (.cells #[.int .i64 0, .int .i64 0, .int .i64 0, .int .i64 0, .slice none 0 0, .slice none 0 0, .slice none 0 0, .int .i64 0] 31)).alloc (.cells #[.int .i64 0, .int .i64 0, .int .i64 0, .int .i64 0, .int .i64 0, .string ⟨#[]⟩, .bool false, .slice none 0 0, .int .i64 0] 42)) w5.heap.size 0 [.int .i64 E.knd, .int .i64 E.rdE, .int .i64 E.wrE, .int .i64 E2.vt, .slice A7 E2.fl.length c7, .slice A8 E2.bk.length c8, .slice A9 L5.length c9, .int .i64 E2.hd]) (w5.heap.size + 1) 0 [.int .i64 i1, .int .i64 (t : Int), .int .i64 kd1, .int .i64 s1, .int .i64 1, .string d1, .bool f1, .slice A m1.length cM, .int .i64 tm] = NW at *
                  have ne2 := (hE5).keep nw2
                  generalize w5.heap.size = NY at *
                  simp only [Act.put, Act.eval, List.setIfInBounds_toArray, List.set_cons_succ, List.set_cons_zero]
                  have nxw := hb5.trans nw2
                  have hX5 := hXa.bel nxw
                  have hS5 := hSa.bel nxw
                  have hR5 := hRa.bel nxw
                  have hb5w := hba.trans nxw
                  have hsw := nxw.size
                  have hXl := hXa.1.1
                  have hSl := hSa.1.1
                  have hbz := hba.size
                  have HXO : Hid (Off X (.slice A7 E2.fl.length c7) (.slice A8 E2.bk.length c8) (.slice A9 L5.length c9) L5) := ne2.offLow (by omega)
                  have HSO : Hid (Off S (.slice A7 E2.fl.length c7) (.slice A8 E2.bk.length c8) (.slice A9 L5.length c9) L5) := ne2.offLow (by omega)
                  have hXY : X ≠ NY ∧ X ≠ NY + 1 ∧ S ≠ NY ∧ S ≠ NY + 1 := by omega
                  have hEO : ElN (setRow NW X 0 [.int .i64 E.knd, .int .i64 E.rdE, .int .i64 E.wrE, .int .i64 E2.vt, .slice A7 E2.fl.length c7, .slice A8 E2.bk.length c8, .slice A9 L5.length c9, .int .i64 E2.hd]) w.heap.size (.slice A7 E2.fl.length c7) (.slice A8 E2.bk.length c8) (.slice A9 L5.length c9) E2.fl E2.bk L5 := ElN.offRow HXO.out _ (ne2.mono (by omega))
                  have hX9 := hX5.setRow [.int .i64 E.knd, .int .i64 E.rdE, .int .i64 E.wrE, .int .i64 E2.vt, .slice A7 E2.fl.length c7, .slice A8 E2.bk.length c8, .slice A9 L5.length c9, .int .i64 E2.hd] rfl
                  have hS9 := hS5.setRow_other (B := X) (i := 0) [.int .i64 E.knd, .int .i64 E.rdE, .int .i64 E.wrE, .int .i64 E2.vt, .slice A7 E2.fl.length c7, .slice A8 E2.bk.length c8, .slice A9 L5.length c9, .int .i64 E2.hd] (by omega)
                  have hR9 := hR5.setRow_other (B := X) (i := 0) [.int .i64 E.knd, .int .i64 E.rdE, .int .i64 E.wrE, .int .i64 E2.vt, .slice A7 E2.fl.length c7, .slice A8 E2.bk.length c8, .slice A9 L5.length c9, .int .i64 E2.hd] (by omega)
                  have hU9 := ny2.setRow_other (B := X) (i := 0) [.int .i64 E.knd, .int .i64 E.rdE, .int .i64 E.wrE, .int .i64 E2.vt, .slice A7 E2.fl.length c7, .slice A8 E2.bk.length c8, .slice A9 L5.length c9, .int .i64 E2.hd] (by omega)
                  have hb9 := Bel.setRow (B := X) (i := 0) [.int .i64 E.knd, .int .i64 E.rdE, .int .i64 E.wrE, .int .i64 E2.vt, .slice A7 E2.fl.length c7, .slice A8 E2.bk.length c8, .slice A9 L5.length c9, .int .i64 E2.hd] hb5w (by omega)
                  simp only [setRow, Nat.zero_add, Nat.reduceAdd] at hEO hX9 hS9 hR9 hU9 hb9
                  have k0 := (hX5).1.2 0 _ rfl
                  have k1 := (hX5).1.2 1 _ rfl
                  have k2 := (hX5).1.2 2 _ rfl
                  have k3 := (hX5).1.2 3 _ rfl
                  have k4 := (hX5).1.2 4 _ rfl
                  have k5 := (hX5).1.2 5 _ rfl
                  have k6 := (hX5).1.2 6 _ rfl
                  have k7 := (hX5).1.2 7 _ rfl
                  have kf := hX5.2
                  have kl := hX5.1.1
                  have y0 := (nx2).1.2 0 _ rfl
                  have y1 := (nx2).1.2 1 _ rfl
                  have y2 := (nx2).1.2 2 _ rfl
                  have y3 := (nx2).1.2 3 _ rfl
                  have y4 := (nx2).1.2 4 _ rfl
                  have y5 := (nx2).1.2 5 _ rfl
                  have y6 := (nx2).1.2 6 _ rfl
                  have y7 := (nx2).1.2 7 _ rfl
                  have yl := nx2.1.1
                  clear hXa hENa hSa hRa hba hE5 hb5 hZ5 nxw nw2 hS5 hR5 hb5w ne2
                  obtain ⟨sq, hsq⟩ : ∃ x, s[t]? = some x := ⟨s[t]'(by omega), List.getElem?_eq_getElem _⟩
                  obtain ⟨sq1, sq2⟩ := HSB.out t sq hsq
                  have HSQ := Lib.hid hsq
                  have hrt := rnd_id3 (n := (t : Int)) (m := 3) hx0 hx3 (by omega)
                  have HRT := Lib.hid hrt
                  clear hrt hsq
                  have hcx := hX9.1.1
                  have hcs := hS9.1.1
                  clear nx2 ny2 hX5
                  go_upto_region 29 with fail
                  clear y0 y1 y2 y3 y4 y5 y6 y7 yl k0 k1 k2 k3 k4 k5 k6 k7 kf kl
                  generalize World.setCell _ ⟨X, 7, none⟩ _ = Wb at *
                  have z1 := hU9.1.2 1 _ rfl
                  have z4 := hU9.1.2 4 _ rfl
                  have z9 := hS9.1.2 t _ (intC_at HSQ.out)
                  have rg0 := fun d os => cell_regrown z1 d os
                  have rg1 := fun d os => cell_regrown z4 d os
                  have rg2 := fun d os => cell_regrown z9 d os
                  have g1 : IntKind.i64.wrap (sq + 1) = sq + 1 := IntWalk.i64_in _ (by omega)
                  refine wp_region_lex [2] 8 (by kernel_rfl) (by kernel_rfl) ?_
                  simp only [List.take_succ_cons, List.take_zero, List.drop_succ_cons, List.drop_zero]
                  with_reducible refine lex_seg 2 _ _ _ _ (by kernel_rfl) ?_
                  simp only [List.take_succ_cons, List.take_zero, List.drop_succ_cons, List.drop_zero]
                  try simp only [Act.put, List.setIfInBounds_toArray, List.set_cons_succ, List.set_cons_zero]
                  repeat (go_big_quiet_step (fail))
                  with_reducible refine wpQuiet_nil ?_
                  refine lex_call 13 rfl rfl (by simp [go_sem]; rfl) ?_
                  refine (round_any (t : Int) 3 _ (by omega)).mono ?_; rintro e w9 ⟨rfl, rfl⟩
                  refine ⟨_, rfl, Bel.refl _, ?_⟩
                  rw [HRT.out]
                  with_reducible refine lex_seg 5 _ _ _ _ (by kernel_rfl) ?_
                  simp only [List.take_succ_cons, List.take_zero, List.drop_succ_cons, List.drop_zero]
                  try simp only [Act.put, List.setIfInBounds_toArray, List.set_cons_succ, List.set_cons_zero]
                  repeat (go_big_quiet_step (fail))
                  with_reducible refine wpQuiet_nil ?_
                  with_reducible refine lex_nil ?_
                  clear rg0 rg1 rg2 g1 z1 z4 z9 hU9
                  have hbd : Bel Wb Wb.drew := (Bel.refl Wb).drew
                  have hwS : w.heap.size ≤ S := by omega
                  have hXc := (hX9.bel hbd).other (C := S) (by omega) t (.int .i64 (sq + 1))
                  have hSc := (hS9.bel hbd).set t (by simp [intC]; omega) (.int .i64 (sq + 1))
                  rw [intC_set] at hSc
                  have hRc := (hR9.bel hbd).other (C := S) (by omega) t (.int .i64 (sq + 1))
                  have hEc := ElN.off (p := ⟨S, t, none⟩) (hEO.keep hbd) HSO.out (.int .i64 (sq + 1))
                  have hbc : Bel w (Wb.drew.setCell ⟨S, t, none⟩ (.int .i64 (sq + 1))) := (hb9.trans hbd).setNew hwS _
                  have z9 := (hS9.bel hbd).1.2 t _ (intC_at HSQ.out)
                  have hsf := (hS9.bel hbd).2
                  have hsl := (hS9.bel hbd).1.1
                  have HZZ := Lib.hid (And.intro hXc (And.intro hSc (And.intro hRc (And.intro hEc hbc))))
                  clear hX9 hS9 hR9 hEO hb9 hXc hSc hRc hEc hbc
                  go_wp2
                  go_roundw
                  case rel =>
                    obtain ⟨g1, g2, g3, g4, g5⟩ := HZZ.out
                    obtain ⟨q1, q2, q3⟩ := HSM.out
                    refine ⟨r + 1, E2, .slice A7 E2.fl.length c7, .slice A8 E2.bk.length c8, .slice A9 L5.length c9, L5, s.set t (sq + 1), upd P (t : Int) (P (t : Int) + kW W (t : Int)), by go_num, HR30.out, HB2, ?_, g4, HXO, HSO, HL5, g2, by simpa using hs3, Lib.hid ?_, Lib.hid ?_, g3, g5⟩
                    · rw [q1, q2, q3]; exact g1
                    · intro z x hx
                      by_cases eu : t = z
                      · subst eu
                        rw [List.getElem?_set_self (by omega)] at hx
                        cases hx
                        rw [upd_self, HPS.out _ _ HSQ.out, Int.mul_add, Int.mul_one]
                      · rw [List.getElem?_set_ne eu] at hx
                        rw [upd_ne _ _ (by omega)]
                        exact HPS.out _ _ hx
                    · intro z x hx
                      by_cases eu : t = z
                      · subst eu
                        rw [List.getElem?_set_self (by omega)] at hx
                        cases hx
                        omega
                      · rw [List.getElem?_set_ne eu] at hx
                        have := HSB.out _ _ hx
                        omega
                  case measure => have := HR30.out; simp [intOf]; omega
        · obtain rfl : r = 30 := by omega
          go_wp2_with fail
          refine (awake33_any _).mono ?_; rintro e w9 ⟨rfl, hbz⟩
          go_wp2
          go_ret
          exact ⟨rfl, (by repeat (first | (with_reducible exact Bel.refl _) | (with_reducible assumption) | (with_reducible refine Bel.drewN ?_ _) | (with_reducible refine Bel.drew ?_) | (with_reducible refine Bel.alloc ?_ _) | (with_reducible refine Bel.setNew ?_ ?_ _) | (with_reducible refine Bel.trans ?_ (by assumption)) | (focus (simp; done)) | (focus (simp; omega))))⟩
end Go.Proofs.Ytpgjbocjhconoaa
