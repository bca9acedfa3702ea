/- The walk of ElevatorFirst. -/
import Derived.Test.YtpgjbocjhconoaaElR
import Derived.Test.YtpgjbocjhconoaaPlnN
namespace Go.Proofs.Ytpgjbocjhconoaa
open Go.RowKit Go.Maps
set_option linter.unusedSimpArgs false

/-- A scheduler behind m bunches none of which can be joined. -/
structure PlnI (n knd : Int) (Q : List Bu) (m : Nat) (E : El) : Prop where
  knd : E.knd = knd
  bk : E.bk = madeK n
  vt : E.vt = 0
  fl : F4 (2520 * (m : Int)) 0 E.fl
  us : usE E = Q.take m
def PlnQ (Q : List Bu) : Prop := Q.length ≤ 24 ∧ ∀ (k : Nat) (b : Bu), Q[k]? = some b → okU b = true ∧ b.cnt = 1 ∧ idsU b = [(k : Int)] ∧ (0 ≤ b.ten ∧ b.ten < 4) ∧ b.id = (k : Int) ∧ b.ms.length = 1
theorem plain_q {t : Int} {m : Nat} {L : List BM} (h : PlOk t m L) (hm : m ≤ 24) (ht : t ≤ 4) : PlnQ (L.map BM.bu) := by
  refine ⟨by rw [List.length_map, h.1]; exact hm, fun k b hk => ?_⟩
  rw [List.getElem?_map] at hk
  cases hx : L[k]? with
  | none => rw [hx] at hk; cases hk
  | some x =>
    rw [hx] at hk
    injection hk with hk
    subst hk
    have hp := h.2 k x hx
    have hms : x.bu.ms = [⟨(k : Int), 0, 1⟩] := hp.ms
    refine ⟨?_, hp.cnt, by unfold idsU; rw [hms]; rfl, ⟨hp.ten.1, by have := hp.ten.2; show x.b.ten < 4; omega⟩, hp.id, by rw [hms]; rfl⟩
    rw [okU_parts]
    have e1 : x.bu.cnt = 1 := hp.cnt
    refine ⟨decide_eq_true ?_, ?_, ?_⟩
    · have := hp.sec
      show 0 ≤ x.b.sec ∧ x.b.sec < 128 ∧ 1 ≤ x.b.cnt ∧ x.b.cnt ≤ 128 - x.b.sec
      rw [hp.cnt]
      omega
    · unfold dataOk
      rw [if_pos (show x.bu.bun.knd = 1 from hp.knd)]
      refine decide_eq_true ?_
      show x.b.dat.size = 0
      rw [hp.dat]; rfl
    · rw [e1, hms, memOk_iff]
      simp [offs, msum]
theorem PlnI.start (n knd : Int) (Q : List Bu) : PlnI n knd Q 0 (madeE n knd) := ⟨rfl, rfl, rfl, madeF_f4 n, rfl⟩
theorem PlnI.step {n knd : Int} {Q : List Bu} (hq : PlnQ Q) {m : Nat} {E : El} {b : Bu} (h : PlnI n knd Q m E) (hb : Q[m]? = some b) : (addE 1 0 E b).2 = true ∧ PlnI n knd Q (m + 1) (addE 1 0 E b).1 := by
  obtain ⟨h1, h2, _, h4, _⟩ := hq.2 m b hb
  have hm := (List.getElem?_eq_some_iff.1 hb).1
  have h24 := hq.1
  obtain ⟨E', g1, g2, g3⟩ := addE_step (M := 1) (B := 0) (E := E) h1 h4.1 h4.2 (by omega) (by rw [h.vt]; exact h.fl) (by omega)
  rw [g1]
  have e := g3.vt.trans h.vt
  rw [e] at g2
  have e2 : 2520 * ((m + 1 : Nat) : Int) = 2520 * (m : Int) + 2520 := by omega
  refine ⟨rfl, g3.knd.trans h.knd, g3.bk.trans h.bk, e, by rw [e2]; exact g2, ?_⟩
  rcases g3.en with ⟨i, a, x, y, d, _, hj, _, _⟩ | ⟨d, s, _, hen⟩
  · exfalso
    have r1 := okU_range hj.okx
    have r2 := okU_range hj.oky
    have hf := hj.fit
    unfold fits room at hf
    simp only [Bool.and_eq_true, decide_eq_true_eq, if_true] at hf
    omega
  · show E'.en.map Qu.u = _
    rw [hen, List.map_append, List.take_add_one, hb]
    have := h.us
    unfold usE at this
    rw [this]; rfl
theorem PlnI.mem {n knd : Int} {Q : List Bu} {m : Nat} {E : El} (h : PlnI n knd Q m E) {x : Qu} (hx : x ∈ E.en) : ∃ k : Nat, Q[k]? = some x.u := by
  have h1 : x.u ∈ usE E := List.mem_map_of_mem hx
  rw [h.us] at h1
  exact List.getElem?_of_mem (List.mem_of_mem_take h1)
theorem PlnI.ok {n knd : Int} {Q : List Bu} (hq : PlnQ Q) {m : Nat} {E : El} (h : PlnI n knd Q m E) : OkE E := by
  refine ⟨h.fl.len, by rw [h.bk, madeK_len], ?_, fun x hx => ?_⟩
  · have e : (usE E).length = E.en.length := by unfold usE; rw [List.length_map]
    rw [← e, h.us, List.length_take]
    have := hq.1
    omega
  · obtain ⟨k, hk⟩ := h.mem hx
    exact (hq.2 k _ hk).1
theorem madeK_free {n : Int} (h : n.tmod 4 = 0) : ∀ x ∈ madeK n, x.rate = 0 ∧ bkOk x = true := fun x hx => by
  obtain ⟨k, hk⟩ := List.getElem?_of_mem hx
  have h1 := madeK_in hk
  have h2 := madeK_ok n
  rw [List.all_eq_true] at h2
  refine ⟨?_, h2 x hx⟩
  rcases h1.2.2.2.2 with h3 | h3
  · exact h3
  · exact absurd h h3.2.2
theorem PlnI.free {n knd : Int} {Q : List Bu} (hq : PlnQ Q) {m : Nat} {E : El} (h : PlnI n knd Q m E) (hn : n.tmod 4 = 0) : FreeE E := by
  refine ⟨by rw [h.bk, madeK_len], fun x hx => ?_, fun x hx => ?_⟩
  · rw [h.bk] at hx
    exact madeK_free hn x hx
  · obtain ⟨k, hk⟩ := h.mem hx
    obtain ⟨h1, _, _, h4, _⟩ := hq.2 k _ hk
    exact ⟨h4.1, h4.2, h1⟩
/-- The simple scheduler sends the first. -/
theorem RunS.fifo {E E' : El} {S : List Bu} (h : RunS E S E') (hk : E.knd = 1) (hf : FreeE E) : S ++ usE E' = usE E := by
  induction h with
  | nil => rfl
  | @snoc E1 E2 S x k h hn ih =>
    have f1 := h.free hf
    have hl := (List.getElem?_eq_some_iff.1 hn.at_).1
    have hk0 : k = 0 := by
      have hc := hn.cho
      unfold choE at hc
      rw [h.same.1, hk, if_neg (by decide), if_neg (by decide)] at hc
      have h0 : 0 < E1.en.length := by omega
      have hm : (mayE E1 9 [])[0]? = some true := mayE_at.2 ⟨E1.en[0], List.getElem?_eq_getElem h0, f1.pay (List.getElem_mem h0), blkQ_first h0⟩
      cases hl : mayE E1 9 [] with
      | nil => rw [hl] at hm; cases hm
      | cons b l =>
        rw [hl] at hm hc
        have hb : b = true := by simpa using hm
        subst hb
        injection hc with hc
        exact hc.symm
    subst hk0
    have e1 : usE E1 = x.u :: usE E2 := by
      unfold usE
      rw [hn.en]
      have h1 := hn.at_
      cases he : E1.en with
      | nil => rw [he] at h1; cases h1
      | cons y l =>
        rw [he] at h1
        have h2 : y = x := by simpa using h1
        subst h2; rfl
    rw [← ih, e1]
    simp
theorem pln_ids {Q : List Bu} (hq : PlnQ Q) : ∀ m ≤ Q.length, (Q.take m).flatMap idsU = (List.range m).map fun (k : Nat) => (k : Int)
  | 0, _ => rfl
  | m + 1, hm => by
    have hb : Q[m]? = some (Q[m]'(by omega)) := List.getElem?_eq_getElem (by omega)
    rw [take_ids hb, pln_ids hq m (by omega), List.range_succ, List.map_append, (hq.2 m _ hb).2.2.1]
    rfl
theorem InRow.setRow_other {b o : Nat} {cs : List Value} : ∀ (vs : List Value) {w : World} {B i : Nat}, InRow w b o cs → b ≠ B → InRow (Proofs.Ytpgjbocjhconoaa.setRow w B i vs) b o cs
  | [], _, _, _, h, _ => h
  | v :: vs, _, _, _, h, hne => InRow.setRow_other vs ⟨fun j u hu => (World.cell?_setCell_other _ _ _ _ (fun e => hne (by injection e with h1; exact h1.symm))).trans (h.all j u hu)⟩ hne

set_option maxRecDepth 100000 in
set_option maxHeartbeats 16000000 in
theorem elevatorFirst_walk (v : Value) (zs : List Int) (w : World) (hz : Ints w v zs) :
    Calls Try.prog 7 #[v] w fun e w' => e = .returned (.bool true) ∧ Bel w w' := by
  have HPL := Lib.hid (fun w' (h : Bel w w') => plainN_any v zs 4 w' (hz.bel h) (by omega) (by omega))
  have HMD := Lib.hid (fun W => made_E 4 1 W ⟨by omega, by omega⟩ rfl)
  obtain ⟨E0, HE0⟩ : ∃ E, Hid (madeE 4 1 = E) := ⟨_, rfl⟩
  rw [HE0.out] at HMD
  have HST : Hid (∀ Q, PlnI 4 1 Q 0 E0) := fun Q => by rw [← HE0.out]; exact PlnI.start 4 1 Q
  have HEN0 : Hid (E0.en = []) := by show _ = _; rw [← HE0.out]; rfl
  clear hz
  go_enter Try.func7, Try.ntmps7
  go_wp2_with fail
  refine (HMD.out _).mono ?_; rintro e w2 ⟨fl1, bu1, en1, rfl, hEN, hb2⟩
  obtain ⟨A4, c4, rfl⟩ := own_slice hEN.flo
  obtain ⟨A5, c5, rfl⟩ := own_slice hEN.buo
  obtain ⟨A6, c6, hv6⟩ := own_slice hEN.eno.bo.own
  subst hv6
  obtain ⟨X, HX0⟩ : ∃ X, Hid (w2.heap.size = X) := ⟨_, rfl⟩
  have hwX : w.heap.size ≤ X := by rw [← HX0.out]; exact hb2.size
  have hX := AtF.new_at (w := w2) HX0.out.symm 31 [.int .i64 E0.knd, .int .i64 E0.rdE, .int .i64 E0.wrE, .int .i64 E0.vt, .slice A4 E0.fl.length c4, .slice A5 E0.bk.length c5, .slice A6 0 c6, .int .i64 E0.hd]
  have hbn : Bel w2 (w2.alloc (.cells [.int .i64 E0.knd, .int .i64 E0.rdE, .int .i64 E0.wrE, .int .i64 E0.vt, .slice A4 E0.fl.length c4, .slice A5 E0.bk.length c5, .slice A6 0 c6, .int .i64 E0.hd].toArray 31)) := (by repeat (first | (with_reducible exact Bel.refl _) | (with_reducible assumption) | (with_reducible refine Bel.drewN ?_ _) | (with_reducible refine Bel.drew ?_) | (with_reducible refine Bel.alloc ?_ _) | (with_reducible refine Bel.setNew ?_ ?_ _) | (with_reducible refine Bel.trans ?_ (by assumption)) | (focus (simp; done)) | (focus (simp; omega))))
  have hEN2 := hEN.keep hbn
  have HOF : Hid (Off X (.slice A4 E0.fl.length c4) (.slice A5 E0.bk.length c5) (.slice A6 0 c6) []) := hEN.newOff (by rw [HX0.out]; exact Nat.le_refl _)
  have hb3 := hb2.trans hbn
  simp only [List.toArray] at hX hEN2 hb3
  go_upto_region 2 with fail
  rw [HX0.out]
  generalize hW2 : w2.alloc _ = W2 at *
  clear hW2 hbn hEN hb2
  go_wp2_with fail
  refine (HPL.out _ hb3).mono ?_; rintro e w3 ⟨U, LB, rfl, hLB, hBN, hb4⟩
  have hXl := hX.1.1
  have hX3 := hX.bel hb4
  have hEN3 := hEN2.keep hb4
  have hBN3 := hBN.mono (base' := X + 1) (by omega)
  have hb34 := hb3.trans hb4
  clear hX hEN2 hBN hb3 hb4 hXl
  obtain ⟨Q, HQ⟩ : ∃ Q, Hid (LB.map BM.bu = Q) := ⟨_, rfl⟩
  have HPQ : Hid (PlnQ Q) := by show PlnQ Q; rw [← HQ.out]; exact plain_q hLB (by omega) (by omega)
  have HLB := Lib.hid hLB
  obtain ⟨Au, cu, huv⟩ := own_slice hBN3.bo.own
  subst huv
  obtain ⟨nb, Hnb⟩ : ∃ k, Hid (LB.length = k) := ⟨_, rfl⟩
  have hn8 : nb ≤ 24 := by rw [← Hnb.out, hLB.1]; omega
  have HQL : Hid (Q.length = nb) := by show _ = _; rw [← HQ.out, List.length_map]; exact Hnb.out
  rw [Hnb.out] at hBN3 ⊢
  clear hLB
  go_wp2_with fail
  have HS0 := Lib.hid (And.intro hX3 (And.intro hEN3 (And.intro hBN3 hb34)))
  go_loopw [4, 6] (fun okv iv wr => ∃ (i : Nat) (E : El) (fl bu en : Value) (L : List QM), okv = .bool true ∧ iv = .int .i64 i ∧ i ≤ nb ∧ Hid (PlnI 4 1 Q i E) ∧ AtF wr X [.int .i64 E.knd, .int .i64 E.rdE, .int .i64 E.wrE, .int .i64 E.vt, fl, bu, en, .int .i64 E.hd] ∧ ElN wr w.heap.size fl bu en E.fl E.bk L ∧ Hid (Off X fl bu en L) ∧ Hid (L.map QM.qu = E.en) ∧ BN wr (X + 1) (.slice Au nb cu) LB ∧ Bel w wr ∧ X < wr.heap.size) (fun _ iv _ => nb - (intOf iv).toNat)
  case atStart => exact ⟨0, E0, .slice A4 E0.fl.length c4, .slice A5 E0.bk.length c5, .slice A6 0 c6, [], rfl, rfl, by omega, HST.out Q, hX3, hEN3, HOF, HEN0.out.symm, hBN3, hb34, hX3.1.1⟩
  case round =>
    clear hX3 hEN3 hBN3 hb34 HS0 HOF
    obtain ⟨i, E, fl, bu, en, L, rfl, rfl, p1, HF, hX, hEN, HOF, HL, hBN, hbr, hXW⟩ := hrel
    obtain ⟨W4, rfl⟩ : ∃ X, X = wr := ⟨_, rfl⟩
    obtain ⟨A1, c1, rfl⟩ := own_slice hEN.flo
    obtain ⟨A2, c2, rfl⟩ := own_slice hEN.buo
    obtain ⟨A3, c3, hv3⟩ := own_slice hEN.eno.bo.own
    subst hv3
    by_cases hlt : i < nb
    · have hin : (i : Int) < (nb : Int) := by omega
      obtain ⟨x, hx⟩ : ∃ x, LB[i]? = some x := ⟨LB[i]'(by have := Hnb.out; omega), List.getElem?_eq_getElem _⟩
      obtain ⟨g, o, c9, hat⟩ := hBN.bo.bl.at hx
      have hQx : Q[i]? = some x.bu := by rw [← HQ.out, List.getElem?_map, hx]; rfl
      obtain ⟨hs1, hs2⟩ := HF.out.step HPQ.out hQx
      have HF2 := Lib.hid hs2
      have HOK := Lib.hid (HF.out.ok HPQ.out)
      have hml : x.ms.length ≤ 1000 := by have := (HPQ.out.2 i _ hQx).2.2.2.2.2; have e : x.bu.ms = x.ms := rfl; rw [e] at this; omega
      have hfo := hat.form
      injection hfo with h1 h2 h3
      subst h1
      have hrow := hat.row
      have hmx := hat.mem
      have gl : g < W4.heap.size := hat.lt
      have gX : X < g := (hBN.bo.own.lt g rfl).1
      have HAD : Hid (∀ W, Bel W4 W → _) := fun W hb => elAdd_E 1 0 E _ _ _ L x W _ (hEN.keep hb) HL.out HOK.out (hmx.bel hb) hml
      rw [hs1] at HAD
      have HSM := Lib.hid (addE_same 1 0 E x.bu)
      obtain ⟨E', HE'⟩ : ∃ E', Hid (addE 1 0 E x.bu = E') := ⟨_, rfl⟩
      obtain ⟨E', b'⟩ := E'
      rw [HE'.out] at HAD HSM HF2
      simp only at HAD HSM HF2
      have HXI := Lib.hid hx
      clear hs1 hs2 hx hQx h2 h3 hat HE'
      obtain ⟨⟨i1, t1, kd1, s1, n1, d1, f1, a1, l1, c3', m3⟩, ms1⟩ := x
      simp only at hrow HAD
      let FIS : World → Prop := fun W' => InRow W' g (o + i * 9) [.int .i64 i1, .int .i64 t1, .int .i64 kd1, .int .i64 s1, .int .i64 n1, .string d1, .bool f1, .slice a1 l1 c3', .int .i64 m3]
      have hr0 : FIS W4 := hrow
      haveI nnS : Nonempty (InS FIS) := ⟨⟨W4, hr0⟩⟩
      have s0 := fun (p : InS FIS) => InRow.cell p.h 0 rfl
      have s1' := fun (p : InS FIS) => InRow.cell p.h 1 rfl
      have s2 := fun (p : InS FIS) => InRow.cell p.h 2 rfl
      have s3 := fun (p : InS FIS) => InRow.cell p.h 3 rfl
      have s4 := fun (p : InS FIS) => InRow.cell p.h 4 rfl
      have s5 := fun (p : InS FIS) => InRow.cell p.h 5 rfl
      have s6 := fun (p : InS FIS) => InRow.cell p.h 6 rfl
      have s7 := fun (p : InS FIS) => InRow.cell p.h 7 rfl
      have s8 := fun (p : InS FIS) => InRow.cell p.h 8 rfl
      simp only [Nat.add_zero] at s0
      go_upto_region 6 with fail
      refine wp_region_sts FIS [1, 6, 10] 11 (by kernel_rfl) (by kernel_rfl) ?hS0 ?_
      case hS0 => exact hrow.bel (Bel.drew (Bel.refl W4)) gl
      with_reducible refine st_sel [0, 2, 3, 4, 5] (by kernel_rfl) (by kernel_rfl) ?_
      simp only [picked, List.getElem?_cons_succ, List.getElem?_cons_zero, Option.toList_some, List.nil_append, List.cons_append, List.append_nil]
      try simp only [Act.put, List.setIfInBounds_toArray, List.set_cons_succ, List.set_cons_zero]
      repeat (go_big_quiet_step (fail))
      with_reducible refine wpQuiet_nil ?_
      refine st_branch [1] (by kernel_rfl) (branch_cons (by simp only [List.getElem?_toArray, List.getElem?_cons_succ, List.getElem?_cons_zero]; rfl) ?_ branch_nil)
      refine eff_made_s rfl (exec_load_off (W := W4.drew) 31 _ rfl rfl (fun j v h => by rw [Nat.zero_add]; exact hX.drew.1.2 j v h) _ Try.underlying31 rfl (by kernel_rfl)) ?_ ?_
      · exact hrow.bel (Bel.drew (Bel.refl W4)) gl
      try simp only [List.nil_append, List.cons_append, Act.put, List.setIfInBounds_toArray, List.set_cons_succ, List.set_cons_zero]
      refine st_branch [6] (by kernel_rfl) (branch_cons (by simp only [List.getElem?_toArray, List.getElem?_cons_succ, List.getElem?_cons_zero]; rfl) ?_ branch_nil)
      refine eff_call_s 19 rfl (by simp [go_sem]; rfl) (hrow.bel (Bel.drew (Bel.refl W4)) gl) ?_
      refine (HAD.out _ (by repeat (first | (with_reducible exact Bel.refl _) | (with_reducible assumption) | (with_reducible refine Bel.drewN ?_ _) | (with_reducible refine Bel.drew ?_) | (with_reducible refine Bel.alloc ?_ _) | (with_reducible refine Bel.setNew ?_ ?_ _) | (with_reducible refine Bel.trans ?_ (by assumption)) | (focus (simp; done)) | (focus (simp; omega))))).mono ?_; rintro e w6 ⟨fl', bu', en', L2, rfl, hE6, hL6, hb6⟩
      obtain ⟨A7, c7, rfl⟩ := own_slice hE6.flo
      obtain ⟨A8, c8, rfl⟩ := own_slice hE6.buo
      obtain ⟨A9, c9', hv9⟩ := own_slice hE6.eno.bo.own
      subst hv9
      have hb46 : Bel W4 w6 := (Bel.drew (Bel.refl W4)).trans hb6
      have hr6 : FIS w6 := hrow.bel hb46 gl
      refine ⟨_, rfl, hr6, ?_⟩
      try simp only [List.nil_append, List.cons_append, Act.put, List.setIfInBounds_toArray, List.set_cons_succ, List.set_cons_zero]
      with_reducible refine st_sel [7, 8, 9] (by kernel_rfl) (by kernel_rfl) ?_
      simp only [picked, List.getElem?_cons_succ, List.getElem?_cons_zero, Option.toList_some, List.nil_append, List.cons_append, List.append_nil]
      try simp only [Act.put, List.setIfInBounds_toArray, List.set_cons_succ, List.set_cons_zero]
      repeat (go_big_quiet_step (fail))
      with_reducible refine wpQuiet_nil ?_
      refine st_branch [10] (by kernel_rfl) (branch_cons (by simp only [List.getElem?_toArray, List.getElem?_cons_succ, List.getElem?_cons_zero]; rfl) ?_ branch_nil)
      have one8 : ∀ u ∈ ([.int .i64 E.knd, .int .i64 E.rdE, .int .i64 E.wrE, .int .i64 E.vt, .slice A7 E'.fl.length c7, .slice A8 E.bk.length c8, .slice A9 L2.length c9', .int .i64 E.hd] : List Value), u.oneCell' = true := fun u hu => by
        simp only [List.mem_cons, List.not_mem_nil, or_false] at hu
        rcases hu with rfl | rfl | rfl | rfl | rfl | rfl | rfl | rfl <;> rfl
      have hX6 := hX.bel hb46
      have hs6 := hb46.size
      have hs46 := hb6.size
      simp only [World.size_drew] at hs46
      have hX9 := hX6.setRow [.int .i64 E.knd, .int .i64 E.rdE, .int .i64 E.wrE, .int .i64 E.vt, .slice A7 E'.fl.length c7, .slice A8 E.bk.length c8, .slice A9 L2.length c9', .int .i64 E.hd] rfl
      have hE9 := (ElN.setRow (B := X) (i := 0) [.int .i64 E.knd, .int .i64 E.rdE, .int .i64 E.wrE, .int .i64 E.vt, .slice A7 E'.fl.length c7, .slice A8 E.bk.length c8, .slice A9 L2.length c9', .int .i64 E.hd] hE6 (by simp; omega))
      have hBN9 := BN.setRow (B := X) (i := 0) [.int .i64 E.knd, .int .i64 E.rdE, .int .i64 E.wrE, .int .i64 E.vt, .slice A7 E'.fl.length c7, .slice A8 E.bk.length c8, .slice A9 L2.length c9', .int .i64 E.hd] (hBN.keep hb46) (by omega)
      have hb9 := Bel.setRow (B := X) (i := 0) [.int .i64 E.knd, .int .i64 E.rdE, .int .i64 E.wrE, .int .i64 E.vt, .slice A7 E'.fl.length c7, .slice A8 E.bk.length c8, .slice A9 L2.length c9', .int .i64 E.hd] (hbr.trans hb46) (by omega)
      have hr9 : FIS (setRow w6 X 0 [.int .i64 E.knd, .int .i64 E.rdE, .int .i64 E.wrE, .int .i64 E.vt, .slice A7 E'.fl.length c7, .slice A8 E.bk.length c8, .slice A9 L2.length c9', .int .i64 E.hd]) := InRow.setRow_other _ hr6 (by omega)
      with_reducible refine eff_done_s (w' := setRow w6 X 0 [.int .i64 E.knd, .int .i64 E.rdE, .int .i64 E.wrE, .int .i64 E.vt, .slice A7 E'.fl.length c7, .slice A8 E.bk.length c8, .slice A9 L2.length c9', .int .i64 E.hd]) ?_ ?_ ?_ ?_
      · rfl
      · exact exec_store_at (vs := [.int .i64 E.knd, .int .i64 E.rdE, .int .i64 E.wrE, .int .i64 E.vt, .slice A7 E'.fl.length c7, .slice A8 E.bk.length c8, .slice A9 L2.length c9', .int .i64 E.hd]) 31 _ _ rfl rfl rfl hX6 rfl one8 (by kernel_rfl)
      · exact hr9
      try simp only [List.nil_append, List.cons_append, Act.put, List.setIfInBounds_toArray, List.set_cons_succ, List.set_cons_zero]
      refine st_end (by kernel_rfl) ?_
      simp only [List.drop_succ_cons, List.drop_zero, List.drop_nil]
      have HL6 := Lib.hid hL6
      have hE9l := hE9.offLow (N := X) (by simp; omega)
      have hE9m := hE9.mono (base' := w.heap.size) (by simp; omega)
      have hX9l := hX9.1.1
      clear hX hEN hBN hbr hrow hr0 hr6 hr9 hX6 hE6 hL6 hb6 hE9 one8 s0 s1' s2 s3 s4 s5 s6 s7 s8 nnS hmx hb46 HAD
      generalize setRow w6 X 0 [.int .i64 E.knd, .int .i64 E.rdE, .int .i64 E.wrE, .int .i64 E.vt, .slice A7 E'.fl.length c7, .slice A8 E.bk.length c8, .slice A9 L2.length c9', .int .i64 E.hd] = W9 at *
      have HXX := Lib.hid (And.intro hX9 (And.intro hE9l (And.intro hE9m (And.intro hBN9 (And.intro hb9 hX9l)))))
      clear hX9 hE9l hE9m hBN9 hb9 hX9l
      go_wp2
      obtain ⟨x1, x2, x3, x4, x5, x6⟩ := HXX.out
      go_roundw
      case rel =>
        obtain ⟨q1, q2, q3, q4, q5, q6⟩ := HSM.out
        refine ⟨i + 1, E', .slice A7 E'.fl.length c7, .slice A8 E.bk.length c8, .slice A9 L2.length c9', L2, rfl, by go_num, by omega, HF2.out, ?_, ?_, x2, HL6.out, x4, x5, x6⟩
        · rw [q1, q2, q3, q4, q6]; exact x1
        · rw [q5]; exact x3
      case measure => simp [intOf]; omega
    · obtain rfl : i = nb := by omega
      have jk : decide ((i : Int) < (i : Int)) = false := by simp
      have hok := HF.out.ok HPQ.out
      have hfr := HF.out.free HPQ.out (by decide)
      have HDR := Lib.hid (fun W (hb : Bel W4 W) => drained_any E _ _ _ L W w.heap.size (hEN.keep hb) HL.out hok hfr (by have := hb.size; have := hbr.size; omega))
      clear hok hfr
      have k0 := (hX).1.2 0 _ rfl
      have k1 := (hX).1.2 1 _ rfl
      have k2 := (hX).1.2 2 _ rfl
      have k3 := (hX).1.2 3 _ rfl
      have k4 := (hX).1.2 4 _ rfl
      have k5 := (hX).1.2 5 _ rfl
      have k6 := (hX).1.2 6 _ rfl
      have k7 := (hX).1.2 7 _ rfl
      have kl := hX.1.1
      go_wp2_with fail
      refine (HDR.out _ (by repeat (first | (with_reducible exact Bel.refl _) | (with_reducible assumption) | (with_reducible refine Bel.drewN ?_ _) | (with_reducible refine Bel.drew ?_) | (with_reducible refine Bel.alloc ?_ _) | (with_reducible refine Bel.setNew ?_ ?_ _) | (with_reducible refine Bel.trans ?_ (by assumption)) | (focus (simp; done)) | (focus (simp; omega))))).mono ?_; rintro e w6 ⟨S, E', ov, rfl, hRN, hE0, how, hb6⟩
      have hS : S = Q := by
        have h1 := hRN.fifo HF.out.knd (HF.out.free HPQ.out (by decide))
        have h2 : usE E' = [] := by unfold usE; rw [hE0]; rfl
        rw [h2, List.append_nil, HF.out.us, List.take_of_length_le (by rw [HQL.out]; exact Nat.le_refl _)] at h1
        exact h1
      have hids : S.flatMap idsU = (List.range i).map fun (k : Nat) => (k : Int) := by
        have h1 := pln_ids HPQ.out i (by rw [HQL.out]; exact Nat.le_refl _)
        rw [List.take_of_length_le (by rw [HQL.out]; exact Nat.le_refl _)] at h1
        rw [hS]; exact h1
      rw [hids, List.length_map, List.length_range] at how
      obtain ⟨Ao, co, rfl⟩ := own_slice how
      have hrd := Rd.own how
      have hBN6 := hBN.keep hb6
      have hb46 := hbr.trans hb6
      clear k0 k1 k2 k3 k4 k5 k6 k7 kl hX hEN hBN hbr HDR hRN how hb6 hids
      have HX6 := Lib.hid (And.intro hrd (And.intro hBN6 hb46))
      obtain ⟨W6, rfl⟩ : ∃ X, X = w6 := ⟨_, rfl⟩
      clear hrd hBN6 hb46 hXW
      have HS9 : Hid (∀ j < i, ∃ x, LB[j]? = some x ∧ x.b.id = (j : Int)) := fun j hj => by
        have hl := Hnb.out
        refine ⟨LB[j]'(by omega), List.getElem?_eq_getElem _, ?_⟩
        exact (HLB.out.2 j _ (List.getElem?_eq_getElem (by omega))).id
      go_wp2
      go_loopw [9] (fun jv wr => ∃ j : Nat, jv = .int .i64 j ∧ j ≤ i ∧ Bel W6 wr) (fun jv _ => i - (intOf jv).toNat)
      case atStart => exact ⟨0, rfl, by omega, Bel.refl _⟩
      case round =>
        obtain ⟨j, rfl, r1, hbj⟩ := hrel
        obtain ⟨W7, rfl⟩ : ∃ X, X = wr := ⟨_, rfl⟩
        obtain ⟨hrd, hBN6, hb46⟩ := HX6.out
        by_cases hjl : j < i
        · have hjn : (j : Int) < (i : Int) := by omega
          have HJL := Lib.hid hjl
          obtain ⟨x, hx, hid⟩ := HS9.out j hjl
          obtain ⟨g, o, c9, hat⟩ := (hBN6.keep hbj).bo.bl.at hx
          have hfo := hat.form
          injection hfo with h1 h2 h3
          subst h1
          have q0 := hat.row.cell 0 rfl
          rw [Nat.add_zero, hid] at q0
          obtain ⟨go, oo, c8, hfo2, hgo, hco⟩ := (hrd.bel hbj).at (by omega)
          injection hfo2 with h4 h5 h6
          subst h4
          have p0 := hco j (.int .i64 (j : Int)) (by unfold intC; rw [List.getElem?_map, List.getElem?_map, List.getElem?_range hjl]; rfl)
          have hgl := hat.lt
          have rq0 := fun d os => cell_regrown q0 d os
          have rp0 := fun d os => cell_regrown p0 d os
          clear hx hid hat hco h2 h3 h5 h6
          go_upto_region 13 with fail
          refine wp_region_lex [] 10 (by kernel_rfl) (by kernel_rfl) ?_
          simp only [List.take_succ_cons, List.take_zero, List.drop_succ_cons, List.drop_zero]
          with_reducible refine lex_seg 10 _ _ _ _ (by kernel_rfl) ?_
          simp only [List.take_succ_cons, List.take_zero, List.drop_succ_cons, List.drop_zero]
          try simp only [Act.put, List.setIfInBounds_toArray, List.set_cons_succ, List.set_cons_zero]
          repeat (go_big_quiet_step (fail))
          with_reducible refine wpQuiet_nil ?_
          with_reducible refine lex_nil ?_
          clear rq0 rp0 q0 p0
          have hbd : Bel W6 W7.drew := hbj.drew
          go_wp2
          go_roundw
          case rel => exact ⟨j + 1, by go_num, HJL.out, hbd⟩
          case measure => have := HJL.out; simp [intOf]; omega
        · obtain rfl : j = i := by omega
          have jk : decide ((j : Int) < (j : Int)) = false := by simp
          have hbf := hb46.trans hbj
          go_wp2_with fail
          refine (awake33_any _).mono ?_; rintro e w9 ⟨rfl, hbz⟩
          go_wp2
          go_ret
          exact ⟨rfl, (by repeat (first | (with_reducible exact Bel.refl _) | (with_reducible assumption) | (with_reducible refine Bel.drewN ?_ _) | (with_reducible refine Bel.drew ?_) | (with_reducible refine Bel.alloc ?_ _) | (with_reducible refine Bel.setNew ?_ ?_ _) | (with_reducible refine Bel.trans ?_ (by assumption)) | (focus (simp; done)) | (focus (simp; omega))))⟩
end Go.Proofs.Ytpgjbocjhconoaa
