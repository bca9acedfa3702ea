/- The law's filled: a scheduler with bunches. -/
import Derived.Test.YtpgjbocjhconoaaK11
import Derived.Test.YtpgjbocjhconoaaBnsN
namespace Go.Proofs.Ytpgjbocjhconoaa
open Go.RowKit Go.Maps
set_option linter.unusedSimpArgs false

theorem bns_ten {zs : List Int} {m k : Nat} {L : List BM} {x : BM} (h : BnsOk zs m L) (hk : L[k]? = some x) : 0 ≤ x.bu.ten ∧ x.bu.ten < 4 := by
  obtain ⟨z, A, _, rfl⟩ := h.2 k x hk
  have h1 := rnd_lo z 3
  have h2 := rnd_hi z 3 (by omega)
  show 0 ≤ rnd z 3 ∧ rnd z 3 < 4
  omega
/-- A scheduler behind m bunches of Q. -/
structure FilI (n knd : Int) (Q : List Bu) (m : Nat) (E : El) : Prop where
  knd : E.knd = knd
  rd : E.rdE = rnd (n / 8) 20
  wr : E.wrE = rnd (n / 64) 40
  bk : E.bk = madeK n
  vt : E.vt = 0
  hd : E.hd = 0
  fl : F4 (2520 * (m : Int)) 0 E.fl
  sch : SchS Q m (usE E)
theorem FilI.start (n knd : Int) (Q : List Bu) : FilI n knd Q 0 (madeE n knd) := ⟨rfl, rfl, rfl, rfl, rfl, rfl, madeF_f4 n, SchS.nil Q⟩
theorem FilI.step {n knd M B : Int} {Q : List Bu} (hq : DkQ Q) {m : Nat} {E : El} {b : Bu} (h : FilI n knd Q m E) (hb : Q[m]? = some b) (ht : 0 ≤ b.ten ∧ b.ten < 4) : (addE M B E b).2 = true ∧ FilI n knd Q (m + 1) (addE M B E b).1 ∧ AddS M B E b (addE M B E b).1 := by
  have hd := hq.2 m b hb
  have hm := (List.getElem?_eq_some_iff.1 hb).1
  have h8 := hq.1
  obtain ⟨E', h1, h2, h3⟩ := addE_step (M := M) (B := B) (E := E) hd.ok ht.1 ht.2 hd.cnt (by rw [h.vt]; exact h.fl) (by omega)
  rw [h1]
  refine ⟨rfl, ⟨h3.knd.trans h.knd, h3.rd.trans h.rd, h3.wr.trans h.wr, h3.bk.trans h.bk, h3.vt.trans h.vt, h3.hd.trans h.hd, ?_, ?_⟩, h3⟩
  · have e := h3.vt.trans h.vt
    rw [e] at h2
    have e2 : 2520 * ((m + 1 : Nat) : Int) = 2520 * (m : Int) + 2520 := by omega
    rw [e2]; exact h2
  · have := sch_add hq (S := []) (by simpa using h.sch) hb ht h3
    simpa using this
theorem FilI.ok {n knd : Int} {Q : List Bu} {m : Nat} {E : El} (h : FilI n knd Q m E) (hm : m ≤ 8) : OkE E := by
  refine ⟨h.fl.len, by rw [h.bk, madeK_len], ?_, fun x hx => ?_⟩
  · have h1 := h.sch.len
    have e : (usE E).length = E.en.length := by unfold usE; rw [List.length_map]
    omega
  · exact (h.sch.each x.u (List.mem_map_of_mem hx)).ok
theorem ElN.offLow {w : World} {base : Nat} {fl bu en : Value} {fs : List (Int × Int)} {bs : List Bk} {L : List QM} (h : ElN w base fl bu en fs bs L) {N : Nat} (hN : N < base) : Off N fl bu en L :=
  ⟨own_ne h.flo (.inl hN), own_ne h.buo (.inl hN), own_ne h.eno.bo.own (.inl hN), fun x hx h0 e => by
    obtain ⟨j, hj⟩ := List.getElem?_of_mem hx
    have := h.eno.fr j x (List.getElem?_eq_some_iff.1 hj).1 hj h0 N e
    omega⟩
/-- How many members the first bunches have. -/
def memN (L : List BM) (m : Nat) : Int := (((L.take m).map fun x => x.ms.length).sum : Nat)
theorem memN_succ {L : List BM} {m : Nat} {x : BM} (h : L[m]? = some x) : memN L (m + 1) = memN L m + x.ms.length := by
  unfold memN
  rw [List.take_add_one, h]
  simp
theorem bns_ms {zs : List Int} {m k : Nat} {L : List BM} {x : BM} (h : BnsOk zs m L) (hk : L[k]? = some x) : x.ms.length ≤ 2 := by
  obtain ⟨z, A, _, rfl⟩ := h.2 k x hk
  show (bnM z k).length ≤ 2
  unfold bnM
  split <;> simp
theorem memN_le {zs : List Int} {m : Nat} {L : List BM} (h : BnsOk zs m L) : ∀ j, memN L j ≤ 2 * (j : Int) ∧ 0 ≤ memN L j
  | 0 => by simp [memN]
  | j + 1 => by
    have ih := memN_le h j
    cases hx : L[j]? with
    | none =>
      have e : memN L (j + 1) = memN L j := by
        unfold memN
        rw [List.take_add_one, hx]; simp
      omega
    | some x =>
      rw [memN_succ hx]
      have := bns_ms h hx
      omega

set_option maxRecDepth 100000 in
set_option maxHeartbeats 16000000 in
theorem filled_any (n kind lim : Int) (v : Value) (zs : List Int) (w : World) (hn : IsInt n) (hz : Ints w v zs) :
    Calls Try.prog 20 #[.int .i64 n, .int .i64 kind, .int .i64 lim, v] w fun e w' => ∃ E fl bu en L LB, e = .returned (.tuple #[.agg #[.int .i64 E.knd, .int .i64 E.rdE, .int .i64 E.wrE, .int .i64 E.vt, fl, bu, en, .int .i64 E.hd], .int .i64 (memN LB LB.length), .bool true]) ∧
      ElN w' w.heap.size fl bu en E.fl E.bk L ∧ L.map QM.qu = E.en ∧ BnsOk zs (min zs.length 8) LB ∧ FilI n (1 + rnd kind 3) (LB.map BM.bu) LB.length E ∧ Bel w w' := by
  have HBN := Lib.hid (fun w' (h : Bel w w') => bunchesN_any v zs w' (hz.bel h))
  have hq1 := rnd_lo kind 3
  have hq2 := rnd_hi kind 3 (by omega)
  obtain ⟨rk, HRK⟩ : ∃ r, Hid (rnd kind 3 = r) := ⟨_, rfl⟩
  rw [HRK.out] at hq1 hq2 ⊢
  have ek : IntKind.i64.wrap (1 + rk) = 1 + rk := IntWalk.i64_in _ (by omega)
  have HMD := Lib.hid (fun W => made_E n (1 + rk) W hn (by unfold kindOk; rw [decide_eq_true_eq]; omega))
  obtain ⟨E0, HE0⟩ : ∃ E, Hid (madeE n (1 + rk) = E) := ⟨_, rfl⟩
  rw [HE0.out] at HMD
  have HST : Hid (∀ Q, FilI n (1 + rk) Q 0 E0) := fun Q => by rw [← HE0.out]; exact FilI.start n _ Q
  have HLM := Lib.hid (fun W => limits_any lim W)
  obtain ⟨M, HM⟩ : ∃ M, Hid (M = 1 + rnd lim 6) := ⟨_, rfl⟩
  obtain ⟨B, HB⟩ : ∃ B, Hid (B = bound lim) := ⟨_, rfl⟩
  rw [← HM.out, ← HB.out] at HLM
  clear hz
  go_enter Try.func20, Try.ntmps20
  go_wp2_with fail
  refine (round_any kind 3 _ (by omega)).mono ?_; rw [HRK.out]; rintro e w1 ⟨rfl, rfl⟩
  go_wp2_with fail
  refine (HMD.out _).mono ?_; rintro e w2 ⟨fl1, bu1, en1, rfl, hEN, hb2⟩
  obtain ⟨A4, c4, rfl⟩ := own_slice hEN.flo
  obtain ⟨A5, c5, rfl⟩ := own_slice hEN.buo
  obtain ⟨A6, c6, hv6⟩ := own_slice hEN.eno.bo.own
  subst hv6
  obtain ⟨X, HX0⟩ : ∃ X, Hid (w2.heap.size = X) := ⟨_, rfl⟩
  have hwX : w.heap.size < X := by rw [← HX0.out]; have := hb2.size; simp only [World.size_alloc] at this; omega
  have hR := ((AtF.new_at (w := w) rfl 31 [.int .i64 0, .int .i64 0, .int .i64 0, .int .i64 0, .slice none 0 0, .slice none 0 0, .slice none 0 0, .int .i64 0]).bel hb2).alloc (.cells [.int .i64 E0.knd, .int .i64 E0.rdE, .int .i64 E0.wrE, .int .i64 E0.vt, .slice A4 E0.fl.length c4, .slice A5 E0.bk.length c5, .slice A6 0 c6, .int .i64 E0.hd].toArray 31)
  have hX := AtF.new_at (w := w2) HX0.out.symm 31 [.int .i64 E0.knd, .int .i64 E0.rdE, .int .i64 E0.wrE, .int .i64 E0.vt, .slice A4 E0.fl.length c4, .slice A5 E0.bk.length c5, .slice A6 0 c6, .int .i64 E0.hd]
  have hbn : Bel w2 (w2.alloc (.cells [.int .i64 E0.knd, .int .i64 E0.rdE, .int .i64 E0.wrE, .int .i64 E0.vt, .slice A4 E0.fl.length c4, .slice A5 E0.bk.length c5, .slice A6 0 c6, .int .i64 E0.hd].toArray 31)) := (by repeat (first | (with_reducible exact Bel.refl _) | (with_reducible assumption) | (with_reducible refine Bel.drewN ?_ _) | (with_reducible refine Bel.drew ?_) | (with_reducible refine Bel.alloc ?_ _) | (with_reducible refine Bel.setNew ?_ ?_ _) | (with_reducible refine Bel.trans ?_ (by assumption)) | (focus (simp; done)) | (focus (simp; omega))))
  have hEN2 := (hEN.keep hbn).mono (base' := w.heap.size + 1) (by simp)
  have hOF : Off X (.slice A4 E0.fl.length c4) (.slice A5 E0.bk.length c5) (.slice A6 0 c6) [] := hEN.newOff (by rw [HX0.out]; exact Nat.le_refl _)
  have hb3 : Bel w (w2.alloc (.cells [.int .i64 E0.knd, .int .i64 E0.rdE, .int .i64 E0.wrE, .int .i64 E0.vt, .slice A4 E0.fl.length c4, .slice A5 E0.bk.length c5, .slice A6 0 c6, .int .i64 E0.hd].toArray 31)) := (by repeat (first | (with_reducible exact Bel.refl _) | (with_reducible assumption) | (with_reducible refine Bel.drewN ?_ _) | (with_reducible refine Bel.drew ?_) | (with_reducible refine Bel.alloc ?_ _) | (with_reducible refine Bel.setNew ?_ ?_ _) | (with_reducible refine Bel.trans ?_ (by assumption)) | (focus (simp; done)) | (focus (simp; omega))))
  simp only [List.toArray] at hR hX hEN2 hb3
  go_wp2_with fail
  rw [HX0.out]
  refine (HBN.out _ hb3).mono ?_; rintro e w3 ⟨U, LB, rfl, hLB, hBN, hb4⟩
  have hXl := hX.1.1
  have hX3 := hX.bel hb4
  have hR3 := hR.bel hb4
  have hEN3 := hEN2.keep hb4
  have hBN3 := hBN.mono (base' := X + 1) (by omega)
  have hb34 := hb3.trans hb4
  clear hX hR hEN hEN2 hBN hb2 hb3 hb4 hbn hXl
  obtain ⟨Q, HQ⟩ : ∃ Q, Hid (LB.map BM.bu = Q) := ⟨_, rfl⟩
  have HDK : Hid (DkQ Q) := by show DkQ Q; rw [← HQ.out]; exact bns_dk hLB (by omega)
  have HLB := Lib.hid hLB
  obtain ⟨Au, cu, huv⟩ := own_slice hBN3.bo.own
  subst huv
  obtain ⟨nb, Hnb⟩ : ∃ k, Hid (LB.length = k) := ⟨_, rfl⟩
  have hn8 : nb ≤ 8 := by rw [← Hnb.out, hLB.1]; omega
  rw [Hnb.out] at hBN3 ⊢
  clear hLB
  go_wp2_with fail
  have HS0 := Lib.hid (And.intro hX3 (And.intro hR3 (And.intro hEN3 (And.intro hBN3 hb34))))
  go_loopw [14, 15] (fun mv iv wr => ∃ (i : Nat) (E : El) (fl bu en : Value) (L : List QM), iv = .int .i64 i ∧ i ≤ nb ∧ mv = .int .i64 (memN LB i) ∧ Hid (FilI n (1 + rk) Q i E) ∧ AtF wr X [.int .i64 E.knd, .int .i64 E.rdE, .int .i64 E.wrE, .int .i64 E.vt, fl, bu, en, .int .i64 E.hd] ∧ AtF wr w.heap.size [.int .i64 0, .int .i64 0, .int .i64 0, .int .i64 0, .slice none 0 0, .slice none 0 0, .slice none 0 0, .int .i64 0] ∧ ElN wr (w.heap.size + 1) fl bu en E.fl E.bk L ∧ Hid (Off X fl bu en L) ∧ Hid (L.map QM.qu = E.en) ∧ BN wr (X + 1) (.slice Au nb cu) LB ∧ Bel w wr ∧ X < wr.heap.size) (fun _ iv _ => nb - (intOf iv).toNat)
  case atStart => exact ⟨0, E0, .slice A4 E0.fl.length c4, .slice A5 E0.bk.length c5, .slice A6 0 c6, [], rfl, by omega, rfl, HST.out Q, hX3, hR3, hEN3, hOF, by show [] = E0.en; rw [← HE0.out]; rfl, hBN3, hb34, hX3.1.1⟩
  case round =>
    clear hX3 hR3 hEN3 hBN3 hb34 HS0 hOF
    obtain ⟨i, E, fl, bu, en, L, rfl, p1, rfl, HF, hX, hR, hEN, HOF, HL, hBN, hbr, hXW⟩ := hrel
    obtain ⟨W4, rfl⟩ : ∃ X, X = wr := ⟨_, rfl⟩
    obtain ⟨A1, c1, rfl⟩ := own_slice hEN.flo
    obtain ⟨A2, c2, rfl⟩ := own_slice hEN.buo
    obtain ⟨A3, c3, hv3⟩ := own_slice hEN.eno.bo.own
    subst hv3
    by_cases hlt : i < nb
    · have hin : (i : Int) < (nb : Int) := by omega
      obtain ⟨x, hx⟩ : ∃ x, LB[i]? = some x := ⟨LB[i]'(by have := Hnb.out; omega), List.getElem?_eq_getElem _⟩
      obtain ⟨g, o, c9, hat⟩ := hBN.bo.bl.at hx
      have hQx : Q[i]? = some x.bu := by rw [← HQ.out, List.getElem?_map, hx]; rfl
      obtain ⟨hs1, hs2, _⟩ := HF.out.step (M := M) (B := B) HDK.out hQx (bns_ten HLB.out hx)
      have HF2 := Lib.hid hs2
      have HOK := Lib.hid (HF.out.ok (by omega))
      have hfo := hat.form
      injection hfo with h1 h2 h3
      subst h1
      have hrow := hat.row
      have hmx := hat.mem
      have HMS := Lib.hid (bns_ms HLB.out hx)
      have HXI := Lib.hid hx
      have HMN := Lib.hid (memN_succ hx)
      have hmb := memN_le HLB.out i
      have HAD : Hid (∀ W, Bel W4 W → _) := fun W hb => elAdd_E M B E _ _ _ L x W _ (hEN.keep hb) HL.out HOK.out (hmx.bel hb) (by have := HMS.out; omega)
      rw [hs1] at HAD
      have HSM := Lib.hid (addE_same M B E x.bu)
      obtain ⟨E', HE'⟩ : ∃ E', Hid (addE M B E x.bu = E') := ⟨_, rfl⟩
      obtain ⟨E', b'⟩ := E'
      rw [HE'.out] at HAD HSM HF2
      simp only at HAD HSM HF2
      clear hs1 hs2 hx hQx h2 h3 hat HE'
      go_upto_region 7 with fail
      go_cut [16, 17] (fun xv kv wx => ∃ (Y : Nat) (fl' bu' en' : Value) (L2 : List QM), xv = .pointer (some ⟨Y, 0, none⟩) ∧ kv = .bool true ∧ AtF wx Y [.int .i64 E.knd, .int .i64 E.rdE, .int .i64 E.wrE, .int .i64 E.vt, fl', bu', en', .int .i64 E.hd] ∧ ElN wx W4.heap.size fl' bu' en' E'.fl E.bk L2 ∧ L2.map QM.qu = E'.en ∧ Bel W4 wx)
      case first =>
        have k0 := (hX).1.2 0 _ rfl
        have k1 := (hX).1.2 1 _ rfl
        have k2 := (hX).1.2 2 _ rfl
        have k3 := (hX).1.2 3 _ rfl
        have k4 := (hX).1.2 4 _ rfl
        have k5 := (hX).1.2 5 _ rfl
        have k6 := (hX).1.2 6 _ rfl
        have k7 := (hX).1.2 7 _ rfl
        have r0 := fun d os => cell_regrown k0 d os
        have r1 := fun d os => cell_regrown k1 d os
        have r2 := fun d os => cell_regrown k2 d os
        have r3 := fun d os => cell_regrown k3 d os
        have r4 := fun d os => cell_regrown k4 d os
        have r5 := fun d os => cell_regrown k5 d os
        have r6 := fun d os => cell_regrown k6 d os
        have r7 := fun d os => cell_regrown k7 d os
        obtain ⟨⟨i1, t1, kd1, s1, n1, d1, f1, a1, l1, c3', m3⟩, ms1⟩ := x
        simp only at hrow HAD
        have b0 := (hrow).cell 0 rfl
        have b1 := (hrow).cell 1 rfl
        have b2 := (hrow).cell 2 rfl
        have b3 := (hrow).cell 3 rfl
        have b4 := (hrow).cell 4 rfl
        have b5 := (hrow).cell 5 rfl
        have b6 := (hrow).cell 6 rfl
        have b7 := (hrow).cell 7 rfl
        have b8 := (hrow).cell 8 rfl
        rw [Nat.add_zero] at b0
        have q0 := fun d os => cell_regrown b0 d os
        have q1 := fun d os => cell_regrown b1 d os
        have q2 := fun d os => cell_regrown b2 d os
        have q3 := fun d os => cell_regrown b3 d os
        have q4 := fun d os => cell_regrown b4 d os
        have q5 := fun d os => cell_regrown b5 d os
        have q6 := fun d os => cell_regrown b6 d os
        have q7 := fun d os => cell_regrown b7 d os
        have q8 := fun d os => cell_regrown b8 d os
        have kl := hX.1.1
        have gl : g < W4.heap.size := (hBN.bo.own.lt g rfl).2
        clear k0 k1 k2 k3 k4 k5 k6 k7 hrow
        clear b0 b1 b2 b3 b4 b5 b6 b7 b8
        refine wp_region_st [1, 7, 11, 12] 13 (by kernel_rfl) (by kernel_rfl) ?_
        with_reducible refine st_sel [0, 2, 3, 4, 5, 6] (by kernel_rfl) (by kernel_rfl) ?_
        simp only [picked, List.getElem?_cons_succ, List.getElem?_cons_zero, Option.toList_some, List.nil_append, List.cons_append, List.append_nil]
        try simp only [Act.put, List.setIfInBounds_toArray, List.set_cons_succ, List.set_cons_zero]
        repeat (go_big_quiet_step (fail))
        with_reducible refine wpQuiet_nil ?_
        refine st_branch [1, 11] (by kernel_rfl) (branch_cons (by simp only [List.getElem?_toArray, List.getElem?_cons_succ, List.getElem?_cons_zero]; rfl) ?_ (branch_cons (by simp only [List.getElem?_toArray, List.getElem?_cons_succ, List.getElem?_cons_zero]; rfl) ?_ branch_nil))
        · skip
          refine eff_call 26 rfl (by simp [go_sem]; rfl) (by repeat (first | (with_reducible exact Bel.refl _) | (with_reducible assumption) | (with_reducible refine Bel.drewN ?_ _) | (with_reducible refine Bel.drew ?_) | (with_reducible refine Bel.alloc ?_ _) | (with_reducible refine Bel.setNew ?_ ?_ _) | (with_reducible refine Bel.trans ?_ (by assumption)) | (focus (simp; done)) | (focus (simp; omega)))) ?_
          refine (HLM.out _).mono ?_; rintro e w5 ⟨rfl, hb5⟩
          refine ⟨_, rfl, hb5, ?_⟩
          try simp only [List.nil_append, List.cons_append, Act.put, List.setIfInBounds_toArray, List.set_cons_succ, List.set_cons_zero]
          refine st_branch [7, 11] (by kernel_rfl) (branch_cons (by simp only [List.getElem?_toArray, List.getElem?_cons_succ, List.getElem?_cons_zero]; rfl) ?_ (branch_cons (by simp only [List.getElem?_toArray, List.getElem?_cons_succ, List.getElem?_cons_zero]; rfl) ?_ branch_nil))
          · skip
            refine eff_call 19 rfl (by simp [go_sem]; rfl) (by repeat (first | (with_reducible exact Bel.refl _) | (with_reducible assumption) | (with_reducible refine Bel.drewN ?_ _) | (with_reducible refine Bel.drew ?_) | (with_reducible refine Bel.alloc ?_ _) | (with_reducible refine Bel.setNew ?_ ?_ _) | (with_reducible refine Bel.trans ?_ (by assumption)) | (focus (simp; done)) | (focus (simp; omega)))) ?_
            refine (HAD.out _ (by repeat (first | (with_reducible exact Bel.refl _) | (with_reducible assumption) | (with_reducible refine Bel.drewN ?_ _) | (with_reducible refine Bel.drew ?_) | (with_reducible refine Bel.alloc ?_ _) | (with_reducible refine Bel.setNew ?_ ?_ _) | (with_reducible refine Bel.trans ?_ (by assumption)) | (focus (simp; done)) | (focus (simp; omega))))).mono ?_; rintro e w6 ⟨fl', bu', en', L2, rfl, hE6, hL6, hb6⟩
            obtain ⟨A7, c7, rfl⟩ := own_slice hE6.flo
            obtain ⟨A8, c8, rfl⟩ := own_slice hE6.buo
            obtain ⟨A9, c9, hv9⟩ := own_slice hE6.eno.bo.own
            subst hv9
            refine ⟨_, rfl, hb6, ?_⟩
            try simp only [List.nil_append, List.cons_append, Act.put, List.setIfInBounds_toArray, List.set_cons_succ, List.set_cons_zero]
            with_reducible refine st_sel [8, 9, 10] (by kernel_rfl) (by kernel_rfl) ?_
            simp only [picked, List.getElem?_cons_succ, List.getElem?_cons_zero, Option.toList_some, List.nil_append, List.cons_append, List.append_nil]
            try simp only [Act.put, List.setIfInBounds_toArray, List.set_cons_succ, List.set_cons_zero]
            repeat (go_big_quiet_step (fail))
            with_reducible refine wpQuiet_nil ?_
            refine st_branch [11] (by kernel_rfl) (branch_cons (by simp only [List.getElem?_toArray, List.getElem?_cons_succ, List.getElem?_cons_zero]; rfl) ?_ branch_nil)
            refine eff_made rfl (by simp [go_sem]; exact ⟨rfl, rfl⟩) (by repeat (first | (with_reducible exact Bel.refl _) | (with_reducible assumption) | (with_reducible refine Bel.drewN ?_ _) | (with_reducible refine Bel.drew ?_) | (with_reducible refine Bel.alloc ?_ _) | (with_reducible refine Bel.setNew ?_ ?_ _) | (with_reducible refine Bel.trans ?_ (by assumption)) | (focus (simp; done)) | (focus (simp; omega)))) ?_
            try simp only [List.nil_append, List.cons_append, Act.put, List.setIfInBounds_toArray, List.set_cons_succ, List.set_cons_zero]
            refine st_branch [12] (by kernel_rfl) (branch_cons (by simp only [List.getElem?_toArray, List.getElem?_cons_succ, List.getElem?_cons_zero]; rfl) ?_ branch_nil)
            have hs5 := hb5.size
            have hs6 := hb6.size
            simp only [World.size_drew] at hs5
            have hYY := AtF.new_at (w := w6) rfl 31 [.int .i64 0, .int .i64 0, .int .i64 0, .int .i64 0, .slice none 0 0, .slice none 0 0, .slice none 0 0, .int .i64 0]
            have hbn : Bel w6 (w6.alloc (.cells [.int .i64 0, .int .i64 0, .int .i64 0, .int .i64 0, .slice none 0 0, .slice none 0 0, .slice none 0 0, .int .i64 0].toArray 31)) := (by repeat (first | (with_reducible exact Bel.refl _) | (with_reducible assumption) | (with_reducible refine Bel.drewN ?_ _) | (with_reducible refine Bel.drew ?_) | (with_reducible refine Bel.alloc ?_ _) | (with_reducible refine Bel.setNew ?_ ?_ _) | (with_reducible refine Bel.trans ?_ (by assumption)) | (focus (simp; done)) | (focus (simp; omega))))
            have hE7 := hE6.keep hbn
            have hBW : Bel W4 (w6.alloc (.cells [.int .i64 0, .int .i64 0, .int .i64 0, .int .i64 0, .slice none 0 0, .slice none 0 0, .slice none 0 0, .int .i64 0].toArray 31)) := Bel.trans (Bel.trans (Bel.drew (Bel.refl W4)) (hb5.trans hb6)) hbn
            have hYl : W4.heap.size ≤ w6.heap.size := by omega
            have hF2 := (ElN.offRow (hE6.newOff (Nat.le_refl _)) [.int .i64 E.knd, .int .i64 E.rdE, .int .i64 E.wrE, .int .i64 E.vt, .slice A7 E'.fl.length c7, .slice A8 E.bk.length c8, .slice A9 L2.length c9, .int .i64 E.hd] (i := 0) hE7).mono (base' := W4.heap.size) (by omega)
            simp only [List.toArray] at hYY hF2 hBW
            clear hE7 hbn hs5 hs6
            have one8 : ∀ u ∈ ([.int .i64 E.knd, .int .i64 E.rdE, .int .i64 E.wrE, .int .i64 E.vt, .slice A7 E'.fl.length c7, .slice A8 E.bk.length c8, .slice A9 L2.length c9, .int .i64 E.hd] : List Value), u.oneCell' = true := fun u hu => by
              simp only [List.mem_cons, List.not_mem_nil, or_false] at hu
              rcases hu with rfl | rfl | rfl | rfl | rfl | rfl | rfl | rfl <;> rfl
            have hi8 : (Try.prog.info? 31).map (·.size) = some 8 := by kernel_rfl
            have hF1 := hYY.setRow [.int .i64 E.knd, .int .i64 E.rdE, .int .i64 E.wrE, .int .i64 E.vt, .slice A7 E'.fl.length c7, .slice A8 E.bk.length c8, .slice A9 L2.length c9, .int .i64 E.hd] rfl
            have hF3 := Bel.setRow (B := w6.heap.size) (i := 0) [.int .i64 E.knd, .int .i64 E.rdE, .int .i64 E.wrE, .int .i64 E.vt, .slice A7 E'.fl.length c7, .slice A8 E.bk.length c8, .slice A9 L2.length c9, .int .i64 E.hd] hBW hYl
            have HFF := Lib.hid (And.intro hF1 (And.intro hF2 hF3))
            with_reducible refine eff_done (w' := setRow (w6.alloc (.cells #[.int .i64 0, .int .i64 0, .int .i64 0, .int .i64 0, .slice none 0 0, .slice none 0 0, .slice none 0 0, .int .i64 0] 31)) (w6.heap.size) 0 [.int .i64 E.knd, .int .i64 E.rdE, .int .i64 E.wrE, .int .i64 E.vt, .slice A7 E'.fl.length c7, .slice A8 E.bk.length c8, .slice A9 L2.length c9, .int .i64 E.hd]) ?_ ?_ ?_ ?_
            · rfl
            · exact exec_store_at (vs := [.int .i64 E.knd, .int .i64 E.rdE, .int .i64 E.wrE, .int .i64 E.vt, .slice A7 E'.fl.length c7, .slice A8 E.bk.length c8, .slice A9 L2.length c9, .int .i64 E.hd]) 31 _ _ rfl rfl rfl hYY rfl one8 hi8
            · exact hF3
            try simp only [List.nil_append, List.cons_append, Act.put, List.setIfInBounds_toArray, List.set_cons_succ, List.set_cons_zero]
            clear hF1 hF2 hF3 hYY hBW hYl one8 hi8
            generalize setRow (w6.alloc (.cells #[.int .i64 0, .int .i64 0, .int .i64 0, .int .i64 0, .slice none 0 0, .slice none 0 0, .slice none 0 0, .int .i64 0] 31)) (w6.heap.size) 0 [.int .i64 E.knd, .int .i64 E.rdE, .int .i64 E.wrE, .int .i64 E.vt, .slice A7 E'.fl.length c7, .slice A8 E.bk.length c8, .slice A9 L2.length c9, .int .i64 E.hd] = WF at HFF ⊢
            refine st_end (by kernel_rfl) ?_
            simp only [List.drop_succ_cons, List.drop_zero, List.drop_nil]
            obtain ⟨x1, x2, x3⟩ := HFF.out
            have HL6 := Lib.hid hL6
            clear hL6
            go_wp2_with fail
            go_meet
            exact ⟨_, _, _, _, L2, rfl, rfl, x1, x2, HL6.out, x3⟩
          · skip
            refine eff_made rfl (by simp [go_sem]; exact ⟨rfl, rfl⟩) (by repeat (first | (with_reducible exact Bel.refl _) | (with_reducible assumption) | (with_reducible refine Bel.drewN ?_ _) | (with_reducible refine Bel.drew ?_) | (with_reducible refine Bel.alloc ?_ _) | (with_reducible refine Bel.setNew ?_ ?_ _) | (with_reducible refine Bel.trans ?_ (by assumption)) | (focus (simp; done)) | (focus (simp; omega)))) ?_
            try simp only [List.nil_append, List.cons_append, Act.put, List.setIfInBounds_toArray, List.set_cons_succ, List.set_cons_zero]
            refine st_branch [7] (by kernel_rfl) (branch_cons (by simp only [List.getElem?_toArray, List.getElem?_cons_succ, List.getElem?_cons_zero]; rfl) ?_ branch_nil)
            refine eff_call 19 rfl (by simp [go_sem]; rfl) (by repeat (first | (with_reducible exact Bel.refl _) | (with_reducible assumption) | (with_reducible refine Bel.drewN ?_ _) | (with_reducible refine Bel.drew ?_) | (with_reducible refine Bel.alloc ?_ _) | (with_reducible refine Bel.setNew ?_ ?_ _) | (with_reducible refine Bel.trans ?_ (by assumption)) | (focus (simp; done)) | (focus (simp; omega)))) ?_
            refine (HAD.out _ (by repeat (first | (with_reducible exact Bel.refl _) | (with_reducible assumption) | (with_reducible refine Bel.drewN ?_ _) | (with_reducible refine Bel.drew ?_) | (with_reducible refine Bel.alloc ?_ _) | (with_reducible refine Bel.setNew ?_ ?_ _) | (with_reducible refine Bel.trans ?_ (by assumption)) | (focus (simp; done)) | (focus (simp; omega))))).mono ?_; rintro e w6 ⟨fl', bu', en', L2, rfl, hE6, hL6, hb6⟩
            obtain ⟨A7, c7, rfl⟩ := own_slice hE6.flo
            obtain ⟨A8, c8, rfl⟩ := own_slice hE6.buo
            obtain ⟨A9, c9, hv9⟩ := own_slice hE6.eno.bo.own
            subst hv9
            refine ⟨_, rfl, hb6, ?_⟩
            try simp only [List.nil_append, List.cons_append, Act.put, List.setIfInBounds_toArray, List.set_cons_succ, List.set_cons_zero]
            with_reducible refine st_sel [8, 9, 10] (by kernel_rfl) (by kernel_rfl) ?_
            simp only [picked, List.getElem?_cons_succ, List.getElem?_cons_zero, Option.toList_some, List.nil_append, List.cons_append, List.append_nil]
            try simp only [Act.put, List.setIfInBounds_toArray, List.set_cons_succ, List.set_cons_zero]
            repeat (go_big_quiet_step (fail))
            with_reducible refine wpQuiet_nil ?_
            refine st_branch [12] (by kernel_rfl) (branch_cons (by simp only [List.getElem?_toArray, List.getElem?_cons_succ, List.getElem?_cons_zero]; rfl) ?_ branch_nil)
            have hs5 := hb5.size
            have hs6 := hb6.size
            simp only [World.size_drew, World.size_alloc] at hs5 hs6
            have hYY := (AtF.new_at (w := w5) rfl 31 [.int .i64 0, .int .i64 0, .int .i64 0, .int .i64 0, .slice none 0 0, .slice none 0 0, .slice none 0 0, .int .i64 0]).bel hb6
            have hBW : Bel W4 w6 := (Bel.drew (Bel.refl W4)).trans (hb5.trans (((Bel.refl w5).alloc _).trans hb6))
            have hYl : W4.heap.size ≤ w5.heap.size := by omega
            have hF2 := (ElN.setRow (B := w5.heap.size) (i := 0) [.int .i64 E.knd, .int .i64 E.rdE, .int .i64 E.wrE, .int .i64 E.vt, .slice A7 E'.fl.length c7, .slice A8 E.bk.length c8, .slice A9 L2.length c9, .int .i64 E.hd] hE6 (by simp)).mono (base' := W4.heap.size) (by simp; omega)
            clear hs5 hs6
            have one8 : ∀ u ∈ ([.int .i64 E.knd, .int .i64 E.rdE, .int .i64 E.wrE, .int .i64 E.vt, .slice A7 E'.fl.length c7, .slice A8 E.bk.length c8, .slice A9 L2.length c9, .int .i64 E.hd] : List Value), u.oneCell' = true := fun u hu => by
              simp only [List.mem_cons, List.not_mem_nil, or_false] at hu
              rcases hu with rfl | rfl | rfl | rfl | rfl | rfl | rfl | rfl <;> rfl
            have hi8 : (Try.prog.info? 31).map (·.size) = some 8 := by kernel_rfl
            have hF1 := hYY.setRow [.int .i64 E.knd, .int .i64 E.rdE, .int .i64 E.wrE, .int .i64 E.vt, .slice A7 E'.fl.length c7, .slice A8 E.bk.length c8, .slice A9 L2.length c9, .int .i64 E.hd] rfl
            have hF3 := Bel.setRow (B := w5.heap.size) (i := 0) [.int .i64 E.knd, .int .i64 E.rdE, .int .i64 E.wrE, .int .i64 E.vt, .slice A7 E'.fl.length c7, .slice A8 E.bk.length c8, .slice A9 L2.length c9, .int .i64 E.hd] hBW hYl
            have HFF := Lib.hid (And.intro hF1 (And.intro hF2 hF3))
            with_reducible refine eff_done (w' := setRow (w6) (w5.heap.size) 0 [.int .i64 E.knd, .int .i64 E.rdE, .int .i64 E.wrE, .int .i64 E.vt, .slice A7 E'.fl.length c7, .slice A8 E.bk.length c8, .slice A9 L2.length c9, .int .i64 E.hd]) ?_ ?_ ?_ ?_
            · rfl
            · exact exec_store_at (vs := [.int .i64 E.knd, .int .i64 E.rdE, .int .i64 E.wrE, .int .i64 E.vt, .slice A7 E'.fl.length c7, .slice A8 E.bk.length c8, .slice A9 L2.length c9, .int .i64 E.hd]) 31 _ _ rfl rfl rfl hYY rfl one8 hi8
            · exact hF3
            try simp only [List.nil_append, List.cons_append, Act.put, List.setIfInBounds_toArray, List.set_cons_succ, List.set_cons_zero]
            clear hF1 hF2 hF3 hYY hBW hYl one8 hi8
            generalize setRow (w6) (w5.heap.size) 0 [.int .i64 E.knd, .int .i64 E.rdE, .int .i64 E.wrE, .int .i64 E.vt, .slice A7 E'.fl.length c7, .slice A8 E.bk.length c8, .slice A9 L2.length c9, .int .i64 E.hd] = WF at HFF ⊢
            refine st_end (by kernel_rfl) ?_
            simp only [List.drop_succ_cons, List.drop_zero, List.drop_nil]
            obtain ⟨x1, x2, x3⟩ := HFF.out
            have HL6 := Lib.hid hL6
            clear hL6
            go_wp2_with fail
            go_meet
            exact ⟨_, _, _, _, L2, rfl, rfl, x1, x2, HL6.out, x3⟩
        · skip
          refine eff_made rfl (by simp [go_sem]; exact ⟨rfl, rfl⟩) (by repeat (first | (with_reducible exact Bel.refl _) | (with_reducible assumption) | (with_reducible refine Bel.drewN ?_ _) | (with_reducible refine Bel.drew ?_) | (with_reducible refine Bel.alloc ?_ _) | (with_reducible refine Bel.setNew ?_ ?_ _) | (with_reducible refine Bel.trans ?_ (by assumption)) | (focus (simp; done)) | (focus (simp; omega)))) ?_
          try simp only [List.nil_append, List.cons_append, Act.put, List.setIfInBounds_toArray, List.set_cons_succ, List.set_cons_zero]
          refine st_branch [1] (by kernel_rfl) (branch_cons (by simp only [List.getElem?_toArray, List.getElem?_cons_succ, List.getElem?_cons_zero]; rfl) ?_ branch_nil)
          refine eff_call 26 rfl (by simp [go_sem]; rfl) (by repeat (first | (with_reducible exact Bel.refl _) | (with_reducible assumption) | (with_reducible refine Bel.drewN ?_ _) | (with_reducible refine Bel.drew ?_) | (with_reducible refine Bel.alloc ?_ _) | (with_reducible refine Bel.setNew ?_ ?_ _) | (with_reducible refine Bel.trans ?_ (by assumption)) | (focus (simp; done)) | (focus (simp; omega)))) ?_
          refine (HLM.out _).mono ?_; rintro e w5 ⟨rfl, hb5⟩
          refine ⟨_, rfl, hb5, ?_⟩
          try simp only [List.nil_append, List.cons_append, Act.put, List.setIfInBounds_toArray, List.set_cons_succ, List.set_cons_zero]
          refine st_branch [7] (by kernel_rfl) (branch_cons (by simp only [List.getElem?_toArray, List.getElem?_cons_succ, List.getElem?_cons_zero]; rfl) ?_ branch_nil)
          refine eff_call 19 rfl (by simp [go_sem]; rfl) (by repeat (first | (with_reducible exact Bel.refl _) | (with_reducible assumption) | (with_reducible refine Bel.drewN ?_ _) | (with_reducible refine Bel.drew ?_) | (with_reducible refine Bel.alloc ?_ _) | (with_reducible refine Bel.setNew ?_ ?_ _) | (with_reducible refine Bel.trans ?_ (by assumption)) | (focus (simp; done)) | (focus (simp; omega)))) ?_
          refine (HAD.out _ (by repeat (first | (with_reducible exact Bel.refl _) | (with_reducible assumption) | (with_reducible refine Bel.drewN ?_ _) | (with_reducible refine Bel.drew ?_) | (with_reducible refine Bel.alloc ?_ _) | (with_reducible refine Bel.setNew ?_ ?_ _) | (with_reducible refine Bel.trans ?_ (by assumption)) | (focus (simp; done)) | (focus (simp; omega))))).mono ?_; rintro e w6 ⟨fl', bu', en', L2, rfl, hE6, hL6, hb6⟩
          obtain ⟨A7, c7, rfl⟩ := own_slice hE6.flo
          obtain ⟨A8, c8, rfl⟩ := own_slice hE6.buo
          obtain ⟨A9, c9, hv9⟩ := own_slice hE6.eno.bo.own
          subst hv9
          refine ⟨_, rfl, hb6, ?_⟩
          try simp only [List.nil_append, List.cons_append, Act.put, List.setIfInBounds_toArray, List.set_cons_succ, List.set_cons_zero]
          with_reducible refine st_sel [8, 9, 10] (by kernel_rfl) (by kernel_rfl) ?_
          simp only [picked, List.getElem?_cons_succ, List.getElem?_cons_zero, Option.toList_some, List.nil_append, List.cons_append, List.append_nil]
          try simp only [Act.put, List.setIfInBounds_toArray, List.set_cons_succ, List.set_cons_zero]
          repeat (go_big_quiet_step (fail))
          with_reducible refine wpQuiet_nil ?_
          refine st_branch [12] (by kernel_rfl) (branch_cons (by simp only [List.getElem?_toArray, List.getElem?_cons_succ, List.getElem?_cons_zero]; rfl) ?_ branch_nil)
          have hs5 := hb5.size
          have hs6 := hb6.size
          simp only [World.size_drew, World.size_alloc] at hs5 hs6
          have hYY := ((AtF.new_at (w := W4.drew) (g := W4.heap.size) (by simp) 31 [.int .i64 0, .int .i64 0, .int .i64 0, .int .i64 0, .slice none 0 0, .slice none 0 0, .slice none 0 0, .int .i64 0]).bel hb5).bel hb6
          have hBW : Bel W4 w6 := (Bel.drew (Bel.refl W4)).trans (((Bel.refl W4.drew).alloc _).trans (hb5.trans hb6))
          have hYl : W4.heap.size ≤ W4.heap.size := Nat.le_refl _
          have hF2 := (ElN.setRow (B := W4.heap.size) (i := 0) [.int .i64 E.knd, .int .i64 E.rdE, .int .i64 E.wrE, .int .i64 E.vt, .slice A7 E'.fl.length c7, .slice A8 E.bk.length c8, .slice A9 L2.length c9, .int .i64 E.hd] hE6 (by omega)).mono (base' := W4.heap.size) (by omega)
          clear hs5 hs6
          have one8 : ∀ u ∈ ([.int .i64 E.knd, .int .i64 E.rdE, .int .i64 E.wrE, .int .i64 E.vt, .slice A7 E'.fl.length c7, .slice A8 E.bk.length c8, .slice A9 L2.length c9, .int .i64 E.hd] : List Value), u.oneCell' = true := fun u hu => by
            simp only [List.mem_cons, List.not_mem_nil, or_false] at hu
            rcases hu with rfl | rfl | rfl | rfl | rfl | rfl | rfl | rfl <;> rfl
          have hi8 : (Try.prog.info? 31).map (·.size) = some 8 := by kernel_rfl
          have hF1 := hYY.setRow [.int .i64 E.knd, .int .i64 E.rdE, .int .i64 E.wrE, .int .i64 E.vt, .slice A7 E'.fl.length c7, .slice A8 E.bk.length c8, .slice A9 L2.length c9, .int .i64 E.hd] rfl
          have hF3 := Bel.setRow (B := W4.heap.size) (i := 0) [.int .i64 E.knd, .int .i64 E.rdE, .int .i64 E.wrE, .int .i64 E.vt, .slice A7 E'.fl.length c7, .slice A8 E.bk.length c8, .slice A9 L2.length c9, .int .i64 E.hd] hBW hYl
          have HFF := Lib.hid (And.intro hF1 (And.intro hF2 hF3))
          with_reducible refine eff_done (w' := setRow (w6) (W4.heap.size) 0 [.int .i64 E.knd, .int .i64 E.rdE, .int .i64 E.wrE, .int .i64 E.vt, .slice A7 E'.fl.length c7, .slice A8 E.bk.length c8, .slice A9 L2.length c9, .int .i64 E.hd]) ?_ ?_ ?_ ?_
          · rfl
          · exact exec_store_at (vs := [.int .i64 E.knd, .int .i64 E.rdE, .int .i64 E.wrE, .int .i64 E.vt, .slice A7 E'.fl.length c7, .slice A8 E.bk.length c8, .slice A9 L2.length c9, .int .i64 E.hd]) 31 _ _ rfl rfl rfl hYY rfl one8 hi8
          · exact hF3
          try simp only [List.nil_append, List.cons_append, Act.put, List.setIfInBounds_toArray, List.set_cons_succ, List.set_cons_zero]
          clear hF1 hF2 hF3 hYY hBW hYl one8 hi8
          generalize setRow (w6) (W4.heap.size) 0 [.int .i64 E.knd, .int .i64 E.rdE, .int .i64 E.wrE, .int .i64 E.vt, .slice A7 E'.fl.length c7, .slice A8 E.bk.length c8, .slice A9 L2.length c9, .int .i64 E.hd] = WF at HFF ⊢
          refine st_end (by kernel_rfl) ?_
          simp only [List.drop_succ_cons, List.drop_zero, List.drop_nil]
          obtain ⟨x1, x2, x3⟩ := HFF.out
          have HL6 := Lib.hid hL6
          clear hL6
          go_wp2_with fail
          go_meet
          exact ⟨_, _, _, _, L2, rfl, rfl, x1, x2, HL6.out, x3⟩
      case rest =>
        clear HAD hrow hmx
        obtain ⟨Y, fl', bu', en', L2, rfl, rfl, hY, hE2, hL2, hb2⟩ := hcut
        obtain ⟨A7, c7, rfl⟩ := own_slice hE2.flo
        obtain ⟨A8, c8, rfl⟩ := own_slice hE2.buo
        obtain ⟨A9, c9', hv9⟩ := own_slice hE2.eno.bo.own
        subst hv9
        have HL2 := Lib.hid hL2
        clear hL2
        have hX2 := hX.bel hb2
        have hb02 := hbr.trans hb2
        have hR2 := (hR.bel hb2).setRow_other (B := X) (i := 0) [.int .i64 E.knd, .int .i64 E.rdE, .int .i64 E.wrE, .int .i64 E.vt, .slice A7 E'.fl.length c7, .slice A8 E.bk.length c8, .slice A9 L2.length c9', .int .i64 E.hd] (by omega)
        have hBN2 := BN.setRow (B := X) (i := 0) [.int .i64 E.knd, .int .i64 E.rdE, .int .i64 E.wrE, .int .i64 E.vt, .slice A7 E'.fl.length c7, .slice A8 E.bk.length c8, .slice A9 L2.length c9', .int .i64 E.hd] (hBN.keep hb2) (by omega)
        have k0 := (hX2).1.2 0 _ rfl
        have k1 := (hX2).1.2 1 _ rfl
        have k2 := (hX2).1.2 2 _ rfl
        have k3 := (hX2).1.2 3 _ rfl
        have k4 := (hX2).1.2 4 _ rfl
        have k5 := (hX2).1.2 5 _ rfl
        have k6 := (hX2).1.2 6 _ rfl
        have k7 := (hX2).1.2 7 _ rfl
        have kf := (hX2).2
        have kl := (hX2).1.1
        have hXn := (hX2).setRow [.int .i64 E.knd, .int .i64 E.rdE, .int .i64 E.wrE, .int .i64 E.vt, .slice A7 E'.fl.length c7, .slice A8 E.bk.length c8, .slice A9 L2.length c9', .int .i64 E.hd] rfl
        have hENn := (ElN.setRow (B := X) (i := 0) [.int .i64 E.knd, .int .i64 E.rdE, .int .i64 E.wrE, .int .i64 E.vt, .slice A7 E'.fl.length c7, .slice A8 E.bk.length c8, .slice A9 L2.length c9', .int .i64 E.hd] hE2 (by omega)).mono (base' := X + 1) (by omega)
        have hbn := Bel.setRow (B := X) (i := 0) [.int .i64 E.knd, .int .i64 E.rdE, .int .i64 E.wrE, .int .i64 E.vt, .slice A7 E'.fl.length c7, .slice A8 E.bk.length c8, .slice A9 L2.length c9', .int .i64 E.hd] hb02 (by omega)
        simp only [setRow, Nat.zero_add, Nat.reduceAdd] at hXn hENn hbn
        simp only [setRow, Nat.zero_add, Nat.reduceAdd] at hR2 hBN2
        have y0 := (hY).1.2 0 _ rfl
        have y1 := (hY).1.2 1 _ rfl
        have y2 := (hY).1.2 2 _ rfl
        have y3 := (hY).1.2 3 _ rfl
        have y4 := (hY).1.2 4 _ rfl
        have y5 := (hY).1.2 5 _ rfl
        have y6 := (hY).1.2 6 _ rfl
        have y7 := (hY).1.2 7 _ rfl
        have yl := hY.1.1
        clear hX hR hEN hBN hbr hY hE2 hX2 hb02
        go_upto_region 11 with fail
        clear y0 y1 y2 y3 y4 y5 y6 y7 yl
        clear k0 k1 k2 k3 k4 k5 k6 k7 kf kl
        generalize hWn : World.setCell _ ⟨X, 7, none⟩ _ = W9 at *
        clear hWn
        obtain ⟨g', o', c', hat9⟩ := hBN2.bo.bl.at HXI.out
        have hfo := hat9.form
        injection hfo with h1 h2 h3
        injection h1 with h4
        injection h4 with h5 h6
        subst h5; subst h6
        have e7 := hat9.row.cell 7 rfl
        have hlen := hat9.mem.len
        rw [hlen] at e7
        have gl := hat9.lt
        have ew : IntKind.i64.wrap (memN LB i + (x.ms.length : Int)) = memN LB i + (x.ms.length : Int) := IntWalk.i64_in _ (by have := HMS.out; omega)
        have hXl := hXn.1.1
        have HXX := Lib.hid (And.intro hXn (And.intro hR2 (And.intro hENn (And.intro hBN2 hbn))))
        clear hat9 hXn hR2 hENn hBN2 hbn h2 h3 hlen hb2
        go_wp2
        obtain ⟨x1, x2, x3, x4, x5⟩ := HXX.out
        go_roundw
        case rel =>
          obtain ⟨q1, q2, q3, q4, q5, q6⟩ := HSM.out
          refine ⟨i + 1, E', .slice A7 E'.fl.length c7, .slice A8 E.bk.length c8, .slice A9 L2.length c9', L2, by go_num, by omega, by rw [HMN.out], HF2.out, ?_, x2, ?_, x3.offLow (by omega), HL2.out, x4, x5, hXl⟩
          · rw [q1, q2, q3, q4, q6]; exact x1
          · rw [q5]; exact x3.mono (by omega)
        case measure => simp [intOf]; omega
    · obtain rfl : i = nb := by omega
      have jk : decide ((i : Int) < (i : Int)) = false := by simp
      have hi8 : (Try.prog.info? 31).map (·.size) = some 8 := by kernel_rfl
      have hb9 := Bel.setRow (B := w.heap.size) (i := 0) [.int .i64 E.knd, .int .i64 E.rdE, .int .i64 E.wrE, .int .i64 E.vt, .slice A1 E.fl.length c1, .slice A2 E.bk.length c2, .slice A3 L.length c3, .int .i64 E.hd] hbr (Nat.le_refl _)
      have hE9 := (ElN.setRow (B := w.heap.size) (i := 0) [.int .i64 E.knd, .int .i64 E.rdE, .int .i64 E.wrE, .int .i64 E.vt, .slice A1 E.fl.length c1, .slice A2 E.bk.length c2, .slice A3 L.length c3, .int .i64 E.hd] hEN (by omega)).mono (base' := w.heap.size) (by omega)
      have hR9 := hR.setRow [.int .i64 E.knd, .int .i64 E.rdE, .int .i64 E.wrE, .int .i64 E.vt, .slice A1 E.fl.length c1, .slice A2 E.bk.length c2, .slice A3 L.length c3, .int .i64 E.hd] rfl
      have hlv := loadVar_at (P := Try.prog) 31 hR9 _ Try.underlying31 rfl hi8
      simp only [setRow, Nat.zero_add, Nat.reduceAdd] at hlv hb9 hE9
      clear hR9
      have k0 := (hX).1.2 0 _ rfl
      have k1 := (hX).1.2 1 _ rfl
      have k2 := (hX).1.2 2 _ rfl
      have k3 := (hX).1.2 3 _ rfl
      have k4 := (hX).1.2 4 _ rfl
      have k5 := (hX).1.2 5 _ rfl
      have k6 := (hX).1.2 6 _ rfl
      have k7 := (hX).1.2 7 _ rfl
      have kl := hX.1.1
      have g0 := (hR).1.2 0 _ rfl
      have g1 := (hR).1.2 1 _ rfl
      have g2 := (hR).1.2 2 _ rfl
      have g3 := (hR).1.2 3 _ rfl
      have g4 := (hR).1.2 4 _ rfl
      have g5 := (hR).1.2 5 _ rfl
      have g6 := (hR).1.2 6 _ rfl
      have g7 := (hR).1.2 7 _ rfl
      have rf := hR.2
      have rl := hR.1.1
      go_wp2
      clear g0 g1 g2 g3 g4 g5 g6 g7 k0 k1 k2 k3 k4 k5 k6 k7
      exact bodyPost_ret (v := .tuple #[.agg #[.int .i64 E.knd, .int .i64 E.rdE, .int .i64 E.wrE, .int .i64 E.vt, .slice A1 E.fl.length c1, .slice A2 E.bk.length c2, .slice A3 L.length c3, .int .i64 E.hd], .int .i64 (memN LB i), .bool true]) (by simp [results, Try.results20, hlv, asAddr]) rfl ⟨E, _, _, _, L, LB, by rw [Hnb.out], hE9, HL.out, HLB.out, by rw [HQ.out, Hnb.out]; exact HF.out, hb9⟩
end Go.Proofs.Ytpgjbocjhconoaa
