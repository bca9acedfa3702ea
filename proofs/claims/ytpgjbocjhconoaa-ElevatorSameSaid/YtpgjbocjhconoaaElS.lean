/- The walk of ElevatorSame. -/
import Derived.Test.YtpgjbocjhconoaaElU
namespace Go.Proofs.Ytpgjbocjhconoaa
open Go.RowKit Go.Maps
set_option linter.unusedSimpArgs false

theorem RunS.sch {Q : List Bu} (hq : DkQ Q) {m : Nat} {E E' : El} {S S0 : List Bu} (h : RunS E S E') (hs : SchS Q m (S0 ++ usE E)) : SchS Q m (S0 ++ S ++ usE E') := by
  induction h with
  | nil => simpa using hs
  | snoc h hn ih =>
    have := sch_next hq ih hn
    rw [← List.append_assoc S0]
    exact this
/-- The members of all bunches. -/
def allI (Q : List Bu) : List Int := Q.flatMap idsU
theorem run_perm {Q : List Bu} (hq : DkQ Q) {E E' : El} {S : List Bu} (h : RunS E S E') (hs : SchS Q Q.length (usE E)) (h0 : E'.en = []) : (S.flatMap idsU).Perm (allI Q) := by
  have h1 := h.sch hq (S0 := []) (by simpa using hs)
  have h2 : usE E' = [] := by unfold usE; rw [h0]; rfl
  have h3 := h1.perm
  rw [h2, List.nil_append, List.append_nil, List.take_length] at h3
  exact h3
theorem allI_in {Q : List Bu} (hq : DkQ Q) : ∀ x ∈ allI Q, ∃ k : Nat, x = (k : Int) ∧ k < 16 := by
  intro x hx
  unfold allI at hx
  rw [List.mem_flatMap] at hx
  obtain ⟨b, hb, hxb⟩ := hx
  obtain ⟨k, hk⟩ := List.getElem?_of_mem hb
  have h1 := hq.ids hk hxb
  have h2 := (List.getElem?_eq_some_iff.1 hk).1
  have h3 := hq.1
  exact ⟨x.toNat, by omega, by omega⟩
theorem allI_nodup {Q : List Bu} (hq : DkQ Q) : (allI Q).Nodup := by
  have := hq.nodup Q.length (Nat.le_refl _)
  rwa [List.take_length] at this
theorem allI_len {Q : List Bu} (hq : DkQ Q) : (allI Q).length ≤ 16 := by
  have gen : ∀ m ≤ Q.length, ((Q.take m).flatMap idsU).length ≤ 2 * m := by
    intro m
    induction m with
    | zero => intro _; simp
    | succ m ih =>
      intro hm
      have hb : Q[m]? = some (Q[m]'(by omega)) := List.getElem?_eq_getElem (by omega)
      rw [take_ids hb, List.length_append]
      have h1 := ih (by omega)
      have h2 : (idsU (Q[m]'(by omega))).length ≤ 2 := by
        unfold idsU
        rw [List.length_map]
        rcases (hq.2 m _ hb).ms with e | e <;> rw [e] <;> simp
      omega
  have h1 := gen Q.length (Nat.le_refl _)
  rw [List.take_length] at h1
  have := hq.1
  unfold allI
  omega
/-- The sum of the powers of two. -/
def sumP (l : List Int) : Int := (l.map fun x => (2 : Int) ^ x.toNat).sum
theorem sumP_snoc (l : List Int) (x : Int) : sumP (l ++ [x]) = sumP l + 2 ^ x.toNat := by unfold sumP; simp
theorem sumP_perm {l l' : List Int} (h : l.Perm l') : sumP l = sumP l' := by
  unfold sumP
  induction h with
  | nil => rfl
  | cons x h ih => simp only [List.map_cons, List.sum_cons, ih]
  | swap x y l => simp only [List.map_cons, List.sum_cons]; omega
  | trans h1 h2 i1 i2 => exact i1.trans i2
theorem pow_bd {k : Nat} (h : k < 16) : 0 ≤ (2 : Int) ^ k ∧ (2 : Int) ^ k ≤ 32768 := by
  have : k = 0 ∨ k = 1 ∨ k = 2 ∨ k = 3 ∨ k = 4 ∨ k = 5 ∨ k = 6 ∨ k = 7 ∨ k = 8 ∨ k = 9 ∨ k = 10 ∨ k = 11 ∨ k = 12 ∨ k = 13 ∨ k = 14 ∨ k = 15 := by omega
  rcases this with rfl | rfl | rfl | rfl | rfl | rfl | rfl | rfl | rfl | rfl | rfl | rfl | rfl | rfl | rfl | rfl <;> decide
theorem sumP_bd : ∀ (l : List Int), (∀ x ∈ l, ∃ k : Nat, x = (k : Int) ∧ k < 16) → 0 ≤ sumP l ∧ sumP l ≤ 32768 * (l.length : Int)
  | [], _ => by simp [sumP]
  | x :: l, h => by
    obtain ⟨k, rfl, hk⟩ := h x (by simp)
    have h2 := sumP_bd l (fun y hy => h y (by simp [hy]))
    have h3 := pow_bd hk
    have e : sumP ((k : Int) :: l) = 2 ^ k + sumP l := by unfold sumP; simp
    rw [e, List.length_cons]
    omega
/-- Which numbers have been seen. -/
def seenL (l : List Int) : List Bool := (List.range 40).map fun (k : Nat) => l.contains (k : Int)
theorem seenL_len (l : List Int) : (seenL l).length = 40 := by simp [seenL]
theorem seenL_at {l : List Int} {k : Nat} (h : k < 40) : (seenL l)[k]? = some (l.contains (k : Int)) := by
  unfold seenL
  rw [List.getElem?_map, List.getElem?_range h]; rfl
theorem seenL_set {l : List Int} {k : Nat} (h : k < 40) : (seenL l).set k true = seenL (l ++ [(k : Int)]) := by
  apply List.ext_getElem?
  intro j
  by_cases hj : j < 40
  · rw [seenL_at hj, List.getElem?_set, seenL_len]
    by_cases e : k = j
    · subst e; simp [h]
    · rw [if_neg e, seenL_at hj]
      have e2 : ((j : Int) == (k : Int)) = false := by simp; omega
      simp [List.contains_append, e2, List.contains_cons]
      omega
  · rw [List.getElem?_eq_none (by rw [List.length_set, seenL_len]; omega), List.getElem?_eq_none (by rw [seenL_len]; omega)]
theorem seenL_nil : seenL [] = List.replicate 40 false := by rfl
theorem seenL_lit : bcells (seenL []) = [.bool false, .bool false, .bool false, .bool false, .bool false, .bool false, .bool false, .bool false, .bool false, .bool false, .bool false, .bool false, .bool false, .bool false, .bool false, .bool false, .bool false, .bool false, .bool false, .bool false, .bool false, .bool false, .bool false, .bool false, .bool false, .bool false, .bool false, .bool false, .bool false, .bool false, .bool false, .bool false, .bool false, .bool false, .bool false, .bool false, .bool false, .bool false, .bool false, .bool false] := by rw [seenL_nil]; rfl
theorem wpList_made {P : Program} {ops : Array Oper} {rest : List Oper} {o : Oper} {a : Act} {w : World} {Q : Exit → Act → World → Prop} (hgd : o.guard = none) (v : Value) (w' : World) (hr : (execOp a.eval o).run P w = .ok (.value v) w')
    (h : wpList P ops Q rest (a.put o.dst v) w') : wpList P ops Q (o :: rest) a w :=
  wpList_plain hgd fun _ hK => by
    unfold Oper.wp
    rw [hr]
    exact hK _ _ h
/-- The values of three kinds: those done, the one under way, the others. -/
def arrS (T : Int) (kd : Nat) (s : Int) : List Int := (List.range 3).map fun k => if k < kd then T else if k = kd then s else 0
theorem arrS_at {T s : Int} {kd : Nat} (h : kd < 3) : (arrS T kd s)[kd]? = some s := by
  unfold arrS
  rw [List.getElem?_map, List.getElem?_range h]
  simp
theorem arrS_set {T s s' : Int} {kd : Nat} : (arrS T kd s).set kd s' = arrS T kd s' := by
  apply List.ext_getElem?
  intro j
  unfold arrS
  rw [List.getElem?_set]
  by_cases e : kd = j
  · subst e
    by_cases h : kd < 3
    · simp [h]
    · simp [h]
  · rw [if_neg e, List.getElem?_map, List.getElem?_map]
    by_cases h : j < 3
    · rw [List.getElem?_range h]
      have e3 : ¬ j = kd := fun h => e h.symm
      simp only [Option.map_some, e3, if_false]
    · rw [List.getElem?_eq_none (by simpa using h)]; rfl
theorem arrS_next (T : Int) (kd : Nat) : arrS T kd T = arrS T (kd + 1) 0 := by
  unfold arrS
  apply List.map_congr_left
  intro k _
  by_cases h : k < kd
  · rw [if_pos h, if_pos (by omega)]
  · rw [if_neg h]
    by_cases e : k = kd
    · rw [if_pos e, if_pos (by omega)]
    · rw [if_neg e, if_neg (by omega)]
      split <;> rfl
theorem intC_set (l : List Int) (i : Nat) (x : Int) : (intC l).set i (.int .i64 x) = intC (l.set i x) := by simp [intC, List.map_set]
theorem FilI.free {n knd : Int} {Q : List Bu} {m : Nat} {E : El} (h : FilI n knd Q m E) (hn : n.tmod 4 = 0) : FreeE E := by
  refine ⟨by rw [h.bk, madeK_len], fun x hx => ?_, fun x hx => ?_⟩
  · rw [h.bk] at hx
    exact madeK_free hn x hx
  · have h1 := h.sch.each x.u (List.mem_map_of_mem hx)
    exact ⟨h1.ten.1, h1.ten.2, h1.ok⟩

set_option maxRecDepth 100000 in
set_option maxHeartbeats 16000000 in
theorem elevatorSame_walk (lim : Int) (v : Value) (zs : List Int) (w : World) (_ : IsInt lim) (hz : Ints w v zs) :
    Calls Try.prog 8 #[.int .i64 lim, v] w fun e w' => e = .returned (.bool true) ∧ Bel w w' := by
  have HBN := Lib.hid (bunchesN_any v zs w hz)
  have HMD := Lib.hid (fun (k : Int) (hk : 1 ≤ k ∧ k ≤ 3) W => made_E 4 k W ⟨by omega, by omega⟩ (by unfold kindOk; rw [decide_eq_true_eq]; omega))
  have HLM := Lib.hid (fun W => limits_any lim W)
  obtain ⟨M, HM⟩ : ∃ M, Hid (M = 1 + rnd lim 6) := ⟨_, rfl⟩
  obtain ⟨B, HB⟩ : ∃ B, Hid (B = bound lim) := ⟨_, rfl⟩
  rw [← HM.out, ← HB.out] at HLM
  clear hz
  go_enter Try.func8, Try.ntmps8
  go_wp2_with fail
  refine HBN.out.mono ?_; rintro e w3 ⟨U, LB, rfl, hLB, hBN, hb3⟩
  obtain ⟨Q, HQ⟩ : ∃ Q, Hid (LB.map BM.bu = Q) := ⟨_, rfl⟩
  have HDK : Hid (DkQ Q) := by show DkQ Q; rw [← HQ.out]; exact bns_dk hLB (by omega)
  have HLB := Lib.hid hLB
  obtain ⟨Au, cu, huv⟩ := own_slice hBN.bo.own
  subst huv
  obtain ⟨nb, Hnb⟩ : ∃ k, Hid (LB.length = k) := ⟨_, rfl⟩
  have hn8 : nb ≤ 8 := by rw [← Hnb.out, hLB.1]; omega
  have HQL : Hid (Q.length = nb) := by show _ = _; rw [← HQ.out, List.length_map]; exact Hnb.out
  rw [Hnb.out] at hBN ⊢
  clear hLB HBN
  have hSA := (AtF.new_at (w := w3) rfl 62 [.int .i64 0, .int .i64 0, .int .i64 0]).alloc (.cells [.int .i64 0, .int .i64 0, .int .i64 0].toArray 62)
  have hSB := AtF.new_at (w := w3.alloc (.cells [.int .i64 0, .int .i64 0, .int .i64 0].toArray 62)) (g := w3.heap.size + 1) (by simp) 62 [.int .i64 0, .int .i64 0, .int .i64 0]
  have hbn : Bel w3 ((w3.alloc (.cells [.int .i64 0, .int .i64 0, .int .i64 0].toArray 62)).alloc (.cells [.int .i64 0, .int .i64 0, .int .i64 0].toArray 62)) := (by repeat (first | (with_reducible exact Bel.refl _) | (with_reducible assumption) | (with_reducible refine Bel.drewN ?_ _) | (with_reducible refine Bel.drew ?_) | (with_reducible refine Bel.alloc ?_ _) | (with_reducible refine Bel.setNew ?_ ?_ _) | (with_reducible refine Bel.trans ?_ (by assumption)) | (focus (simp; done)) | (focus (simp; omega))))
  simp only [List.toArray] at hSA hSB hbn
  go_upto_region 4 with fail
  generalize (w3.alloc (.cells #[.int .i64 0, .int .i64 0, .int .i64 0] 62)).alloc (.cells #[.int .i64 0, .int .i64 0, .int .i64 0] 62) = W0 at *
  have HBL := Lib.hid (fun W (h : Bel w3 W) => hBN.bo.bl.bel h)
  have hw3 := hb3.size
  have HB3 := Lib.hid hb3
  clear hBN hb3
  obtain ⟨TS, HTS⟩ : ∃ T, Hid (T = sumP (allI Q)) := ⟨_, rfl⟩
  obtain ⟨TL, HTL⟩ : ∃ T, Hid (T = ((allI Q).length : Int)) := ⟨_, rfl⟩
  have hSA0 : AtF W0 w3.heap.size (intC (arrS TS 0 0)) := hSA
  have hSB0 : AtF W0 (w3.heap.size + 1) (intC (arrS TL 0 0)) := hSB
  clear hSA hSB
  obtain ⟨SA, HSA⟩ : ∃ k, Hid (w3.heap.size = k) := ⟨_, rfl⟩
  rw [HSA.out] at hSA0 hSB0 hw3 ⊢
  go_wp2
  go_loopw [8] (fun kv wr => ∃ kd : Nat, kv = .int .i64 kd ∧ kd ≤ 3 ∧ AtF wr SA (intC (arrS TS kd 0)) ∧ AtF wr (SA + 1) (intC (arrS TL kd 0)) ∧ Bel w3 wr) (fun kv _ => 3 - (intOf kv).toNat)
  case atStart => exact ⟨0, rfl, by omega, hSA0, hSB0, hbn⟩
  case round =>
    clear hSA0 hSB0 hbn
    obtain ⟨kd, rfl, pk, hSA, hSB, hbk⟩ := hrel
    obtain ⟨Wk, rfl⟩ : ∃ X, X = wr := ⟨_, rfl⟩
    by_cases hkl : kd < 3
    · have hkn : (kd : Int) < 3 := by omega
      have ek : IntKind.i64.wrap (1 + (kd : Int)) = 1 + (kd : Int) := IntWalk.i64_in _ (by omega)
      have HMD2 := Lib.hid (HMD.out (1 + (kd : Int)) (by omega) Wk)
      obtain ⟨E0, HE0⟩ : ∃ E, Hid (madeE 4 (1 + (kd : Int)) = E) := ⟨_, rfl⟩
      rw [HE0.out] at HMD2
      have HST : Hid (FilI 4 (1 + (kd : Int)) Q 0 E0) := by rw [← HE0.out]; exact FilI.start 4 _ Q
      have HEN0 : Hid (E0.en = []) := by show _ = _; rw [← HE0.out]; rfl
      go_wp2_with fail
      refine HMD2.out.mono ?_; rintro e w2 ⟨fl1, bu1, en1, rfl, hEN, hb2⟩
      clear ek
      obtain ⟨A4, c4, rfl⟩ := own_slice hEN.flo
      obtain ⟨A5, c5, rfl⟩ := own_slice hEN.buo
      obtain ⟨A6, c6, hv6⟩ := own_slice hEN.eno.bo.own
      subst hv6
      obtain ⟨X, HX0⟩ : ∃ X, Hid (w2.heap.size = X) := ⟨_, rfl⟩
      have hwX : Wk.heap.size ≤ X := by rw [← HX0.out]; exact hb2.size
      have hSX : SA + 1 < Wk.heap.size := hSB.1.1
      have hX := AtF.new_at (w := w2) HX0.out.symm 31 [.int .i64 E0.knd, .int .i64 E0.rdE, .int .i64 E0.wrE, .int .i64 E0.vt, .slice A4 E0.fl.length c4, .slice A5 E0.bk.length c5, .slice A6 0 c6, .int .i64 E0.hd]
      have hbn : Bel w2 (w2.alloc (.cells [.int .i64 E0.knd, .int .i64 E0.rdE, .int .i64 E0.wrE, .int .i64 E0.vt, .slice A4 E0.fl.length c4, .slice A5 E0.bk.length c5, .slice A6 0 c6, .int .i64 E0.hd].toArray 31)) := (by repeat (first | (with_reducible exact Bel.refl _) | (with_reducible assumption) | (with_reducible refine Bel.drewN ?_ _) | (with_reducible refine Bel.drew ?_) | (with_reducible refine Bel.alloc ?_ _) | (with_reducible refine Bel.setNew ?_ ?_ _) | (with_reducible refine Bel.trans ?_ (by assumption)) | (focus (simp; done)) | (focus (simp; omega))))
      have hEN2 := hEN.keep hbn
      have HOF : Hid (Off X (.slice A4 E0.fl.length c4) (.slice A5 E0.bk.length c5) (.slice A6 0 c6) []) := hEN.newOff (by rw [HX0.out]; exact Nat.le_refl _)
      have hb3 := hb2.trans hbn
      simp only [List.toArray] at hX hEN2 hb3
      go_upto_region 8 with fail
      rw [HX0.out]
      generalize hW2 : w2.alloc _ = W2 at *
      clear hW2 hbn hEN hb2
      have HKK := Lib.hid (And.intro hSA (And.intro hSB hbk))
      clear hSA hSB hbk
      have HS0 := Lib.hid (And.intro hX (And.intro hEN2 hb3))
      go_wp2
      go_loopw [10, 11] (fun okv iv wr => ∃ (i : Nat) (E : El) (fl bu en : Value) (L : List QM), okv = .bool true ∧ iv = .int .i64 i ∧ i ≤ nb ∧ Hid (FilI 4 (1 + (kd : Int)) Q i E) ∧ AtF wr X [.int .i64 E.knd, .int .i64 E.rdE, .int .i64 E.wrE, .int .i64 E.vt, fl, bu, en, .int .i64 E.hd] ∧ ElN wr Wk.heap.size fl bu en E.fl E.bk L ∧ Hid (Off X fl bu en L) ∧ Hid (L.map QM.qu = E.en) ∧ Bel Wk wr ∧ X < wr.heap.size) (fun _ iv _ => nb - (intOf iv).toNat)
      case atStart => exact ⟨0, E0, .slice A4 E0.fl.length c4, .slice A5 E0.bk.length c5, .slice A6 0 c6, [], rfl, rfl, by omega, HST.out, hX, hEN2, HOF, HEN0.out.symm, hb3, hX.1.1⟩
      case round =>
        clear hX hEN2 hb3 HS0 HOF
        obtain ⟨i, E, fl, bu, en, L, rfl, rfl, p1, HF, hX, hEN, HOF, HL, hbr, hXW⟩ := hrel
        obtain ⟨W4, rfl⟩ : ∃ X, X = wr := ⟨_, rfl⟩
        obtain ⟨A1, c1, rfl⟩ := own_slice hEN.flo
        obtain ⟨A2, c2, rfl⟩ := own_slice hEN.buo
        obtain ⟨A3, c3, hv3⟩ := own_slice hEN.eno.bo.own
        subst hv3
        have hb3r := HKK.out.2.2.trans hbr
        by_cases hlt : i < nb
        · have hin : (i : Int) < (nb : Int) := by omega
          obtain ⟨x, hx⟩ : ∃ x, LB[i]? = some x := ⟨LB[i]'(by have := Hnb.out; omega), List.getElem?_eq_getElem _⟩
          obtain ⟨g, o, c9, hat0⟩ := (HBL.out w3 (Bel.refl _)).at hx
          have hQx : Q[i]? = some x.bu := by rw [← HQ.out, List.getElem?_map, hx]; rfl
          obtain ⟨hs1, hs2, _⟩ := HF.out.step (M := M) (B := B) HDK.out hQx (bns_ten HLB.out hx)
          have HF2 := Lib.hid hs2
          have HOK := Lib.hid (HF.out.ok (by omega))
          have HMS := Lib.hid (bns_ms HLB.out hx)
          have hfo := hat0.form
          injection hfo with h1 h2 h3
          subst h1
          have gl0 : g < w3.heap.size := hat0.lt
          have hs3r := hb3r.size
          have gl : g < W4.heap.size := by omega
          have gX : g ≠ X := by have := hwX; have := HKK.out.2.2.size; omega
          have hrow := hat0.row.bel hb3r gl0
          have hmx := hat0.mem.bel hb3r
          have HAD : Hid (∀ W, Bel W4 W → _) := fun W hb => elAdd_E M B E _ _ _ L x W _ (hEN.keep hb) HL.out HOK.out (hmx.bel hb) (by have := HMS.out; omega)
          rw [hs1] at HAD
          have HSM := Lib.hid (addE_same M B E x.bu)
          obtain ⟨E', HE'⟩ : ∃ E', Hid (addE M B E x.bu = E') := ⟨_, rfl⟩
          obtain ⟨E', b'⟩ := E'
          rw [HE'.out] at HAD HSM HF2
          simp only at HAD HSM HF2
          clear hs1 hs2 hx hQx h2 h3 hat0 HE' hmx
          obtain ⟨⟨i1, t1, kd1, s1, n1, d1, f1, a1, l1, c3', m3⟩, ms1⟩ := x
          simp only at hrow HAD
          let FIS : World → Prop := fun W' => InRow W' g (o + i * 9) [.int .i64 i1, .int .i64 t1, .int .i64 kd1, .int .i64 s1, .int .i64 n1, .string d1, .bool f1, .slice a1 l1 c3', .int .i64 m3]
          have hr0 : FIS W4 := hrow
          haveI nnS : Nonempty (InS FIS) := ⟨⟨W4, hr0⟩⟩
          have s0 := fun (p : InS FIS) => InRow.cell p.h 0 rfl
          have s1' := fun (p : InS FIS) => InRow.cell p.h 1 rfl
          have s2 := fun (p : InS FIS) => InRow.cell p.h 2 rfl
          have s3 := fun (p : InS FIS) => InRow.cell p.h 3 rfl
          have s4 := fun (p : InS FIS) => InRow.cell p.h 4 rfl
          have s5 := fun (p : InS FIS) => InRow.cell p.h 5 rfl
          have s6 := fun (p : InS FIS) => InRow.cell p.h 6 rfl
          have s7 := fun (p : InS FIS) => InRow.cell p.h 7 rfl
          have s8 := fun (p : InS FIS) => InRow.cell p.h 8 rfl
          simp only [Nat.add_zero] at s0
          go_upto_region 11 with fail
          refine wp_region_sts FIS [1, 2, 7, 11] 12 (by kernel_rfl) (by kernel_rfl) ?hS0 ?_
          case hS0 => exact hrow.bel (Bel.drew (Bel.refl W4)) gl
          have hrd : FIS W4.drew := hrow.bel (Bel.drew (Bel.refl W4)) gl
          with_reducible refine st_sel [0, 3, 4, 5, 6] (by kernel_rfl) (by kernel_rfl) ?_
          simp only [picked, List.getElem?_cons_succ, List.getElem?_cons_zero, Option.toList_some, List.nil_append, List.cons_append, List.append_nil]
          try simp only [Act.put, List.setIfInBounds_toArray, List.set_cons_succ, List.set_cons_zero]
          repeat (go_big_quiet_step (fail))
          with_reducible refine wpQuiet_nil ?_
          refine st_branch [1, 2] (by kernel_rfl) (branch_cons (by simp only [List.getElem?_toArray, List.getElem?_cons_succ, List.getElem?_cons_zero]; rfl) ?_ (branch_cons (by simp only [List.getElem?_toArray, List.getElem?_cons_succ, List.getElem?_cons_zero]; rfl) ?_ branch_nil))
          · skip
            refine eff_call_s 26 rfl (by simp [go_sem]; rfl) hrd ?_
            refine (HLM.out _).mono ?_; rintro e w5 ⟨rfl, hb5⟩
            have hbd5 : Bel W4 w5 := (Bel.drew (Bel.refl W4)).trans hb5
            have hr5 : FIS w5 := hrow.bel hbd5 gl
            refine ⟨_, rfl, hr5, ?_⟩
            try simp only [List.nil_append, List.cons_append, Act.put, List.setIfInBounds_toArray, List.set_cons_succ, List.set_cons_zero]
            refine st_branch [2] (by kernel_rfl) (branch_cons (by simp only [List.getElem?_toArray, List.getElem?_cons_succ, List.getElem?_cons_zero]; rfl) ?_ branch_nil)
            refine eff_made_s rfl (exec_load_off (W := w5) 31 _ rfl rfl (fun j v h => by rw [Nat.zero_add]; exact (hX.bel hbd5).1.2 j v h) _ Try.underlying31 rfl (by kernel_rfl)) ?_ ?_
            · exact hr5
            try simp only [List.nil_append, List.cons_append, Act.put, List.setIfInBounds_toArray, List.set_cons_succ, List.set_cons_zero]
            refine st_branch [7] (by kernel_rfl) (branch_cons (by simp only [List.getElem?_toArray, List.getElem?_cons_succ, List.getElem?_cons_zero]; rfl) ?_ branch_nil)
            refine eff_call_s 19 rfl (by simp [go_sem]; rfl) hr5 ?_
            refine (HAD.out _ hbd5).mono ?_; rintro e w6 ⟨fl', bu', en', L2, rfl, hE6, hL6, hb6⟩
            obtain ⟨A7, c7, rfl⟩ := own_slice hE6.flo
            obtain ⟨A8, c8, rfl⟩ := own_slice hE6.buo
            obtain ⟨A9, c9', hv9⟩ := own_slice hE6.eno.bo.own
            subst hv9
            have hb46 : Bel W4 w6 := hbd5.trans hb6
            have hr6 : FIS w6 := hrow.bel hb46 gl
            refine ⟨_, rfl, hr6, ?_⟩
            try simp only [List.nil_append, List.cons_append, Act.put, List.setIfInBounds_toArray, List.set_cons_succ, List.set_cons_zero]
            with_reducible refine st_sel [8, 9, 10] (by kernel_rfl) (by kernel_rfl) ?_
            simp only [picked, List.getElem?_cons_succ, List.getElem?_cons_zero, Option.toList_some, List.nil_append, List.cons_append, List.append_nil]
            try simp only [Act.put, List.setIfInBounds_toArray, List.set_cons_succ, List.set_cons_zero]
            repeat (go_big_quiet_step (fail))
            with_reducible refine wpQuiet_nil ?_
            refine st_branch [11] (by kernel_rfl) (branch_cons (by simp only [List.getElem?_toArray, List.getElem?_cons_succ, List.getElem?_cons_zero]; rfl) ?_ branch_nil)
            have one8 : ∀ u ∈ ([.int .i64 E.knd, .int .i64 E.rdE, .int .i64 E.wrE, .int .i64 E.vt, .slice A7 E'.fl.length c7, .slice A8 E.bk.length c8, .slice A9 L2.length c9', .int .i64 E.hd] : List Value), u.oneCell' = true := fun u hu => by
              simp only [List.mem_cons, List.not_mem_nil, or_false] at hu
              rcases hu with rfl | rfl | rfl | rfl | rfl | rfl | rfl | rfl <;> rfl
            have hX6 := hX.bel hb46
            have hs5 := hbd5.size
            have hs6 := hb6.size
            have hX9 := hX6.setRow [.int .i64 E.knd, .int .i64 E.rdE, .int .i64 E.wrE, .int .i64 E.vt, .slice A7 E'.fl.length c7, .slice A8 E.bk.length c8, .slice A9 L2.length c9', .int .i64 E.hd] rfl
            have hE9 := ElN.setRow (B := X) (i := 0) [.int .i64 E.knd, .int .i64 E.rdE, .int .i64 E.wrE, .int .i64 E.vt, .slice A7 E'.fl.length c7, .slice A8 E.bk.length c8, .slice A9 L2.length c9', .int .i64 E.hd] hE6 (by omega)
            have hb9 := Bel.setRow (B := X) (i := 0) [.int .i64 E.knd, .int .i64 E.rdE, .int .i64 E.wrE, .int .i64 E.vt, .slice A7 E'.fl.length c7, .slice A8 E.bk.length c8, .slice A9 L2.length c9', .int .i64 E.hd] (hbr.trans hb46) hwX
            have hr9 : FIS (setRow w6 X 0 [.int .i64 E.knd, .int .i64 E.rdE, .int .i64 E.wrE, .int .i64 E.vt, .slice A7 E'.fl.length c7, .slice A8 E.bk.length c8, .slice A9 L2.length c9', .int .i64 E.hd]) := InRow.setRow_other _ hr6 gX
            with_reducible refine eff_done_s (w' := setRow w6 X 0 [.int .i64 E.knd, .int .i64 E.rdE, .int .i64 E.wrE, .int .i64 E.vt, .slice A7 E'.fl.length c7, .slice A8 E.bk.length c8, .slice A9 L2.length c9', .int .i64 E.hd]) ?_ ?_ ?_ ?_
            · rfl
            · exact exec_store_at (vs := [.int .i64 E.knd, .int .i64 E.rdE, .int .i64 E.wrE, .int .i64 E.vt, .slice A7 E'.fl.length c7, .slice A8 E.bk.length c8, .slice A9 L2.length c9', .int .i64 E.hd]) 31 _ _ rfl rfl rfl hX6 rfl one8 (by kernel_rfl)
            · exact hr9
            try simp only [List.nil_append, List.cons_append, Act.put, List.setIfInBounds_toArray, List.set_cons_succ, List.set_cons_zero]
            refine st_end (by kernel_rfl) ?_
            simp only [List.drop_succ_cons, List.drop_zero, List.drop_nil]
            have HL6 := Lib.hid hL6
            have hE9l := hE9.offLow (N := X) (by omega)
            have hE9m := hE9.mono (base' := Wk.heap.size) (by have := hbr.size; omega)
            have hX9l := hX9.1.1
            clear hX hEN hbr hrow hr0 hrd hr5 hr6 hr9 hX6 hE6 hL6 hb6 hE9 one8 s0 s1' s2 s3 s4 s5 s6 s7 s8 nnS hb46 HAD hbd5 hb5 hb3r hs3r
            generalize setRow w6 X 0 [.int .i64 E.knd, .int .i64 E.rdE, .int .i64 E.wrE, .int .i64 E.vt, .slice A7 E'.fl.length c7, .slice A8 E.bk.length c8, .slice A9 L2.length c9', .int .i64 E.hd] = W9 at *
            have HXX := Lib.hid (And.intro hX9 (And.intro hE9l (And.intro hE9m (And.intro hb9 hX9l))))
            clear hX9 hE9l hE9m hb9 hX9l
            go_wp2
            obtain ⟨x1, x2, x3, x4, x5⟩ := HXX.out
            go_roundw
            case rel =>
              obtain ⟨q1, q2, q3, q4, q5, q6⟩ := HSM.out
              refine ⟨i + 1, E', .slice A7 E'.fl.length c7, .slice A8 E.bk.length c8, .slice A9 L2.length c9', L2, rfl, by go_num, by omega, HF2.out, ?_, ?_, x2, HL6.out, x4, x5⟩
              · rw [q1, q2, q3, q4, q6]; exact x1
              · rw [q5]; exact x3
            case measure => simp [intOf]; omega
          · skip
            refine eff_made_s rfl (exec_load_off (W := W4.drew) 31 _ rfl rfl (fun j v h => by rw [Nat.zero_add]; exact hX.drew.1.2 j v h) _ Try.underlying31 rfl (by kernel_rfl)) ?_ ?_
            · exact hrd
            try simp only [List.nil_append, List.cons_append, Act.put, List.setIfInBounds_toArray, List.set_cons_succ, List.set_cons_zero]
            refine st_branch [1] (by kernel_rfl) (branch_cons (by simp only [List.getElem?_toArray, List.getElem?_cons_succ, List.getElem?_cons_zero]; rfl) ?_ branch_nil)
            refine eff_call_s 26 rfl (by simp [go_sem]; rfl) hrd ?_
            refine (HLM.out _).mono ?_; rintro e w5 ⟨rfl, hb5⟩
            have hbd5 : Bel W4 w5 := (Bel.drew (Bel.refl W4)).trans hb5
            have hr5 : FIS w5 := hrow.bel hbd5 gl
            refine ⟨_, rfl, hr5, ?_⟩
            try simp only [List.nil_append, List.cons_append, Act.put, List.setIfInBounds_toArray, List.set_cons_succ, List.set_cons_zero]
            refine st_branch [7] (by kernel_rfl) (branch_cons (by simp only [List.getElem?_toArray, List.getElem?_cons_succ, List.getElem?_cons_zero]; rfl) ?_ branch_nil)
            refine eff_call_s 19 rfl (by simp [go_sem]; rfl) hr5 ?_
            refine (HAD.out _ hbd5).mono ?_; rintro e w6 ⟨fl', bu', en', L2, rfl, hE6, hL6, hb6⟩
            obtain ⟨A7, c7, rfl⟩ := own_slice hE6.flo
            obtain ⟨A8, c8, rfl⟩ := own_slice hE6.buo
            obtain ⟨A9, c9', hv9⟩ := own_slice hE6.eno.bo.own
            subst hv9
            have hb46 : Bel W4 w6 := hbd5.trans hb6
            have hr6 : FIS w6 := hrow.bel hb46 gl
            refine ⟨_, rfl, hr6, ?_⟩
            try simp only [List.nil_append, List.cons_append, Act.put, List.setIfInBounds_toArray, List.set_cons_succ, List.set_cons_zero]
            with_reducible refine st_sel [8, 9, 10] (by kernel_rfl) (by kernel_rfl) ?_
            simp only [picked, List.getElem?_cons_succ, List.getElem?_cons_zero, Option.toList_some, List.nil_append, List.cons_append, List.append_nil]
            try simp only [Act.put, List.setIfInBounds_toArray, List.set_cons_succ, List.set_cons_zero]
            repeat (go_big_quiet_step (fail))
            with_reducible refine wpQuiet_nil ?_
            refine st_branch [11] (by kernel_rfl) (branch_cons (by simp only [List.getElem?_toArray, List.getElem?_cons_succ, List.getElem?_cons_zero]; rfl) ?_ branch_nil)
            have one8 : ∀ u ∈ ([.int .i64 E.knd, .int .i64 E.rdE, .int .i64 E.wrE, .int .i64 E.vt, .slice A7 E'.fl.length c7, .slice A8 E.bk.length c8, .slice A9 L2.length c9', .int .i64 E.hd] : List Value), u.oneCell' = true := fun u hu => by
              simp only [List.mem_cons, List.not_mem_nil, or_false] at hu
              rcases hu with rfl | rfl | rfl | rfl | rfl | rfl | rfl | rfl <;> rfl
            have hX6 := hX.bel hb46
            have hs5 := hbd5.size
            have hs6 := hb6.size
            have hX9 := hX6.setRow [.int .i64 E.knd, .int .i64 E.rdE, .int .i64 E.wrE, .int .i64 E.vt, .slice A7 E'.fl.length c7, .slice A8 E.bk.length c8, .slice A9 L2.length c9', .int .i64 E.hd] rfl
            have hE9 := ElN.setRow (B := X) (i := 0) [.int .i64 E.knd, .int .i64 E.rdE, .int .i64 E.wrE, .int .i64 E.vt, .slice A7 E'.fl.length c7, .slice A8 E.bk.length c8, .slice A9 L2.length c9', .int .i64 E.hd] hE6 (by omega)
            have hb9 := Bel.setRow (B := X) (i := 0) [.int .i64 E.knd, .int .i64 E.rdE, .int .i64 E.wrE, .int .i64 E.vt, .slice A7 E'.fl.length c7, .slice A8 E.bk.length c8, .slice A9 L2.length c9', .int .i64 E.hd] (hbr.trans hb46) hwX
            have hr9 : FIS (setRow w6 X 0 [.int .i64 E.knd, .int .i64 E.rdE, .int .i64 E.wrE, .int .i64 E.vt, .slice A7 E'.fl.length c7, .slice A8 E.bk.length c8, .slice A9 L2.length c9', .int .i64 E.hd]) := InRow.setRow_other _ hr6 gX
            with_reducible refine eff_done_s (w' := setRow w6 X 0 [.int .i64 E.knd, .int .i64 E.rdE, .int .i64 E.wrE, .int .i64 E.vt, .slice A7 E'.fl.length c7, .slice A8 E.bk.length c8, .slice A9 L2.length c9', .int .i64 E.hd]) ?_ ?_ ?_ ?_
            · rfl
            · exact exec_store_at (vs := [.int .i64 E.knd, .int .i64 E.rdE, .int .i64 E.wrE, .int .i64 E.vt, .slice A7 E'.fl.length c7, .slice A8 E.bk.length c8, .slice A9 L2.length c9', .int .i64 E.hd]) 31 _ _ rfl rfl rfl hX6 rfl one8 (by kernel_rfl)
            · exact hr9
            try simp only [List.nil_append, List.cons_append, Act.put, List.setIfInBounds_toArray, List.set_cons_succ, List.set_cons_zero]
            refine st_end (by kernel_rfl) ?_
            simp only [List.drop_succ_cons, List.drop_zero, List.drop_nil]
            have HL6 := Lib.hid hL6
            have hE9l := hE9.offLow (N := X) (by omega)
            have hE9m := hE9.mono (base' := Wk.heap.size) (by have := hbr.size; omega)
            have hX9l := hX9.1.1
            clear hX hEN hbr hrow hr0 hrd hr5 hr6 hr9 hX6 hE6 hL6 hb6 hE9 one8 s0 s1' s2 s3 s4 s5 s6 s7 s8 nnS hb46 HAD hbd5 hb5 hb3r hs3r
            generalize setRow w6 X 0 [.int .i64 E.knd, .int .i64 E.rdE, .int .i64 E.wrE, .int .i64 E.vt, .slice A7 E'.fl.length c7, .slice A8 E.bk.length c8, .slice A9 L2.length c9', .int .i64 E.hd] = W9 at *
            have HXX := Lib.hid (And.intro hX9 (And.intro hE9l (And.intro hE9m (And.intro hb9 hX9l))))
            clear hX9 hE9l hE9m hb9 hX9l
            go_wp2
            obtain ⟨x1, x2, x3, x4, x5⟩ := HXX.out
            go_roundw
            case rel =>
              obtain ⟨q1, q2, q3, q4, q5, q6⟩ := HSM.out
              refine ⟨i + 1, E', .slice A7 E'.fl.length c7, .slice A8 E.bk.length c8, .slice A9 L2.length c9', L2, rfl, by go_num, by omega, HF2.out, ?_, ?_, x2, HL6.out, x4, x5⟩
              · rw [q1, q2, q3, q4, q6]; exact x1
              · rw [q5]; exact x3
            case measure => simp [intOf]; omega
        · obtain rfl : i = nb := by omega
          have jk : decide ((i : Int) < (i : Int)) = false := by simp
          have hok := HF.out.ok (by omega)
          have hfr := HF.out.free (by decide)
          have HDR := Lib.hid (fun W (hb : Bel W4 W) => drained_any E _ _ _ L W Wk.heap.size (hEN.keep hb) HL.out hok hfr (by have := hb.size; have := hbr.size; omega))
          clear hok hfr
          have k0 := (hX).1.2 0 _ rfl
          have k1 := (hX).1.2 1 _ rfl
          have k2 := (hX).1.2 2 _ rfl
          have k3 := (hX).1.2 3 _ rfl
          have k4 := (hX).1.2 4 _ rfl
          have k5 := (hX).1.2 5 _ rfl
          have k6 := (hX).1.2 6 _ rfl
          have k7 := (hX).1.2 7 _ rfl
          have kl := hX.1.1
          have hs4 := hbr.size
          go_wp2_with fail
          refine (HDR.out _ (by repeat (first | (with_reducible exact Bel.refl _) | (with_reducible assumption) | (with_reducible refine Bel.drewN ?_ _) | (with_reducible refine Bel.drew ?_) | (with_reducible refine Bel.alloc ?_ _) | (with_reducible refine Bel.setNew ?_ ?_ _) | (with_reducible refine Bel.trans ?_ (by assumption)) | (focus (simp; done)) | (focus (simp; omega))))).mono ?_; rintro e w6 ⟨S, E', ov, rfl, hRN, hE0, how, hb6⟩
          have HPM : Hid ((S.flatMap idsU).Perm (allI Q)) := run_perm HDK.out hRN (by rw [HQL.out]; exact HF.out.sch) hE0
          obtain ⟨I, HI⟩ : ∃ I, Hid (S.flatMap idsU = I) := ⟨_, rfl⟩
          rw [HI.out] at how HPM
          obtain ⟨ni, Hni⟩ : ∃ k, Hid (I.length = k) := ⟨_, rfl⟩
          rw [Hni.out] at how
          have HTS2 : Hid (sumP I = TS) := by show _ = _; rw [HTS.out]; exact sumP_perm HPM.out
          have HTL2 : Hid ((ni : Int) = TL) := by show _ = _; rw [HTL.out, ← HPM.out.length_eq, Hni.out]
          have HND : Hid I.Nodup := HPM.out.nodup_iff.2 (allI_nodup HDK.out)
          have HIN : Hid (∀ x ∈ I, ∃ k : Nat, x = (k : Int) ∧ k < 16) := fun x hx => allI_in HDK.out x (HPM.out.mem_iff.1 hx)
          have hn16 : ni ≤ 16 := by rw [← Hni.out, HPM.out.length_eq]; exact allI_len HDK.out
          obtain ⟨Ao, co, rfl⟩ := own_slice how
          have hob : Hid (∀ q, (Value.slice Ao ni co).ownBlock = some q → SA + 1 < q ∧ q < w6.heap.size) := fun q hq => by have := how.lt q hq; omega
          have hrd := Rd.own how
          have hk6 := hbr.trans hb6
          obtain ⟨hSA, hSB, hbk⟩ := HKK.out
          have hSA6 := hSA.bel hk6
          have hSB6 := hSB.bel hk6
          have hb36 := hbk.trans hk6
          clear k0 k1 k2 k3 k4 k5 k6 k7 kl hX hEN hbr HDR hRN how hb6 hk6 hSA hSB hbk HI hb3r
          have HX6 := Lib.hid (And.intro hrd (And.intro hSA6 (And.intro hSB6 hb36)))
          have hsa6 := hSB6.1.1
          clear hrd hSA6 hSB6 hb36
          go_upto_region 15 with fail
          have hS0 := AtF.new_at (w := w6) rfl 68 [.bool false, .bool false, .bool false, .bool false, .bool false, .bool false, .bool false, .bool false, .bool false, .bool false, .bool false, .bool false, .bool false, .bool false, .bool false, .bool false, .bool false, .bool false, .bool false, .bool false, .bool false, .bool false, .bool false, .bool false, .bool false, .bool false, .bool false, .bool false, .bool false, .bool false, .bool false, .bool false, .bool false, .bool false, .bool false, .bool false, .bool false, .bool false, .bool false, .bool false]
          have hbn5 : Bel w6 (w6.alloc (.cells [.bool false, .bool false, .bool false, .bool false, .bool false, .bool false, .bool false, .bool false, .bool false, .bool false, .bool false, .bool false, .bool false, .bool false, .bool false, .bool false, .bool false, .bool false, .bool false, .bool false, .bool false, .bool false, .bool false, .bool false, .bool false, .bool false, .bool false, .bool false, .bool false, .bool false, .bool false, .bool false, .bool false, .bool false, .bool false, .bool false, .bool false, .bool false, .bool false, .bool false].toArray 68)) := (Bel.refl w6).alloc _
          have one40 : ∀ u ∈ ([.bool false, .bool false, .bool false, .bool false, .bool false, .bool false, .bool false, .bool false, .bool false, .bool false, .bool false, .bool false, .bool false, .bool false, .bool false, .bool false, .bool false, .bool false, .bool false, .bool false, .bool false, .bool false, .bool false, .bool false, .bool false, .bool false, .bool false, .bool false, .bool false, .bool false, .bool false, .bool false, .bool false, .bool false, .bool false, .bool false, .bool false, .bool false, .bool false, .bool false] : List Value), u.oneCell' = true := fun u hu => by
            have h1 : ([.bool false, .bool false, .bool false, .bool false, .bool false, .bool false, .bool false, .bool false, .bool false, .bool false, .bool false, .bool false, .bool false, .bool false, .bool false, .bool false, .bool false, .bool false, .bool false, .bool false, .bool false, .bool false, .bool false, .bool false, .bool false, .bool false, .bool false, .bool false, .bool false, .bool false, .bool false, .bool false, .bool false, .bool false, .bool false, .bool false, .bool false, .bool false, .bool false, .bool false] : List Value) = List.replicate 40 (.bool false) := rfl
            rw [h1] at hu
            rw [List.eq_of_mem_replicate hu]; rfl
          refine wp_region_lit ?_
          refine wpList_pure rfl (.agg #[.bool false, .bool false, .bool false, .bool false, .bool false, .bool false, .bool false, .bool false, .bool false, .bool false, .bool false, .bool false, .bool false, .bool false, .bool false, .bool false, .bool false, .bool false, .bool false, .bool false, .bool false, .bool false, .bool false, .bool false, .bool false, .bool false, .bool false, .bool false, .bool false, .bool false, .bool false, .bool false, .bool false, .bool false, .bool false, .bool false, .bool false, .bool false, .bool false, .bool false]) (by kernel_rfl) ?_
          refine wpList_made rfl (.pointer (some ⟨w6.heap.size, 0, none⟩)) (w6.alloc (.cells [.bool false, .bool false, .bool false, .bool false, .bool false, .bool false, .bool false, .bool false, .bool false, .bool false, .bool false, .bool false, .bool false, .bool false, .bool false, .bool false, .bool false, .bool false, .bool false, .bool false, .bool false, .bool false, .bool false, .bool false, .bool false, .bool false, .bool false, .bool false, .bool false, .bool false, .bool false, .bool false, .bool false, .bool false, .bool false, .bool false, .bool false, .bool false, .bool false, .bool false].toArray 68)) (by kernel_rfl) ?_
          refine wpList_store_at rfl 68 _ _ rfl rfl rfl hS0 rfl one40 (by kernel_rfl) ?_
          refine wpList_nil ?_
          have hSN0 := hS0.setRow [.bool false, .bool false, .bool false, .bool false, .bool false, .bool false, .bool false, .bool false, .bool false, .bool false, .bool false, .bool false, .bool false, .bool false, .bool false, .bool false, .bool false, .bool false, .bool false, .bool false, .bool false, .bool false, .bool false, .bool false, .bool false, .bool false, .bool false, .bool false, .bool false, .bool false, .bool false, .bool false, .bool false, .bool false, .bool false, .bool false, .bool false, .bool false, .bool false, .bool false] rfl
          rw [← seenL_lit] at hSN0
          have hbn6 := Bel.setRow (B := w6.heap.size) (i := 0) [.bool false, .bool false, .bool false, .bool false, .bool false, .bool false, .bool false, .bool false, .bool false, .bool false, .bool false, .bool false, .bool false, .bool false, .bool false, .bool false, .bool false, .bool false, .bool false, .bool false, .bool false, .bool false, .bool false, .bool false, .bool false, .bool false, .bool false, .bool false, .bool false, .bool false, .bool false, .bool false, .bool false, .bool false, .bool false, .bool false, .bool false, .bool false, .bool false, .bool false] hbn5 (Nat.le_refl _)
          clear hS0 hbn5 one40
          rw [seenL_lit.symm] at hbn6 ⊢
          generalize setRow _ w6.heap.size 0 (bcells (seenL [])) = W7 at *
          simp only [Act.put, Act.eval, List.setIfInBounds_toArray, List.set_cons_succ, List.set_cons_zero]
          obtain ⟨SN, HSN⟩ : ∃ k, Hid (w6.heap.size = k) := ⟨_, rfl⟩
          rw [HSN.out] at hSN0 hob hsa6 ⊢
          go_wp2
          go_loopw [15] (fun jv wr => ∃ j : Nat, jv = .int .i64 j ∧ j ≤ ni ∧ AtF wr SN (bcells (seenL (I.take j))) ∧ AtF wr SA (intC (arrS TS kd (sumP (I.take j)))) ∧ AtF wr (SA + 1) (intC (arrS TL kd (j : Int))) ∧ Rd wr (.slice Ao ni co) 1 ni (intC I) ∧ Bel w3 wr) (fun jv _ => ni - (intOf jv).toNat)
          case atStart => exact ⟨0, rfl, by omega, hSN0, HX6.out.2.1.bel hbn6, HX6.out.2.2.1.bel hbn6, HX6.out.1.bel hbn6, HX6.out.2.2.2.trans hbn6⟩
          case round =>
            clear hSN0 hbn6 HX6
            obtain ⟨j, rfl, r1, hSN, hSA, hSB, hrd, hbj⟩ := hrel
            obtain ⟨W8, rfl⟩ : ∃ X, X = wr := ⟨_, rfl⟩
            by_cases hjl : j < ni
            · have hjn : (j : Int) < (ni : Int) := by omega
              have HJL := Lib.hid hjl
              have hIj : I[j]? = some (I[j]'(by have := Hni.out; omega)) := List.getElem?_eq_getElem _
              obtain ⟨k, hk1, hk2⟩ := HIN.out _ (List.mem_of_getElem? hIj)
              rw [hk1] at hIj
              clear hk1
              have HTK : Hid (I.take (j + 1) = I.take j ++ [(k : Int)]) := by
                show _ = _
                rw [List.take_add_one, hIj]; rfl
              have HNC : Hid ((I.take j).contains (k : Int) = false) := by
                show _ = _
                have h1 := HND.out.sublist (List.take_sublist (j + 1) I)
                rw [HTK.out, List.nodup_append] at h1
                rw [List.contains_eq_mem, decide_eq_false_iff_not]
                exact fun hm => h1.2.2 _ hm _ (by simp) rfl
              obtain ⟨go, oo, c8, hfo2, hgo, hco⟩ := hrd.at (by omega)
              injection hfo2 with h4 h5 h6
              subst h4
              have p0 := hco j (.int .i64 (k : Int)) (by unfold intC; rw [List.getElem?_map, hIj]; rfl)
              have q0 := hSN.1.2 k _ (bcells_at (seenL_at (show k < 40 by omega)))
              rw [HNC.out] at q0
              have u0 := hSA.1.2 kd (.int .i64 (sumP (I.take j))) (by unfold intC; rw [List.getElem?_map, arrS_at hkl]; rfl)
              have v0 := hSB.1.2 kd (.int .i64 (j : Int)) (by unfold intC; rw [List.getElem?_map, arrS_at hkl]; rfl)
              have k0 : ¬ (k : Int) < 0 := by omega
              have k40 : ¬ (k : Int) ≥ 40 := by omega
              have k41 : (k : Int) < 40 := by omega
              have nl := hSN.1.1
              have nf := hSN.2
              have hneS : (Value.slice (some ⟨go, oo, none⟩) ni co).ownBlock ≠ some SN := fun e => by have := (hob.out SN e).2; omega
              have hSN9 := hSN.set k (by rw [bcells, List.length_map, seenL_len]; omega) (.bool true)
              rw [bcells_set, seenL_set (by omega), ← HTK.out] at hSN9
              have hSA9 := hSA.other (C := SN) (by omega) k (.bool true)
              have hSB9 := hSB.other (C := SN) (by omega) k (.bool true)
              have hrd9 := hrd.far (p := ⟨SN, k, none⟩) hneS (.bool true)
              have hsw3 : w3.heap.size ≤ SN := by rw [HSA.out]; omega
              have hb9 := hbj.setNew (p := ⟨SN, k, none⟩) hsw3 (.bool true)
              go_upto_region 22 with fail
              clear p0 q0 u0 v0 k0 k40 k41 nl nf hSN hSA hSB hrd hbj hco
              generalize W8.setCell ⟨SN, k, none⟩ (.bool true) = W9 at *
              obtain ⟨go', oo', c8', hfo2, hgo', hco⟩ := hrd9.at (by omega)
              injection hfo2 with h4 h5' h6'
              injection h4 with h7
              injection h7 with h8 h9
              subst h8; subst h9
              have p0 := hco j (.int .i64 (k : Int)) (by unfold intC; rw [List.getElem?_map, hIj]; rfl)
              have u0 := hSA9.1.2 kd (.int .i64 (sumP (I.take j))) (by unfold intC; rw [List.getElem?_map, arrS_at hkl]; rfl)
              have ul := hSA9.1.1
              have rp0 := fun d os => cell_regrown p0 d os
              have ru0 := fun d os => cell_regrown u0 d os
              have k0 : ¬ (k : Int) < 0 := by omega
              have k1 : (0 : Int) ≤ (k : Int) := by omega
              have k2 : (k : Int) ≤ 64 := by omega
              have hpw := pow_bd hk2
              obtain ⟨p2, Hp2⟩ : ∃ p, Hid ((2 : Int) ^ k = p) := ⟨_, rfl⟩
              have HSQ : Hid (sumP (I.take (j + 1)) = sumP (I.take j) + p2) := by show _ = _; rw [HTK.out, sumP_snoc, Int.toNat_natCast, Hp2.out]
              have hsb := sumP_bd (I.take j) (fun x hx => HIN.out x (List.mem_of_mem_take hx))
              have hlj : (I.take j).length ≤ 16 := by rw [List.length_take]; omega
              obtain ⟨sp, Hsp⟩ : ∃ p, Hid (sumP (I.take j) = p) := ⟨_, rfl⟩
              rw [Hsp.out] at u0 ru0 hsb HSQ hSA9
              rw [Hp2.out] at hpw
              have es1 : IntKind.i64.wrap ((2 : Int) ^ k) = p2 := by rw [Hp2.out]; exact IntWalk.i64_in _ (by omega)
              have es2 : IntKind.i64.wrap (sp + p2) = sp + p2 := IntWalk.i64_in _ (by omega)
              have hlA : kd < (intC (arrS TS kd sp)).length := by rw [intC, List.length_map]; simp [arrS]; exact hkl
              have hlB : kd < (intC (arrS TL kd (j : Int))).length := by rw [intC, List.length_map]; simp [arrS]; exact hkl
              have hSAd := hSA9.drew
              have hSBd := hSB9.drew
              have hSNd := hSN9.drew
              have hrdd := hrd9.bel (Bel.drew (Bel.refl W9))
              have hbd := hb9.drew
              have eB : IntKind.i64.wrap ((j : Int) + 1) = (j : Int) + 1 := IntWalk.i64_in _ (by omega)
              refine wp_region_lex [] 10 (by kernel_rfl) (by kernel_rfl) ?_
              simp only [List.take_succ_cons, List.take_zero, List.drop_succ_cons, List.drop_zero]
              with_reducible refine lex_seg 10 _ _ _ _ (by kernel_rfl) ?_
              simp only [List.take_succ_cons, List.take_zero, List.drop_succ_cons, List.drop_zero]
              try simp only [Act.put, List.setIfInBounds_toArray, List.set_cons_succ, List.set_cons_zero]
              repeat (go_big_quiet_step (fail))
              with_reducible refine wpQuiet_nil ?_
              with_reducible refine lex_nil ?_
              clear rp0 ru0 p0 u0 ul hco hpw hsb es1 hSA9 hSB9 hSN9 hrd9 hb9
              have u0 := hSAd.1.2 kd (.int .i64 sp) (by unfold intC; rw [List.getElem?_map, arrS_at hkl]; rfl)
              have ul := hSAd.1.1
              have uf := hSAd.2
              generalize W9.drew = WD at *
              have hSA8 := hSAd.set kd hlA (.int .i64 (sp + p2))
              rw [intC_set, arrS_set] at hSA8
              have hSN8 := hSNd.other (C := SA) (by omega) kd (.int .i64 (sp + p2))
              have hSB8 := hSBd.other (C := SA) (by omega) kd (.int .i64 (sp + p2))
              have hrd8 := hrdd.far (p := ⟨SA, kd, none⟩) (fun e => by have := (hob.out SA e).1; omega) (.int .i64 (sp + p2))
              have hb8 := hbd.setNew (p := ⟨SA, kd, none⟩) (by show w3.heap.size ≤ SA; rw [HSA.out]; exact Nat.le_refl _) (.int .i64 (sp + p2))
              go_upto_region 23 with fail
              clear u0 ul uf es2 hSAd hSNd hSBd hrdd hbd
              generalize WD.setCell ⟨SA, kd, none⟩ (.int .i64 (sp + p2)) = W10 at *
              have v0 := hSB8.1.2 kd (.int .i64 (j : Int)) (by unfold intC; rw [List.getElem?_map, arrS_at hkl]; rfl)
              have vl := hSB8.1.1
              have vf := hSB8.2
              have hSB7 := hSB8.set kd hlB (.int .i64 ((j : Int) + 1))
              rw [intC_set, arrS_set] at hSB7
              have hSN7 := hSN8.other (C := SA + 1) (by omega) kd (.int .i64 ((j : Int) + 1))
              have hSA7 := hSA8.other (C := SA + 1) (by omega) kd (.int .i64 ((j : Int) + 1))
              have hrd7 := hrd8.far (p := ⟨SA + 1, kd, none⟩) (fun e => by have := (hob.out (SA + 1) e).1; omega) (.int .i64 ((j : Int) + 1))
              have hb7 := hb8.setNew (p := ⟨SA + 1, kd, none⟩) (by show w3.heap.size ≤ SA + 1; rw [HSA.out]; omega) (.int .i64 ((j : Int) + 1))
              have HX7 := Lib.hid (And.intro hSN7 (And.intro hSA7 (And.intro hSB7 (And.intro hrd7 hb7))))
              clear hSN7 hSA7 hSB7 hrd7 hb7 hSN8 hSA8 hSB8 hrd8 hb8 hIj hlA hlB
              go_wp2
              obtain ⟨x1, x2, x3, x4, x5⟩ := HX7.out
              go_roundw
              case rel => exact ⟨j + 1, by go_num, HJL.out, x1, by rw [HSQ.out]; exact x2, by rw [Int.natCast_add]; exact x3, x4, x5⟩
              case measure => have := HJL.out; simp [intOf]; omega
            · obtain rfl : j = ni := by omega
              have jk : decide ((j : Int) < (j : Int)) = false := by simp
              rw [List.take_of_length_le (by rw [Hni.out]; exact Nat.le_refl _), HTS2.out, arrS_next] at hSA
              rw [HTL2.out, arrS_next] at hSB
              have HX7 := Lib.hid (And.intro hSA (And.intro hSB hbj))
              clear hSA hSB hbj hSN hrd
              go_wp2
              obtain ⟨x1, x2, x3⟩ := HX7.out
              go_roundw
              case rel => exact ⟨kd + 1, by go_num, by omega, x1, x2, x3⟩
              case measure => simp [intOf]; omega
    · obtain rfl : kd = 3 := by omega
      have u0 := hSA.1.2 0 (.int .i64 TS) rfl
      have u1 := hSA.1.2 1 (.int .i64 TS) rfl
      have u2 := hSA.1.2 2 (.int .i64 TS) rfl
      have v0 := hSB.1.2 0 (.int .i64 TL) rfl
      have v1 := hSB.1.2 1 (.int .i64 TL) rfl
      have v2 := hSB.1.2 2 (.int .i64 TL) rfl
      have ul := hSA.1.1
      have vl := hSB.1.1
      have hbz := HB3.out.trans hbk
      go_wp2_with fail
      refine (awake33_any _).mono ?_; rintro e w9 ⟨rfl, hbz2⟩
      go_wp2
      go_ret
      exact ⟨rfl, (by repeat (first | (with_reducible exact Bel.refl _) | (with_reducible assumption) | (with_reducible refine Bel.drewN ?_ _) | (with_reducible refine Bel.drew ?_) | (with_reducible refine Bel.alloc ?_ _) | (with_reducible refine Bel.setNew ?_ ?_ _) | (with_reducible refine Bel.trans ?_ (by assumption)) | (focus (simp; done)) | (focus (simp; omega))))⟩
end Go.Proofs.Ytpgjbocjhconoaa
