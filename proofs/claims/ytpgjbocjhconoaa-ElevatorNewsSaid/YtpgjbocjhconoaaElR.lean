/- The law's drained: a scheduler without limits of rates sends all that it has. -/
import Derived.Test.YtpgjbocjhconoaaElF
namespace Go.Proofs.Ytpgjbocjhconoaa
open Go.RowKit Go.Maps
set_option linter.unusedSimpArgs false

/-- What is sent, one behind the other, at the tick 9. -/
inductive RunS : El → List Bu → El → Prop
  | nil (E : El) : RunS E [] E
  | snoc {E E1 E2 : El} {S : List Bu} {x : Qu} {k : Nat} (h : RunS E S E1) (hn : NextS E1 9 [] E2 x k) : RunS E (S ++ [x.u]) E2
/-- No bucket has a rate, and every entry has a bucket. -/
structure FreeE (E : El) : Prop where
  bk : E.bk.length = 4
  fr : ∀ x ∈ E.bk, x.rate = 0 ∧ bkOk x = true
  en : ∀ x ∈ E.en, 0 ≤ x.u.ten ∧ x.u.ten < 4 ∧ okU x.u = true
theorem FreeE.pay {E : El} (h : FreeE E) {x : Qu} (hx : x ∈ E.en) : (payE E x.u 9).2 = true := by
  obtain ⟨t0, t4, hok⟩ := h.en x hx
  have hr := okU_range hok
  unfold payE bkAt
  rw [if_pos t0]
  have hl : x.u.ten.toNat < E.bk.length := by rw [h.bk]; omega
  rw [List.getElem?_eq_getElem hl]
  obtain ⟨r0, hb⟩ := h.fr _ (List.getElem_mem hl)
  generalize E.bk[x.u.ten.toNat] = k at r0 hb
  obtain ⟨r, u, l, t⟩ := k
  simp only at r0
  subst r0
  have h1 := bkOk_iff.1 hb
  show (takeB ⟨0, u, l, t⟩ 9 (min x.u.cnt u)).2 = true
  have hr2 : rightB ⟨0, u, l, t⟩ 9 (min x.u.cnt u) = true := by
    unfold rightB
    rw [hb]
    simp only [Bool.true_and, Bool.and_eq_true, decide_eq_true_eq]
    exact ⟨by decide, by omega, by omega⟩
  unfold takeB
  rw [hr2]
  rfl
theorem FreeE.next {E E' : El} {x : Qu} {k : Nat} (h : FreeE E) (hn : NextS E 9 [] E' x k) : FreeE E' := by
  refine ⟨by rw [hn.bk, List.length_set]; exact h.bk, fun y hy => ?_, fun y hy => ?_⟩
  · rw [hn.bk] at hy
    rcases List.mem_or_eq_of_mem_set hy with hy | rfl
    · exact h.fr y hy
    · obtain ⟨t0, t4, _⟩ := h.en x (List.mem_of_getElem? hn.at_)
      have hl : x.u.ten.toNat < E.bk.length := by rw [h.bk]; omega
      have hp : payE E x.u 9 = takeB (E.bk[x.u.ten.toNat]) 9 (min x.u.cnt (E.bk[x.u.ten.toNat]).burst) := by
        unfold payE bkAt
        rw [if_pos t0, List.getElem?_eq_getElem hl]
      rw [hp]
      have hf := h.fr _ (List.getElem_mem hl)
      generalize E.bk[x.u.ten.toNat] = b at hf
      unfold takeB
      split
      · rw [if_pos hf.1]; exact hf
      · exact hf
  · rw [hn.en] at hy
    exact h.en y (List.mem_of_mem_eraseIdx hy)
theorem FreeE.go {E : El} (h : FreeE E) (h0 : 0 < E.en.length) : ∃ E' u x k, nxtE E 9 [] = (E', u, true) ∧ x.u = u ∧ NextS E 9 [] E' x k := by
  obtain ⟨E', y, k, h1, h2⟩ := nextE_go (E := E) (now := 9) (x := E.en[0]) (List.getElem?_eq_getElem h0) (h.pay (List.getElem_mem h0))
  refine ⟨E', y.u, y, k, ?_, rfl, h2⟩
  unfold nxtE
  rw [h1]
theorem RunS.len {E E' : El} {S : List Bu} (h : RunS E S E') : S.length + E'.en.length = E.en.length := by
  induction h with
  | nil => simp
  | snoc h hn ih =>
    have hk := (List.getElem?_eq_some_iff.1 hn.at_).1
    have h1 : _ = _ := congrArg List.length hn.en
    rw [List.length_eraseIdx_of_lt hk] at h1
    rw [List.length_append, h1]
    simp
    omega
def intC (l : List Int) : List Value := l.map (Value.int .i64)
theorem Try.infoIntE : (Try.prog.info? 3).map (fun i => (i.zero, i.size, i.bytes)) = some (some (.int .i64 0), 1, 8) := by kernel_rfl
theorem QN.grownOff {w w' : World} {base : Nat} {v : Value} {L : List QM} {row : Option Nat} (h : QN w base v L) (hg : w.grownBy w' row) (hv : ∀ g, row = some g → v.ownBlock ≠ some g) (hm : ∀ g, row = some g → ∀ x ∈ L, 0 < x.ms.length → (Value.slice x.q.b.mA x.q.b.mL x.q.b.mC).ownBlock ≠ some g) : QN w' base v L := by
  refine ⟨⟨h.bo.own.kept hg ?_, fun x hx => ?_, h.bo.sep⟩, h.fr⟩
  · cases hq : v.ownBlock with
    | none => exact .inl rfl
    | some k => exact .inr (fun e => hv k e.symm hq)
  · have hm1 := h.bo.mem x hx
    refine ⟨hm1.len, ?_, hm1.ids, hm1.dl⟩
    by_cases h0 : 0 < x.ms.length
    · exact hm1.rd.grown hg (fun b hb e => hm b e x hx h0 hb)
    · exact hm1.rd.empty h0 _
/-- Behind an append onto a row that is none of a scheduler's. -/
theorem ElN.grown {w w' : World} {base : Nat} {fl bu en : Value} {fs : List (Int × Int)} {bs : List Bk} {L : List QM} {row : Option Nat} (h : ElN w base fl bu en fs bs L) (hg : w.grownBy w' row) (ho : ∀ g, row = some g → Off g fl bu en L) : ElN w' base fl bu en fs bs L := by
  have kf : ∀ {e : TypeId} {size n : Nat} {xs : List Value} {u : Value}, w.ownsRow base e size u n xs → (∀ g, row = some g → u.ownBlock ≠ some g) → w'.ownsRow base e size u n xs := by
    intro e size n xs u hu hne
    refine hu.kept hg ?_
    cases hq : u.ownBlock with
    | none => exact .inl rfl
    | some k => exact .inr (fun e => hne k e.symm hq)
  exact ⟨kf h.flo fun g e => (ho g e).f, kf h.buo fun g e => (ho g e).b, h.eno.grownOff hg (fun g e => (ho g e).e) (fun g e => (ho g e).m), h.sFB, h.sFE, h.sBE, h.sFM, h.sBM⟩
theorem flat_snoc (S : List Bu) (u : Bu) : (S ++ [u]).flatMap idsU = S.flatMap idsU ++ idsU u := by simp
theorem ids_len (S : List Bu) (h : ∀ x ∈ S, x.ms.length ≤ 128) : (S.flatMap idsU).length ≤ S.length * 128 := by
  induction S with
  | nil => simp
  | cons x S ih =>
    have h1 := h x (by simp)
    have h2 := ih (fun y hy => h y (by simp [hy]))
    have e : (idsU x).length = x.ms.length := by unfold idsU; rw [List.length_map]
    rw [List.flatMap_cons, List.length_append, e, List.length_cons, Nat.succ_mul]
    omega
theorem RunS.small {E E' : El} {S : List Bu} (h : RunS E S E') (ho : ∀ x ∈ E.en, okU x.u = true) : (∀ x ∈ S, x.ms.length ≤ 128) ∧ ∀ x ∈ E'.en, okU x.u = true := by
  induction h with
  | nil => exact ⟨fun x hx => (by cases hx), ho⟩
  | snoc h hn ih =>
    obtain ⟨i1, i2⟩ := ih
    refine ⟨fun y hy => ?_, fun y hy => ?_⟩
    · rcases List.mem_append.1 hy with hy | hy
      · exact i1 y hy
      · rw [List.mem_singleton] at hy
        subst hy
        exact (ok_small (i2 _ (List.mem_of_getElem? hn.at_))).1
    · rw [hn.en] at hy
      exact i2 y (List.mem_of_mem_eraseIdx hy)
theorem RunS.oke {E E' : El} {S : List Bu} (h : RunS E S E') (ho : OkE E) : OkE E' := by
  induction h with
  | nil => exact ho
  | snoc h hn ih =>
    have i := ih
    refine ⟨by rw [hn.fl]; exact i.fl, by rw [hn.bk, List.length_set]; exact i.bk, ?_, fun y hy => ?_⟩
    · rw [hn.en]
      exact Nat.le_trans (List.length_eraseIdx_le _ _) i.en
    · rw [hn.en] at hy
      exact i.ok y (List.mem_of_mem_eraseIdx hy)
theorem RunS.free {E E' : El} {S : List Bu} (h : RunS E S E') (hf : FreeE E) : FreeE E' := by
  induction h with
  | nil => exact hf
  | snoc h hn ih => exact ih.next hn
theorem RunS.same {E E' : El} {S : List Bu} (h : RunS E S E') : E'.knd = E.knd ∧ E'.rdE = E.rdE ∧ E'.wrE = E.wrE := by
  induction h with
  | nil => exact ⟨rfl, rfl, rfl⟩
  | snoc h hn ih => exact ⟨hn.knd.trans ih.1, hn.rd.trans ih.2.1, hn.wr.trans ih.2.2⟩

set_option maxRecDepth 100000 in
set_option maxHeartbeats 16000000 in
theorem drained_any (E : El) (fl bu en : Value) (L : List QM) (w : World) (base : Nat) (hE : ElN w base fl bu en E.fl E.bk L) (hL : L.map QM.qu = E.en) (ho : OkE E) (hf : FreeE E) (hbs : base ≤ w.heap.size) :
    Calls Try.prog 25 #[.agg #[.int .i64 E.knd, .int .i64 E.rdE, .int .i64 E.wrE, .int .i64 E.vt, fl, bu, en, .int .i64 E.hd]] w fun e w' => ∃ S E' ov, e = .returned (.tuple #[ov, .bool true]) ∧ RunS E S E' ∧ E'.en = [] ∧
      w'.ownsRow w.heap.size 3 1 ov (S.flatMap idsU).length (intC (S.flatMap idsU)) ∧ Bel w w' := by
  obtain ⟨i0, hi0, hz0, hz1, hz2⟩ := info_parts Try.infoIntE
  have HO := Lib.hid ho
  have HF := Lib.hid hf
  obtain ⟨A1, c1, rfl⟩ := own_slice hE.flo
  obtain ⟨A2, c2, rfl⟩ := own_slice hE.buo
  obtain ⟨A3, c3, hv3⟩ := own_slice hE.eno.bo.own
  subst hv3
  have hX := AtF.new_at (w := w) rfl 31 [.int .i64 E.knd, .int .i64 E.rdE, .int .i64 E.wrE, .int .i64 E.vt, .slice A1 E.fl.length c1, .slice A2 E.bk.length c2, .slice A3 L.length c3, .int .i64 E.hd]
  have hbw : Bel w (w.alloc (.cells [.int .i64 E.knd, .int .i64 E.rdE, .int .i64 E.wrE, .int .i64 E.vt, .slice A1 E.fl.length c1, .slice A2 E.bk.length c2, .slice A3 L.length c3, .int .i64 E.hd].toArray 31)) := (by repeat (first | (with_reducible exact Bel.refl _) | (with_reducible assumption) | (with_reducible refine Bel.drewN ?_ _) | (with_reducible refine Bel.drew ?_) | (with_reducible refine Bel.alloc ?_ _) | (with_reducible refine Bel.setNew ?_ ?_ _) | (with_reducible refine Bel.trans ?_ (by assumption)) | (focus (simp; done)) | (focus (simp; omega))))
  have hEN := hE.keep hbw
  have HOF0 : Hid (Off w.heap.size (.slice A1 E.fl.length c1) (.slice A2 E.bk.length c2) (.slice A3 L.length c3) L) := hE.newOff (Nat.le_refl _)
  have HL0 := Lib.hid hL
  simp only [List.toArray] at hX hbw hEN
  clear ho hf hE hL
  go_enter Try.func25, Try.ntmps25
  go_wp2
  generalize hW : w.alloc _ = W at *
  clear hW
  obtain ⟨X, HX0⟩ : ∃ X, Hid (w.heap.size = X) := ⟨_, rfl⟩
  rw [HX0.out] at hX HOF0 hbs ⊢
  have hwX : w.heap.size ≤ X := by rw [HX0.out]; exact Nat.le_refl _
  have HS0 := Lib.hid (And.intro hX (And.intro hEN hbw))
  go_loopw [4, 5] (fun ov iv wr => ∃ (S : List Bu) (E' : El) (fl bu en : Value) (L' : List QM), iv = .int .i64 S.length ∧ Hid (RunS E S E') ∧ AtF wr X [.int .i64 E'.knd, .int .i64 E'.rdE, .int .i64 E'.wrE, .int .i64 E'.vt, fl, bu, en, .int .i64 E'.hd] ∧ ElN wr base fl bu en E'.fl E'.bk L' ∧ Hid (Off X fl bu en L') ∧ Hid (L'.map QM.qu = E'.en) ∧ wr.ownsRow (X + 1) 3 1 ov (S.flatMap idsU).length (intC (S.flatMap idsU)) ∧ Hid (∀ g, ov.ownBlock = some g → Off g fl bu en L') ∧ Bel w wr ∧ X < wr.heap.size) (fun _ iv _ => 40 - (intOf iv).toNat)
  case atStart => exact ⟨[], E, .slice A1 E.fl.length c1, .slice A2 E.bk.length c2, .slice A3 L.length c3, L, rfl, RunS.nil E, hX, hEN, HOF0, HL0, ⟨rfl, Or.inl ⟨rfl, rfl⟩⟩, fun g h => (by cases h), hbw, hX.1.1⟩
  case round =>
    clear hX hEN hbw HS0 HOF0 HL0
    obtain ⟨S, E', fl, bu, en, L', rfl, HRN, hX, hEN, HOF, HL, hown, HSP, hbr, hXW⟩ := hrel
    obtain ⟨W4, rfl⟩ : ∃ X, X = wr := ⟨_, rfl⟩
    obtain ⟨A1, c1, rfl⟩ := own_slice hEN.flo
    obtain ⟨A2, c2, rfl⟩ := own_slice hEN.buo
    obtain ⟨A3, c3, hv3⟩ := own_slice hEN.eno.bo.own
    subst hv3
    obtain ⟨I, HI⟩ : ∃ I, Hid (S.flatMap idsU = I) := ⟨_, rfl⟩
    rw [HI.out] at hown
    have hsm := HRN.out.small HO.out.ok
    have hil := ids_len S hsm.1
    rw [HI.out] at hil
    obtain ⟨ni, Hni⟩ : ∃ k, Hid (I.length = k) := ⟨_, rfl⟩
    rw [Hni.out] at hown hil
    obtain ⟨Ao, co, rfl⟩ := own_slice hown
    have hln := HRN.out.len
    have hl30 := HO.out.en
    have hll : L'.length = E'.en.length := by rw [← HL.out, List.length_map]
    have hi40 : (S.length : Int) < 40 := by omega
    have hni : ni ≤ 3840 := by omega
    obtain ⟨ns, Hns⟩ : ∃ k, Hid (S.length = k) := ⟨_, rfl⟩
    rw [Hns.out] at hi40 hln ⊢
    have HLN := Lib.hid hln
    have HN0 := Lib.hid hll
    obtain ⟨nl, Hnl⟩ : ∃ k, Hid (L'.length = k) := ⟨_, rfl⟩
    have e6 := hX.1.2 6 _ rfl
    rw [Hnl.out] at e6
    have el := hX.1.1
    clear hsm hil hln hll
    by_cases h0 : nl = 0
    · subst h0
      have HOW := Lib.hid (own_mono hown (base' := w.heap.size) (by omega))
      have HEN0 : Hid (E'.en = []) := List.length_eq_zero_iff.1 (by rw [← HN0.out]; exact Hnl.out)
      have re6 := fun d os => cell_regrown e6 d os
      clear hown
      go_upto_region 13 with fail
      refine wp_region_lex [] 7 (by kernel_rfl) (by kernel_rfl) ?_
      simp only [List.take_succ_cons, List.take_zero, List.drop_succ_cons, List.drop_zero]
      with_reducible refine lex_seg 7 _ _ _ _ (by kernel_rfl) ?_
      simp only [List.take_succ_cons, List.take_zero, List.drop_succ_cons, List.drop_zero]
      try simp only [Act.put, List.setIfInBounds_toArray, List.set_cons_succ, List.set_cons_zero]
      repeat (go_big_quiet_step (fail))
      with_reducible refine wpQuiet_nil ?_
      with_reducible refine lex_nil ?_
      clear re6 e6 el
      go_wp2
      exact bodyPost_ret (v := .tuple #[.slice Ao ni co, .bool true]) (by simp [results, Try.results25, go_sem]) rfl ⟨S, E', _, rfl, HRN.out, HEN0.out, by rw [HI.out, Hni.out]; exact own_keep HOW.out (by repeat (first | (with_reducible exact Bel.refl _) | (with_reducible assumption) | (with_reducible refine Bel.drewN ?_ _) | (with_reducible refine Bel.drew ?_) | (with_reducible refine Bel.alloc ?_ _) | (with_reducible refine Bel.setNew ?_ ?_ _) | (with_reducible refine Bel.trans ?_ (by assumption)) | (focus (simp; done)) | (focus (simp; omega)))), (by repeat (first | (with_reducible exact Bel.refl _) | (with_reducible assumption) | (with_reducible refine Bel.drewN ?_ _) | (with_reducible refine Bel.drew ?_) | (with_reducible refine Bel.alloc ?_ _) | (with_reducible refine Bel.setNew ?_ ?_ _) | (with_reducible refine Bel.trans ?_ (by assumption)) | (focus (simp; done)) | (focus (simp; omega))))⟩
    · have hn0 : (0 : Int) < (nl : Int) := by omega
      have HFG := (HRN.out.free HF.out).go (by rw [← HN0.out, Hnl.out]; omega)
      obtain ⟨E2, u, x, k, hnx, hxu, hNS⟩ := HFG
      have HRN2 := Lib.hid (RunS.snoc HRN.out hNS)
      have hoks := ok_small ((HRN.out.small HO.out.ok).2 x (List.mem_of_getElem? hNS.at_))
      rw [hxu] at HRN2 hoks
      have HNX := Lib.hid (elNext_E E' 9 _ _ _ _ L' [] W4 _ hEN HL.out (HRN.out.oke HO.out) (BL.nil W4))
      simp only [List.map_nil, hnx] at HNX
      obtain ⟨q1, q2, q3⟩ := nxtE_same E' 9 []
      rw [hnx] at q1 q2 q3
      have HSM := Lib.hid (And.intro q1 (And.intro q2 q3))
      have hum := hoks.1
      rw [Hnl.out] at HNX
      clear hNS hxu hnx q1 q2 q3 hoks e6
      have hX4 := hX
      rw [Hnl.out] at hX4
      have k0 := (hX4).1.2 0 _ rfl
      have k1 := (hX4).1.2 1 _ rfl
      have k2 := (hX4).1.2 2 _ rfl
      have k3 := (hX4).1.2 3 _ rfl
      have k4 := (hX4).1.2 4 _ rfl
      have k5 := (hX4).1.2 5 _ rfl
      have k6 := (hX4).1.2 6 _ rfl
      have k7 := (hX4).1.2 7 _ rfl
      go_wp2_with fail
      refine HNX.out.mono ?_; rintro e w5 ⟨fl5, bu5, en5, L5, A, c, rfl, hE5, hL5, hZ5, hb5⟩
      clear k0 k1 k2 k3 k4 k5 k6 k7 el HNX
      obtain ⟨A7, c7, rfl⟩ := own_slice hE5.flo
      obtain ⟨A8, c8, rfl⟩ := own_slice hE5.buo
      obtain ⟨A9, c9, hv9⟩ := own_slice hE5.eno.bo.own
      subst hv9
      have HL5 := Lib.hid hL5
      clear hL5
      obtain ⟨i1, t1, kd1, s1, n1, d1, f1, m1, tm⟩ := u
      simp only [Bu.at] at hZ5 ⊢
      have hsN := hb5.size
      have nw0 : Bel w5 ((w5.alloc (.cells [.int .i64 0, .int .i64 0, .int .i64 0, .int .i64 0, .slice none 0 0, .slice none 0 0, .slice none 0 0, .int .i64 0].toArray 31)).alloc (.cells [.int .i64 0, .int .i64 0, .int .i64 0, .int .i64 0, .int .i64 0, .string ⟨#[]⟩, .bool false, .slice none 0 0, .int .i64 0].toArray 42)) := (by repeat (first | (with_reducible exact Bel.refl _) | (with_reducible assumption) | (with_reducible refine Bel.drewN ?_ _) | (with_reducible refine Bel.drew ?_) | (with_reducible refine Bel.alloc ?_ _) | (with_reducible refine Bel.setNew ?_ ?_ _) | (with_reducible refine Bel.trans ?_ (by assumption)) | (focus (simp; done)) | (focus (simp; omega))))
      have nx0 := (AtF.new_at (w := w5) rfl 31 [.int .i64 0, .int .i64 0, .int .i64 0, .int .i64 0, .slice none 0 0, .slice none 0 0, .slice none 0 0, .int .i64 0]).alloc (.cells [.int .i64 0, .int .i64 0, .int .i64 0, .int .i64 0, .int .i64 0, .string ⟨#[]⟩, .bool false, .slice none 0 0, .int .i64 0].toArray 42)
      have ny0 := AtF.new_at (w := w5.alloc (.cells [.int .i64 0, .int .i64 0, .int .i64 0, .int .i64 0, .slice none 0 0, .slice none 0 0, .slice none 0 0, .int .i64 0].toArray 31)) (g := w5.heap.size + 1) (by simp) 42 [.int .i64 0, .int .i64 0, .int .i64 0, .int .i64 0, .int .i64 0, .string ⟨#[]⟩, .bool false, .slice none 0 0, .int .i64 0]
      have hi8 : (Try.prog.info? 31).map (·.size) = some 8 := by kernel_rfl
      have hi9 : (Try.prog.info? 42).map (·.size) = some 9 := by kernel_rfl
      have one8 : ∀ u ∈ ([.int .i64 E'.knd, .int .i64 E'.rdE, .int .i64 E'.wrE, .int .i64 E2.vt, .slice A7 E2.fl.length c7, .slice A8 E2.bk.length c8, .slice A9 L5.length c9, .int .i64 E2.hd] : List Value), u.oneCell' = true := fun u hu => by
        simp only [List.mem_cons, List.not_mem_nil, or_false] at hu
        rcases hu with rfl | rfl | rfl | rfl | rfl | rfl | rfl | rfl <;> rfl
      have one9 : ∀ u ∈ ([.int .i64 i1, .int .i64 t1, .int .i64 kd1, .int .i64 s1, .int .i64 n1, .string d1, .bool f1, .slice A m1.length c, .int .i64 tm] : List Value), u.oneCell' = true := fun u hu => by
        simp only [List.mem_cons, List.not_mem_nil, or_false] at hu
        rcases hu with rfl | rfl | rfl | rfl | rfl | rfl | rfl | rfl | rfl <;> rfl
      have ny1 := ny0.setRow_other (B := w5.heap.size) (i := 0) [.int .i64 E'.knd, .int .i64 E'.rdE, .int .i64 E'.wrE, .int .i64 E2.vt, .slice A7 E2.fl.length c7, .slice A8 E2.bk.length c8, .slice A9 L5.length c9, .int .i64 E2.hd] (by omega)
      have nx2 := (nx0.setRow [.int .i64 E'.knd, .int .i64 E'.rdE, .int .i64 E'.wrE, .int .i64 E2.vt, .slice A7 E2.fl.length c7, .slice A8 E2.bk.length c8, .slice A9 L5.length c9, .int .i64 E2.hd] rfl).setRow_other (B := w5.heap.size + 1) (i := 0) [.int .i64 i1, .int .i64 t1, .int .i64 kd1, .int .i64 s1, .int .i64 n1, .string d1, .bool f1, .slice A m1.length c, .int .i64 tm] (by omega)
      have ny2 := ny1.setRow [.int .i64 i1, .int .i64 t1, .int .i64 kd1, .int .i64 s1, .int .i64 n1, .string d1, .bool f1, .slice A m1.length c, .int .i64 tm] rfl
      have nw2 := Bel.setRow (B := w5.heap.size + 1) (i := 0) [.int .i64 i1, .int .i64 t1, .int .i64 kd1, .int .i64 s1, .int .i64 n1, .string d1, .bool f1, .slice A m1.length c, .int .i64 tm] (Bel.setRow (B := w5.heap.size) (i := 0) [.int .i64 E'.knd, .int .i64 E'.rdE, .int .i64 E'.wrE, .int .i64 E2.vt, .slice A7 E2.fl.length c7, .slice A8 E2.bk.length c8, .slice A9 L5.length c9, .int .i64 E2.hd] nw0 (by omega)) (by omega)
      simp only [List.toArray] at nx0 ny1 nx2 ny2 nw2
      rename_i hKK
      refine hKK _ _ ?_
      iterate 18 (first | go_step | go_upon | go_values)
      refine wpList_store_at rfl 31 _ _ rfl rfl rfl nx0 rfl one8 hi8 ?_
      refine wpList_store_at rfl 42 _ _ rfl rfl rfl ny1 rfl one9 hi9 ?_
      clear nx0 ny0 nw0 ny1 one8 one9 hi8 hi9 hKK
      generalize setRow (setRow ((w5.alloc (.cells #[.int .i64 0, .int .i64 0, .int .i64 0, .int .i64 0, .slice none 0 0, .slice none 0 0, .slice none 0 0, .int .i64 0] 31)).alloc (.cells #[.int .i64 0, .int .i64 0, .int .i64 0, .int .i64 0, .int .i64 0, .string ⟨#[]⟩, .bool false, .slice none 0 0, .int .i64 0] 42)) w5.heap.size 0 [.int .i64 E'.knd, .int .i64 E'.rdE, .int .i64 E'.wrE, .int .i64 E2.vt, .slice A7 E2.fl.length c7, .slice A8 E2.bk.length c8, .slice A9 L5.length c9, .int .i64 E2.hd]) (w5.heap.size + 1) 0 [.int .i64 i1, .int .i64 t1, .int .i64 kd1, .int .i64 s1, .int .i64 n1, .string d1, .bool f1, .slice A m1.length c, .int .i64 tm] = NW at *
      have ne2 := (hE5).keep nw2
      generalize w5.heap.size = NY at *
      simp only [Act.put, Act.eval, List.setIfInBounds_toArray, List.set_cons_succ, List.set_cons_zero]
      obtain ⟨nm, Hnm⟩ : ∃ k, Hid (m1.length = k) := ⟨_, rfl⟩
      have hum' : m1.length ≤ 128 := hum
      rw [Hnm.out] at ny2 hum' ⊢
      have nxw := hb5.trans nw2
      have hX5 := hX.bel nxw
      have how5 := own_keep hown nxw
      have hb5w := hbr.trans nxw
      have hsw := nxw.size
      have hEb := ne2.mono (base' := base) (by omega)
      have HSP5 : Hid (∀ g, (Value.slice Ao ni co).ownBlock = some g → Off g (.slice A7 E2.fl.length c7) (.slice A8 E2.bk.length c8) (.slice A9 L5.length c9) L5 ∧ (0 < m1.length → (Value.slice A m1.length c).ownBlock ≠ some g) ∧ g ≠ NY ∧ g ≠ NY + 1) := fun g hg => by
        have h1 := (hown.lt g hg).2
        refine ⟨ne2.offLow (by omega), fun _ e => ?_, by omega, by omega⟩
        have h2 := hZ5.2 g e
        omega
      have hmz := hZ5.1.bel nw2
      have HXO := Lib.hid (ne2.offLow (N := X) (by omega))
      have HUI : Hid (idsU ⟨i1, t1, kd1, s1, n1, d1, f1, m1, tm⟩ = m1.map Mem.id) := rfl
      simp only [Bu.at] at hmz
      clear hX hown hbr hb5 nw2 hEN hE5 nxw HSP hX4 hZ5 ne2
      have HS1 := Lib.hid (And.intro hX5 (And.intro nx2 (And.intro ny2 (And.intro hEb (And.intro hmz (And.intro how5 hb5w))))))
      go_wp2
      go_loopw [4, 9] (fun ov jv wr => ∃ j : Nat, jv = .int .i64 j ∧ j ≤ nm ∧ AtF wr X [.int .i64 E'.knd, .int .i64 E'.rdE, .int .i64 E'.wrE, .int .i64 E'.vt, .slice A1 E'.fl.length c1, .slice A2 E'.bk.length c2, .slice A3 L'.length c3, .int .i64 E'.hd] ∧ AtF wr NY [.int .i64 E'.knd, .int .i64 E'.rdE, .int .i64 E'.wrE, .int .i64 E2.vt, .slice A7 E2.fl.length c7, .slice A8 E2.bk.length c8, .slice A9 L5.length c9, .int .i64 E2.hd] ∧ AtF wr (NY + 1) [.int .i64 i1, .int .i64 t1, .int .i64 kd1, .int .i64 s1, .int .i64 n1, .string d1, .bool f1, .slice A nm c, .int .i64 tm] ∧ ElN wr base (.slice A7 E2.fl.length c7) (.slice A8 E2.bk.length c8) (.slice A9 L5.length c9) E2.fl E2.bk L5 ∧ Mems wr ⟨i1, t1, kd1, s1, n1, d1, f1, A, m1.length, c, tm⟩ m1 ∧ wr.ownsRow (X + 1) 3 1 ov (ni + j) (intC (I ++ (m1.map Mem.id).take j)) ∧ Hid (∀ g, ov.ownBlock = some g → Off g (.slice A7 E2.fl.length c7) (.slice A8 E2.bk.length c8) (.slice A9 L5.length c9) L5 ∧ (0 < m1.length → (Value.slice A m1.length c).ownBlock ≠ some g) ∧ g ≠ NY ∧ g ≠ NY + 1) ∧ Bel w wr) (fun _ jv _ => nm - (intOf jv).toNat)
      case atStart => exact ⟨0, rfl, by omega, hX5, nx2, ny2, hEb, hmz, by simpa using how5, HSP5, hb5w⟩
      case round =>
        clear hX5 nx2 ny2 hEb hmz how5 HSP5 hb5w HS1
        obtain ⟨j, rfl, r1, hX, hY, hZ, hEN, hM, hown, HSP, hbr⟩ := hrel
        obtain ⟨W6, rfl⟩ : ∃ X, X = wr := ⟨_, rfl⟩
        obtain ⟨Ao, co, rfl⟩ := own_slice hown
        by_cases hjl : j < nm
        · have hjn : (j : Int) < (nm : Int) := by omega
          obtain ⟨y, hy⟩ : ∃ y, m1[j]? = some y := ⟨m1[j]'(by have := Hnm.out; omega), List.getElem?_eq_getElem _⟩
          obtain ⟨gm, om, cm, hfm, hgm, hcm⟩ := hM.rd.at (by have := Hnm.out; omega)
          have hfo := hfm
          injection hfo with h1 h2 h3
          subst h1
          clear h2 h3 hfm
          have q0 := hcm _ _ (flat_at (l := m1) (f := Mem.cells) Mem.cells_len hy (j := 0) rfl)
          rw [Nat.add_zero] at q0
          have HTK : Hid ((m1.map Mem.id).take (j + 1) = (m1.map Mem.id).take j ++ [y.id]) := by
            show _ = _
            rw [List.take_add_one, List.getElem?_map, hy]; rfl
          have z7 := hZ.1.2 7 _ rfl
          have zl := hZ.1.1
          have hsz6 : X + 1 ≤ W6.heap.size := by have := hX.1.1; omega
          have hnj : ni + j ≤ 3968 := by omega
          have HW := Lib.hid (And.intro hX (And.intro hY (And.intro hZ (And.intro hEN (And.intro hM (And.intro hown hbr))))))
          clear hX hY hZ hEN hM hcm hy
          go_wp2_with (at_builtin; go_must (refine wpList_append_own_at _ rfl _ _ 24 rfl (X + 1) 3 i0 _ 1 8 Try.underlying24 hi0 hz0 hz1 hz2 rfl (by omega) (.slice Ao (ni + j) co) _ _ rfl (hown.alloc _) ⟨W6.heap.size, 0, none⟩ 1 1 [.int .i64 y.id] rfl rfl (World.news_of_block (cs := #[.int .i64 y.id]) (t := 3) (fr := (0, 0)) (heap_alloc_new W6 _)) (by simp [Value.oneCell']) (by unfold maxLen; omega) (by omega) (by simp; omega) ?_); intro v' w3 hown' hg' _ hloc; obtain ⟨gn, cn, hvn, _, _⟩ := hown'.form (by omega); subst hvn)
          obtain ⟨hX, hY, hZ, hEN, hM, hown, hbr⟩ := HW.out
          have hna : Bel W6 (W6.alloc (.cells #[.int .i64 y.id] 3)) := (by repeat (first | (with_reducible exact Bel.refl _) | (with_reducible assumption) | (with_reducible refine Bel.drewN ?_ _) | (with_reducible refine Bel.drew ?_) | (with_reducible refine Bel.alloc ?_ _) | (with_reducible refine Bel.setNew ?_ ?_ _) | (with_reducible refine Bel.trans ?_ (by assumption)) | (focus (simp; done)) | (focus (simp; omega))))
          have hne : ∀ q, q ≠ X → True := fun _ _ => trivial
          have hox : some X ≠ (Value.slice Ao (ni + j) co).ownBlock := fun e => by have := (hown.lt X e.symm).1; omega
          have hoy : some NY ≠ (Value.slice Ao (ni + j) co).ownBlock := fun e => (HSP.out NY e.symm).2.2.1 rfl
          have hoz : some (NY + 1) ≠ (Value.slice Ao (ni + j) co).ownBlock := fun e => (HSP.out (NY + 1) e.symm).2.2.2 rfl
          have hX3 := (hX.bel hna).grown hg' hox
          have hY3 := (hY.bel hna).grown hg' hoy
          have hZ3 := (hZ.bel hna).grown hg' hoz
          have hEN3 := ElN.grown (hEN.keep hna) hg' (fun g hg => (HSP.out g hg).1)
          have hM3 : Mems w3 ⟨i1, t1, kd1, s1, n1, d1, f1, _, m1.length, c, tm⟩ m1 := ⟨hM.len, (hM.rd.bel hna).grown hg' (fun b hb e => (HSP.out b e).2.1 (by rw [Hnm.out]; omega) hb), hM.ids, hM.dl⟩
          have hb3 := bel_own (hbr.trans hna) (hown.alloc _) hg' (by omega)
          have HSP3 : Hid (∀ g, (Value.slice (some ⟨gn, 0, none⟩) (ni + j + 1) cn).ownBlock = some g → Off g (.slice A7 E2.fl.length c7) (.slice A8 E2.bk.length c8) (.slice A9 L5.length c9) L5 ∧ (0 < m1.length → (Value.slice (some ⟨gm, om, none⟩) m1.length c).ownBlock ≠ some g) ∧ g ≠ NY ∧ g ≠ NY + 1) := fun g hg => by
            rcases hloc with e1 | e1
            · exact HSP.out g (by rw [← e1]; exact hg)
            · rw [e1] at hg
              injection hg with hg
              have hgs : W6.heap.size ≤ g := by rw [← hg]; simp
              have y1 := hY.1.1
              have z1 := hZ.1.1
              refine ⟨hEN.newOff hgs, fun h0 e => ?_, by omega, by omega⟩
              have := hM.rd.own_lt h0 e
              omega
          have how3 : w3.ownsRow (X + 1) 3 1 (.slice (some ⟨gn, 0, none⟩) (ni + j + 1) cn) (ni + (j + 1)) (intC (I ++ (m1.map Mem.id).take (j + 1))) := by
            rw [HTK.out]
            have e1 : intC (I ++ ((m1.map Mem.id).take j ++ [y.id])) = intC (I ++ (m1.map Mem.id).take j) ++ [.int .i64 y.id] := by simp [intC]
            rw [e1]
            exact hown'
          have HW3 := Lib.hid (And.intro hX3 (And.intro hY3 (And.intro hZ3 (And.intro hEN3 (And.intro hM3 (And.intro how3 hb3))))))
          clear hX hY hZ hEN hM hown hbr hX3 hY3 hZ3 hEN3 hM3 how3 hb3 hown' hg' hloc hne hox hoy hoz hna
          go_roundw
          case rel =>
            obtain ⟨g1, g2, g3, g4, g5, g6, g7⟩ := HW3.out
            exact ⟨j + 1, by go_num, by omega, g1, g2, g3, g4, g5, g6, HSP3, g7⟩
          case measure => simp [intOf]; omega
        · obtain rfl : j = nm := by omega
          have jk : decide ((j : Int) < (j : Int)) = false := by simp
          have z7 := hZ.1.2 7 _ rfl
          have zl := hZ.1.1
          have hX2 := hX
          have y0 := (hY).1.2 0 _ rfl
          have y1 := (hY).1.2 1 _ rfl
          have y2 := (hY).1.2 2 _ rfl
          have y3 := (hY).1.2 3 _ rfl
          have y4 := (hY).1.2 4 _ rfl
          have y5 := (hY).1.2 5 _ rfl
          have y6 := (hY).1.2 6 _ rfl
          have y7 := (hY).1.2 7 _ rfl
          have yl := hY.1.1
          have hsz6 := hX.1.1
          have hEO : ElN (setRow W6 X 0 [.int .i64 E'.knd, .int .i64 E'.rdE, .int .i64 E'.wrE, .int .i64 E2.vt, .slice A7 E2.fl.length c7, .slice A8 E2.bk.length c8, .slice A9 L5.length c9, .int .i64 E2.hd]) base (.slice A7 E2.fl.length c7) (.slice A8 E2.bk.length c8) (.slice A9 L5.length c9) E2.fl E2.bk L5 := ElN.offRow HXO.out _ hEN
          have hox : (Value.slice Ao (ni + j) co).ownBlock ≠ some X := fun e => by have := (hown.lt X e).1; omega
          have how9 := setRow_own (B := X) (i := 0) [.int .i64 E'.knd, .int .i64 E'.rdE, .int .i64 E'.wrE, .int .i64 E2.vt, .slice A7 E2.fl.length c7, .slice A8 E2.bk.length c8, .slice A9 L5.length c9, .int .i64 E2.hd] hown hox
          have hX9 := hX.setRow [.int .i64 E'.knd, .int .i64 E'.rdE, .int .i64 E'.wrE, .int .i64 E2.vt, .slice A7 E2.fl.length c7, .slice A8 E2.bk.length c8, .slice A9 L5.length c9, .int .i64 E2.hd] rfl
          have hb9 := Bel.setRow (B := X) (i := 0) [.int .i64 E'.knd, .int .i64 E'.rdE, .int .i64 E'.wrE, .int .i64 E2.vt, .slice A7 E2.fl.length c7, .slice A8 E2.bk.length c8, .slice A9 L5.length c9, .int .i64 E2.hd] hbr (by omega)
          have hsz9 := hX9.1.1
          simp only [setRow, Nat.zero_add, Nat.reduceAdd] at hEO how9 hX9 hb9 hsz9
          have k0 := (hX2).1.2 0 _ rfl
          have k1 := (hX2).1.2 1 _ rfl
          have k2 := (hX2).1.2 2 _ rfl
          have k3 := (hX2).1.2 3 _ rfl
          have k4 := (hX2).1.2 4 _ rfl
          have k5 := (hX2).1.2 5 _ rfl
          have k6 := (hX2).1.2 6 _ rfl
          have k7 := (hX2).1.2 7 _ rfl
          have kf := hX2.2
          have kl := hX2.1.1
          have HI2 : Hid ((S ++ [(⟨i1, t1, kd1, s1, n1, d1, f1, m1, tm⟩ : Bu)]).flatMap idsU = I ++ (m1.map Mem.id).take j) := by
            show _ = _
            rw [flat_snoc, HI.out, HUI.out, List.take_of_length_le (by rw [List.length_map, Hnm.out]; exact Nat.le_refl _)]
          have HN2 : Hid ((I ++ (m1.map Mem.id).take j).length = ni + j) := by
            show _ = _
            rw [List.length_append, Hni.out, List.length_take, List.length_map, Hnm.out, Nat.min_self]
          have HS2 : Hid ((S ++ [(⟨i1, t1, kd1, s1, n1, d1, f1, m1, tm⟩ : Bu)]).length = ns + 1) := by show _ = _; rw [List.length_append, Hns.out]; rfl
          have HNS := Lib.hid (show ns ≤ 30 by have := HLN.out; omega)
          have HW3 := Lib.hid (And.intro hX9 (And.intro hEO (And.intro how9 (And.intro hb9 hsz9))))
          clear hX hY hZ hEN hM hown hbr hX9 hEO how9 hb9 hsz9 hX2 hox
          go_wp2
          clear y0 y1 y2 y3 y4 y5 y6 y7 yl k0 k1 k2 k3 k4 k5 k6 k7 kf kl
          go_roundw
          case rel =>
            obtain ⟨g1, g2, g3, g4, g5⟩ := HW3.out
            obtain ⟨q1, q2, q3⟩ := HSM.out
            refine ⟨S ++ [⟨i1, t1, kd1, s1, n1, d1, f1, m1, tm⟩], E2, .slice A7 E2.fl.length c7, .slice A8 E2.bk.length c8, .slice A9 L5.length c9, L5, ?_, HRN2, ?_, g2, HXO, HL5, ?_, fun g hg => (HSP.out g hg).1, g4, g5⟩
            · rw [HS2.out]; go_num
            · rw [q1, q2, q3]; exact g1
            · rw [HI2.out, HN2.out]; exact g3
          case measure => have := HNS.out; simp [intOf]; omega
end Go.Proofs.Ytpgjbocjhconoaa
