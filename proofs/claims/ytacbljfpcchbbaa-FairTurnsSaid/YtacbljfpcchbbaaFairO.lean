/- The walk of FairOrder. -/
import Derived.Test.YtacbljfpcchbbaaOrd
import Derived.Test.YtacbljfpcchbbaaRem
import Derived.Test.YtacbljfpcchbbaaFairH
namespace Go.Proofs.Ytacbljfpcchbbaa
open Go.RowKit
set_option linter.unusedSimpArgs false

def lenV : Value → Nat
  | .slice _ n _ => n
  | _ => 0
def icells (a : List Int) : List Value := a.map (.int .i64)
theorem icells_at {a : List Int} {k : Nat} {v : Int} (h : a[k]? = some v) : (icells a)[k]? = some (.int .i64 v) := by simp [icells, h]
theorem icells_set (a : List Int) (k : Nat) (v : Int) : (icells a).set k (.int .i64 v) = icells (a.set k v) := by simp [icells, List.map_set]
theorem rnd_id {n m : Int} (h0 : 0 ≤ n) (h1 : n < m) (h2 : m ≤ 9223372036854775807) : rnd n m = n := by
  unfold rnd
  rw [if_neg (by omega), Int.emod_eq_of_lt h0 (by omega), Int.emod_eq_of_lt h0 h1]

theorem cell_set1 (w : World) {b o B : Nat} (h : B ≠ b) (u : Value) (i : Nat) : (w.setCell ⟨B, i, none⟩ u).cell? ⟨b, o, none⟩ = w.cell? ⟨b, o, none⟩ :=
  World.cell?_setCell_other _ _ _ _ (by simp [h])

set_option maxRecDepth 100000 in
set_option maxHeartbeats 4000000 in
theorem fairOrder_walk (n : Int) (v : Value) (zs : List Int) (w : World) (_ : IsInt n) (hz : Ints w v zs) :
    Calls Try.prog 5 #[.int .i64 n, v] w fun e w' => e = .returned (.bool true) ∧ Bel w w' := by
  have HI := Lib.hid hz
  obtain ⟨i0, hi0, hz0, hz1, hz2⟩ := info_parts Try.infoQueued
  obtain ⟨hzi, A, cp, rfl, hcp, hmx, _⟩ := hz
  unfold maxLen at hmx
  clear hzi
  have hF := madeF_fok n
  obtain ⟨M, HM⟩ : ∃ M, Hid (M = madeF n) := ⟨_, rfl⟩
  rw [← HM.out] at hF
  have HF := Lib.hid hF
  obtain ⟨l0, HL0⟩ : ∃ l0, Hid (l0 = stQ M 0 (zs.take 30)) := ⟨_, rfl⟩
  have hl0 : l0.length = (zs.take 30).length := by rw [HL0.out, stQ_len]
  have hst : OrdI l0 [-1, -1, -1] 0 := by rw [HL0.out]; exact OrdI.start hF _ (by simp; omega)
  have HST := Lib.hid hst
  have hmin : (if (zs.length : Int) < 30 then (zs.length : Int) else 30) = (l0.length : Int) := by rw [hl0, List.length_take]; split <;> omega
  have hl30 : l0.length ≤ 30 := by rw [hl0, List.length_take]; omega
  have HN := Lib.hid hmin
  have HL := Lib.hid hl0
  obtain ⟨m, Hm⟩ : ∃ m, Hid (m = zs.length) := ⟨_, rfl⟩
  rw [← Hm.out] at hcp HN HI ⊢
  clear hF hst hl0 hmin
  go_enter Try.func5, Try.ntmps5
  go_wp2_with fail
  refine (madeFair_any n _).mono ?_; rw [← HM.out]; rintro e w1 ⟨v1, rfl, hown1, hb1⟩
  go_wp2_with fail
  refine (stamped_any M v1 _ zs _ HF.out (Rd.own hown1) (HI.out.bel hb1)).mono ?_; rw [← HL0.out, ← HL.out]; rintro e w2 ⟨v2, q2, rfl, hR2, hQ2, hb2⟩
  have hbw2 : Bel w w2 := hb1.trans hb2
  obtain ⟨A2, cp2, rfl, _, _⟩ := hR2.form
  obtain ⟨Aq, cpq, rfl, _, _⟩ := hQ2.form
  clear hown1 hb1 hb2
  have hmin := HN.out
  go_wp2
  have hb0 : Bel w ((w2.alloc (.cells #[.int .i64 0, .slice A2 3 cp2] 25)).alloc (.cells #[.int .i64 (-1), .int .i64 (-1), .int .i64 (-1)] 44)) := (hbw2.alloc _).alloc _
  have hQ0 : Rd ((w2.alloc (.cells #[.int .i64 0, .slice A2 3 cp2] 25)).alloc (.cells #[.int .i64 (-1), .int .i64 (-1), .int .i64 (-1)] 44)) (.slice Aq l0.length cpq) 12 l0.length (qcells l0) := (hQ2.alloc _).alloc _
  have hL0 : AtF ((w2.alloc (.cells #[.int .i64 0, .slice A2 3 cp2] 25)).alloc (.cells #[.int .i64 (-1), .int .i64 (-1), .int .i64 (-1)] 44)) (w2.heap.size + 1) (icells [-1, -1, -1]) := by
    have := AtF.new (w2.alloc (.cells #[.int .i64 0, .slice A2 3 cp2] 25)) 44 (icells [-1, -1, -1])
    simpa [icells] using this
  have hne0 : ∀ p : Nat, w2.heap.size + 1 ≤ p → 0 < l0.length → (Value.slice Aq l0.length cpq).ownBlock ≠ some p := fun p hp h0 e => by have := hQ2.own_lt h0 e; omega
  have hwl : w.heap.size ≤ w2.heap.size + 1 := by have := hbw2.size; omega
  clear hQ2 hR2 hbw2 hmin
  generalize (w2.alloc (.cells #[.int .i64 0, .slice A2 3 cp2] 25)).alloc (.cells #[.int .i64 (-1), .int .i64 (-1), .int .i64 (-1)] 44) = W at *
  generalize w2.heap.size + 1 = L at *
  go_loopw [6, 8] (fun qv sv wr => ∃ (l : List Qd) (a : List Int) (s : Int), sv = .int .i64 s ∧ l.length ≤ 30 ∧ a.length = 3 ∧ Rd wr qv 12 l.length (qcells l) ∧ (0 < l.length → qv.ownBlock ≠ some L) ∧ AtF wr L (icells a) ∧ Hid (OrdI l a s) ∧ Bel w wr) (fun qv _ _ => lenV qv)
  case atStart => exact ⟨l0, [-1, -1, -1], 0, rfl, hl30, rfl, hQ0, hne0 _ (Nat.le_refl _), hL0, HST, hb0⟩
  case round =>
    obtain ⟨l, a, s, rfl, hl, ha, hQr, hne, hLr, HO, hbr⟩ := hrel
    clear hQ0 hL0 hb0 hne0
    have HQ := Lib.hid hQr
    have HNE := Lib.hid hne
    obtain ⟨A', c', rfl, hcc1, hcc2⟩ := hQr.form
    unfold maxLen at hcc2
    clear hne
    by_cases h0 : 0 < l.length
    · obtain ⟨kb, q, hpick, hkl, hq, hspec⟩ := pick_all h0
      have HP := Lib.hid hpick
      have HSP := Lib.hid hspec
      have HqL := Lib.hid hq
      have hstep := HO.out.step hq hspec
      have hqm := HO.out.2 q (List.mem_of_getElem? hq)
      obtain ⟨t1, t2, s1, hlast⟩ := hqm
      obtain ⟨b, o, cq, hv, hlb, hcell⟩ := hQr.at h0
      cases hv
      have hrow := row_at Qd.cells_len hcell hq
      have c0 := hrow.cell 0 rfl
      have c1 := hrow.cell 1 rfl
      have ca := hrow.cell 10 rfl
      rw [Nat.add_zero] at c0
      obtain ⟨t, ht⟩ : ∃ t : Nat, (t : Int) = q.b.ten := ⟨q.b.ten.toNat, by omega⟩
      have et : q.b.ten.toNat = t := by omega
      rw [et] at hlast hstep
      obtain ⟨lv, hlv⟩ : ∃ x, a[t]? = some x := ⟨a[t]'(by omega), List.getElem?_eq_getElem _⟩
      have hid := hlast _ hlv
      have la := hLr.1.2 t _ (icells_at hlv)
      have lf := hLr.2
      have HSTEP := Lib.hid hstep
      have HC := Lib.hid hcell
      have hrt := rnd_id (n := q.b.ten) (m := 3) (by omega) (by omega) (by omega)
      rw [← ht] at hrt c1 t1 t2
      have HT := Lib.hid ht
      have HRT := Lib.hid hrt
      have hLb : L ≠ b := fun e => HNE.out h0 (by simp [Value.ownBlock, e])
      have h1 : (0 : Int) < (l.length : Int) := by omega
      have k1 : (kb : Int) < (l.length : Int) := by omega
      have k0 : (0 : Int) ≤ (kb : Int) := by omega
      have d1 : decide (q.b.id ≤ lv) = false := by simp; omega
      have d2 : decide (q.sta < s) = false := by simp; omega
      clear hpick hspec hq hstep hlast hlv hrow hcell ht et hrt
      go_wp2_with fail
      refine (yes_any l.length _ (by omega)).mono ?_; rintro e w3 ⟨vy, rfl, hY3, hb3⟩
      go_wp2_with fail
      refine (fairPick_any l (yesL l.length) _ vy _ (HQ.out.bel hb3) hY3).mono ?_; rw [HP.out]; rintro e w4 ⟨rfl, hb4⟩
      have hb34 : Bel wr w4 := hb3.trans hb4
      have c0' := (hb34.cellAt b (o + kb * 12) hlb).trans c0
      have c1' := (hb34.cellAt b (o + kb * 12 + 1) hlb).trans c1
      have ca' := (hb34.cellAt b (o + kb * 12 + 10) hlb).trans ca
      have hL4 := hLr.bel hb34
      have la' := (hb34.cellAt L t hLr.1.1).trans la
      have hQ4 := HQ.out.bel hb34
      have hb4' : Bel w w4 := hbr.trans hb34
      have hlb4 : b < w4.heap.size := Nat.lt_of_lt_of_le hlb hb34.size
      clear c0 c1 ca la lf hb3 hb4 hY3 hLr hQr hb34 hbr HQ
      go_wp2_with fail
      refine (round_any (t : Int) 3 _ (by omega)).mono ?_; rw [HRT.out]; rintro e w9 ⟨rfl, rfl⟩
      go_wp2_with fail
      have rg0 := fun d os => cell_regrown c0' d os
      have rg1 := fun d os => cell_regrown la' d os
      have rg2 := fun d os => cell_regrown ca' d os
      refine wp_region_lex [] 19 (by kernel_rfl) (by kernel_rfl) ?_
      simp only [List.take_succ_cons, List.take_zero, List.drop_succ_cons, List.drop_zero]
      with_reducible refine lex_seg 19 _ _ _ _ (by kernel_rfl) ?_
      simp only [List.take_succ_cons, List.take_zero, List.drop_succ_cons, List.drop_zero]
      try simp only [Act.put, List.setIfInBounds_toArray, List.set_cons_succ, List.set_cons_zero]
      repeat (go_big_quiet_step (fail))
      with_reducible refine wpQuiet_nil ?_
      with_reducible refine lex_nil ?_
      clear rg0 rg1 rg2
      have hLd := hL4.drew
      have c0 : w4.drew.cell? ⟨b, o + kb * 12, none⟩ = some (.int .i64 q.b.id) := c0'
      have ca : w4.drew.cell? ⟨b, o + kb * 12 + 10, none⟩ = some (.int .i64 q.sta) := ca'
      have la : w4.drew.cell? ⟨L, t, none⟩ = some (.int .i64 lv) := la'
      have lf := hLd.2
      have hQd := hQ4.bel (Bel.drew (Bel.refl w4))
      have hbd := hb4'.drew
      have hlbd : b < w4.drew.heap.size := hlb4
      clear c0' c1' ca' la' hL4 hQ4 hb4' hlb4
      go_wp2_with fail
      generalize w4.drew = X at *
      let FOS : World → Prop := fun W' => W'.cell? ⟨b, o + kb * 12, none⟩ = some (.int .i64 q.b.id) ∧ W'.cell? ⟨b, o + kb * 12 + 10, none⟩ = some (.int .i64 q.sta)
      haveI nnS : Nonempty (InS FOS) := ⟨⟨X, c0, ca⟩⟩
      have rg0 := fun (p : InS FOS) => p.h.1
      have rg2 := fun (p : InS FOS) => p.h.2
      refine wp_region_sts FOS [13] 15 (by kernel_rfl) (by kernel_rfl) ?hS0 ?_
      case hS0 => exact ⟨c0, ca⟩
      with_reducible refine st_sel [0, 1, 2, 3, 4, 5, 6, 7, 8, 9, 10, 11, 12] (by kernel_rfl) (by kernel_rfl) ?_
      simp only [picked, List.getElem?_cons_succ, List.getElem?_cons_zero, Option.toList_some, List.nil_append, List.cons_append, List.append_nil]
      try simp only [Act.put, List.setIfInBounds_toArray, List.set_cons_succ, List.set_cons_zero]
      repeat (go_big_quiet_step (fail))
      with_reducible refine wpQuiet_nil ?_
      refine st_branch [13] (by kernel_rfl) (branch_cons (by simp only [List.getElem?_toArray, List.getElem?_cons_succ, List.getElem?_cons_zero]; rfl) ?_ branch_nil)
      refine eff_done_s rfl (by simp [go_sem, la, lf]; rfl) ?hS1 ?_
      case hS1 => exact ⟨(cell_set1 _ hLb _ _).trans c0, (cell_set1 _ hLb _ _).trans ca⟩
      try simp only [List.nil_append, List.cons_append, Act.put, List.setIfInBounds_toArray, List.set_cons_succ, List.set_cons_zero]
      with_reducible refine st_sel [14] (by kernel_rfl) (by kernel_rfl) ?_
      simp only [picked, List.getElem?_cons_succ, List.getElem?_cons_zero, Option.toList_some, List.nil_append, List.cons_append, List.append_nil]
      try simp only [Act.put, List.setIfInBounds_toArray, List.set_cons_succ, List.set_cons_zero]
      repeat (go_big_quiet_step (fail))
      with_reducible refine wpQuiet_nil ?_
      refine st_end (by kernel_rfl) ?_
      simp only [List.drop_succ_cons, List.drop_zero, List.drop_nil]
      clear rg0 rg2 nnS
      go_wp2_with fail
      have hLY := hLd.set t (by simp [icells]; omega) (.int .i64 q.b.id)
      rw [icells_set] at hLY
      have hQY := hQd.far (p := ⟨L, t, none⟩) (HNE.out h0) (.int .i64 q.b.id)
      have hbY : Bel w (X.setCell ⟨L, t, none⟩ (.int .i64 q.b.id)) := hbd.setNew hwl _
      have hlbY : b < (X.setCell ⟨L, t, none⟩ (.int .i64 q.b.id)).heap.size := by simpa [World.setCell] using hlbd
      clear hLd hQd hbd hlbd c0 ca la lf
      generalize X.setCell ⟨L, t, none⟩ (.int .i64 q.b.id) = Y at *
      have e5 : IntKind.i64.wrap ((kb : Int) + 1) = (kb : Int) + 1 := IntWalk.i64_in _ (by omega)
      obtain ⟨hnew1, ad, had, hnew2⟩ := rem_news hQY hlbY hkl
      have hel : kb + (l.length - (kb + 1)) = (l.eraseIdx kb).length := by rw [List.length_eraseIdx, if_pos hkl]; omega
      refine wp_region_st [3, 8] 10 (by kernel_rfl) (by kernel_rfl) ?_
      with_reducible refine st_sel [0, 1, 2, 4, 5, 6, 7] (by kernel_rfl) (by kernel_rfl) ?_
      simp only [picked, List.getElem?_cons_succ, List.getElem?_cons_zero, Option.toList_some, List.nil_append, List.cons_append, List.append_nil]
      try simp only [Act.put, List.setIfInBounds_toArray, List.set_cons_succ, List.set_cons_zero]
      repeat (go_big_quiet_step (fail))
      with_reducible refine wpQuiet_nil ?_
      refine st_branch [3] (by kernel_rfl) (branch_cons (by simp only [List.getElem?_toArray, List.getElem?_cons_succ, List.getElem?_cons_zero]; rfl) ?_ branch_nil)
      refine eff_append_own rfl _ _ 26 rfl Y.heap.size 53 i0 _ 12 120 Try.underlying26 hi0 hz0 hz1 hz2 rfl (by omega) (.slice none 0 0) 0 [] rfl ⟨by simp, Or.inl ⟨rfl, rfl⟩⟩ ⟨b, o, none⟩ kb _ (qcells (l.take kb)) rfl (by rw [qcells_len, List.length_take, Nat.min_eq_left (Nat.le_of_lt hkl)]) (hnew1 _ (by repeat (first | (with_reducible exact Bel.refl _) | (with_reducible assumption) | (with_reducible refine Bel.drewN ?_ _) | (with_reducible refine Bel.drew ?_) | (with_reducible refine Bel.alloc ?_ _) | (with_reducible refine Bel.setNew ?_ ?_ _) | (with_reducible refine Bel.trans ?_ (by assumption)) | (focus (simp; done)) | (focus (simp; omega))))) (qcells_one _) (by unfold maxLen; omega) (by omega) (by simp) (by repeat (first | (with_reducible exact Bel.refl _) | (with_reducible assumption) | (with_reducible refine Bel.drewN ?_ _) | (with_reducible refine Bel.drew ?_) | (with_reducible refine Bel.alloc ?_ _) | (with_reducible refine Bel.setNew ?_ ?_ _) | (with_reducible refine Bel.trans ?_ (by assumption)) | (focus (simp; done)) | (focus (simp; omega)))) (by simp) ?_
      intro va wa howna hga hba
      simp only [Nat.zero_add, List.nil_append] at howna
      try simp only [List.nil_append, List.cons_append, Act.put, List.setIfInBounds_toArray, List.set_cons_succ, List.set_cons_zero]
      refine st_branch [8] (by kernel_rfl) (branch_cons (by simp only [List.getElem?_toArray, List.getElem?_cons_succ, List.getElem?_cons_zero]; rfl) ?_ branch_nil)
      refine eff_append_own rfl _ _ 26 rfl Y.heap.size 53 i0 _ 12 120 Try.underlying26 hi0 hz0 hz1 hz2 rfl (by omega) va kb _ rfl howna ad (l.length - (kb + 1)) _ (qcells (l.drop (kb + 1))) rfl (by rw [qcells_len, List.length_drop]) (hnew2 _ (Bel.trans (by repeat (first | (with_reducible exact Bel.refl _) | (with_reducible assumption) | (with_reducible refine Bel.drewN ?_ _) | (with_reducible refine Bel.drew ?_) | (with_reducible refine Bel.alloc ?_ _) | (with_reducible refine Bel.setNew ?_ ?_ _) | (with_reducible refine Bel.trans ?_ (by assumption)) | (focus (simp; done)) | (focus (simp; omega)))) hba)) (qcells_one _) (by unfold maxLen; omega) (by omega) hba.size hba (by simp) ?_
      intro vb wb hownb hgb hbb
      rw [← qcells_app, erase_eq, hel] at hownb
      try simp only [List.nil_append, List.cons_append, Act.put, List.setIfInBounds_toArray, List.set_cons_succ, List.set_cons_zero]
      with_reducible refine st_sel [9] (by kernel_rfl) (by kernel_rfl) ?_
      simp only [picked, List.getElem?_cons_succ, List.getElem?_cons_zero, Option.toList_some, List.nil_append, List.cons_append, List.append_nil]
      try simp only [Act.put, List.setIfInBounds_toArray, List.set_cons_succ, List.set_cons_zero]
      repeat (go_big_quiet_step (fail))
      with_reducible refine wpQuiet_nil ?_
      refine st_end (by kernel_rfl) ?_
      simp only [List.drop_succ_cons, List.drop_zero, List.drop_nil]
      skip
      go_wp2_with fail
      obtain ⟨Ab, cb, rfl⟩ := own_slice hownb
      go_roundw
      case rel => exact ⟨l.eraseIdx kb, a.set t q.b.id, q.sta, rfl, by omega, by simpa using ha, Rd.own hownb, fun _ => own_ne hownb (.inl hLY.1.1), hLY.bel ((Bel.drew (Bel.refl _)).trans hbb), HSTEP, hbY.trans ((Bel.drew (Bel.refl _)).trans hbb)⟩
      case measure => simp [lenV]; omega
    · have e0 : l.length = 0 := by omega
      rw [e0]
      go_wp2_with fail
      refine (awakeFair_any _).mono ?_; rintro e w3 ⟨rfl, hb3⟩
      go_wp2
      go_ret
      exact ⟨rfl, hbr.trans hb3⟩
end Go.Proofs.Ytacbljfpcchbbaa
