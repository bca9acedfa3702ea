/- The reference's Stamp and SameFair. -/
import Derived.Test.YtpgjbocjhconoaaGreatFairJ
namespace Go.Proofs.YtpgjbocjhconoaaGreat
open Go.RowKit
set_option linter.unusedSimpArgs false

theorem cell_set2 (w : World) {b o B : Nat} (h : B ≠ b) (u v : Value) (i j : Nat) : ((w.setCell ⟨B, i, none⟩ u).setCell ⟨B, j, none⟩ v).cell? ⟨b, o, none⟩ = w.cell? ⟨b, o, none⟩ :=
  (World.cell?_setCell_other _ _ _ _ (by simp [h])).trans (World.cell?_setCell_other _ _ _ _ (by simp [h]))
theorem stampB_no {V t c : Int} {fs : List (Int × Int)} (h : (stampB V fs t c).2.2 = false) : stampB V fs t c = (fs, 0, false) := by
  unfold stampB advB at h ⊢
  split at h
  · rename_i h1
    rw [if_pos h1]
    split at h
    · cases h
    · rename_i h2; rw [if_neg h2]
  · rename_i h1; rw [if_neg h1]
theorem stampB_yes {V t c : Int} {fs : List (Int × Int)} (h : (stampB V fs t c).2.2 = true) : ∃ (k : Nat) (x y : Int), t = k ∧ fs[k]? = some (x, y) ∧ (stampB V fs t c).2.1 = max V y ∧ 0 ≤ V ∧ V ≤ 1125899906842624 ∧ 0 ≤ y ∧ y ≤ 1125899906842624 := by
  unfold stampB advB at h ⊢
  split at h
  · rename_i h1
    rw [if_pos h1]
    obtain ⟨hk, t1, t2, _⟩ := h1
    obtain ⟨k, rfl⟩ : ∃ k : Nat, t = k := ⟨t.toNat, by omega⟩
    obtain ⟨⟨x, y⟩, hx⟩ : ∃ p, fs[k]? = some p := ⟨fs[k]'(by omega), List.getElem?_eq_getElem _⟩
    have e1 : fs.getD (k : Int).toNat (0, 0) = (x, y) := by rw [Int.toNat_natCast, List.getD_eq_getElem?_getD, hx]; rfl
    rw [e1] at h ⊢
    have hV := timeB_iff.1 (fairOk_time hk)
    simp only [fairOk, Bool.and_eq_true, List.all_eq_true] at hk
    have hfl := flowOk_iff.1 (hk.2 _ (List.mem_of_getElem? hx))
    split at h
    · rename_i h2
      rw [if_pos h2]
      exact ⟨k, x, y, rfl, hx, rfl, hV.1, hV.2, hfl.2.1, hfl.2.2⟩
    · cases h
  · cases h

set_option maxRecDepth 100000 in
set_option maxHeartbeats 4000000 in
theorem refStamp_any (V t c : Int) (fs : List (Int × Int)) (v : Value) (w : World) (h : Rd w v 2 fs.length (fcells fs)) (hn : fs.length ≤ 1000) :
    Calls Tryz.prog 35 #[.agg #[.int .i64 V, v], .int .i64 t, .int .i64 c] w fun e w' =>
      ∃ v', e = .returned (.tuple #[.agg #[.int .i64 V, v'], .int .i64 (stampB V fs t c).2.1, .bool (stampB V fs t c).2.2]) ∧ w'.ownsRow w.heap.size 101 2 v' fs.length (fcells (stampB V fs t c).1) ∧ Bel w w' := by
  have HC := Lib.hid (fun w' (hb : Bel w w') => refMove_any V t V c fs _ w' (h.bel hb) hn fairOk_time)
  rw [show advB V fs t c (fun _ y => max V y) = stampB V fs t c from rfl] at HC
  have HN := Lib.hid (stampB_no (V := V) (t := t) (c := c) (fs := fs))
  have HY := Lib.hid (stampB_yes (V := V) (t := t) (c := c) (fs := fs))
  have HR := Lib.hid h
  obtain ⟨A, cp, rfl, _, _⟩ := h.form
  clear h
  generalize stampB V fs t c = z at HC HN HY ⊢
  obtain ⟨z0, z1, z2⟩ := z
  cases z2
  · have := HN.out rfl
    simp only [Prod.mk.injEq] at this
    obtain ⟨rfl, rfl, _⟩ := this
    go_enter Tryz.func35, Tryz.ntmps35
    go_wp2_with fail
    refine (HC.out _ bI).mono ?_; rintro e w1 ⟨v', rfl, hown, hb1⟩
    obtain ⟨A', c', rfl⟩ := own_slice hown
    have hB := (AtF.new (w.alloc (.cells #[.int .i64 V, .slice A z0.length cp] 27)) 27 [.int .i64 0, .slice none 0 0]).bel hb1
    simp only [World.size_alloc] at hB hown
    have b0 := hB.1.2 0 _ rfl
    have b1 := hB.1.2 1 _ rfl
    have bf := hB.2
    have bl := hB.1.1
    have hO := (own_other (own_other hown (p := ⟨w.heap.size + 1, 0, none⟩) (by simp) (.int .i64 V)) (p := ⟨w.heap.size + 1, 1, none⟩) (by simp) (.slice A' z0.length c'))
    have hr2 := ((hB.set 0 (by simp) (.int .i64 V)).set 1 (by simp) (.slice A' z0.length c')).alloc (.cells #[.int .i64 V, .slice A' z0.length c'] 27)
    have r20 := hr2.1.2 0 _ rfl
    have r21 := hr2.1.2 1 _ rfl
    go_wp2
    exact bodyPost_ret (v := .tuple #[.agg #[.int .i64 V, .slice A' z0.length c'], .int .i64 0, .bool false]) (by simp [results, Tryz.results35, go_sem, r20, r21]) rfl ⟨_, rfl, own_mono (hO.alloc _) (Nat.le_succ_of_le (Nat.le_succ _)), bI⟩
  · obtain ⟨k, x, y, rfl, hx, hz, v1, v2, y1, y2⟩ := HY.out rfl
    subst hz
    obtain ⟨b, o, cp', hv, hlb, hcell⟩ := HR.out.at (by have := (List.getElem?_eq_some_iff.1 hx).1; omega)
    cases hv
    have f1 := hcell _ _ (fcells_at1 _ _ _ hx)
    have hk := (List.getElem?_eq_some_iff.1 hx).1
    obtain ⟨S, hS⟩ : ∃ S, S = max V y := ⟨_, rfl⟩
    rw [← hS] at HC ⊢
    have hm9 : (if V < y then y else V) = S := by split <;> omega
    have HM := Lib.hid hm9
    have k1 : (k : Int) < (fs.length : Int) := by omega
    have HSS := Lib.hid hS
    rw [← Nat.add_assoc] at f1
    have HF1 := Lib.hid f1
    clear hcell hx hm9 hS HN HY HR f1
    go_enter Tryz.func35, Tryz.ntmps35
    go_wp2_with fail
    refine (HC.out _ bI).mono ?_; rintro e w1 ⟨v', rfl, hown, hb1⟩
    obtain ⟨A', c', rfl⟩ := own_slice hown
    have hA := (((AtF.new w 27 [.int .i64 V, .slice (some ⟨b, o, none⟩) fs.length cp]).alloc (.cells #[.int .i64 0, .slice none 0 0] 27)).bel hb1).alloc (.cells #[.int .i64 V, .slice A' fs.length c'] 27)
    have hB := ((AtF.new (w.alloc (.cells #[.int .i64 V, .slice (some ⟨b, o, none⟩) fs.length cp] 27)) 27 [.int .i64 0, .slice none 0 0]).bel hb1).alloc (.cells #[.int .i64 V, .slice A' fs.length c'] 27)
    have hC := AtF.new w1 27 [.int .i64 V, .slice A' fs.length c']
    have hbw : Bel w (w1.alloc (.cells #[.int .i64 V, .slice A' fs.length c'] 27)) := bI
    have hO1 := hown.alloc (.cells #[.int .i64 V, .slice A' fs.length c'] 27)
    simp only [World.size_alloc] at hB hO1
    have hl1 : w1.heap.size ≠ w.heap.size + 1 := by have := hb1.size; simp at this; omega
    have hl2 := hbw.size
    clear hb1 hown
    go_wp2_with fail
    generalize w1.alloc _ = W at *
    generalize w1.heap.size = C at *
    have f1 := HF1.out
    rw [← hbw.cellAt _ _ hlb] at f1
    have a0 := hA.1.2 0 _ rfl
    have a1 := hA.1.2 1 _ rfl
    have af := hA.2
    have al := hA.1.1
    have b0 := hB.1.2 0 _ rfl
    have b1 := hB.1.2 1 _ rfl
    have bf := hB.2
    have bl := hB.1.1
    have c0 := hC.1.2 0 _ rfl
    have c1 := hC.1.2 1 _ rfl
    have cf := hC.2
    have cl := hC.1.1
    let RSS : World → Prop := fun W' => AtF W' w.heap.size [.int .i64 V, .slice (some ⟨b, o, none⟩) fs.length cp] ∧ AtF W' C [.int .i64 V, .slice A' fs.length c'] ∧ W'.cell? ⟨b, o + k * 2 + 1, none⟩ = some (.int .i64 y)
    haveI nnS : Nonempty (InS RSS) := ⟨⟨W, hA, hC, f1⟩⟩
    have rg0 := fun (p : InS RSS) => p.h.1.1.2 0 _ rfl
    have rg1 := fun (p : InS RSS) => p.h.1.1.2 1 _ rfl
    have rg2 := fun (p : InS RSS) => p.h.2.2
    have rg4 := fun (p : InS RSS) => p.h.2.1.1.2 0 _ rfl
    have rg5 := fun (p : InS RSS) => p.h.2.1.1.2 1 _ rfl
    have hm9 := HM.out
    refine wp_region_sts RSS [10] 13 (by kernel_rfl) (by kernel_rfl) ?hS0 ?_
    case hS0 => exact ⟨hA.drew, hC.drew, f1⟩
    with_reducible refine st_sel [0, 1, 2, 3, 4, 5, 6, 7, 8, 9] (by kernel_rfl) (by kernel_rfl) ?_
    simp only [picked, List.getElem?_cons_succ, List.getElem?_cons_zero, Option.toList_some, List.nil_append, List.cons_append, List.append_nil]
    try simp only [Act.put, List.setIfInBounds_toArray, List.set_cons_succ, List.set_cons_zero]
    repeat (go_big_quiet_step (fail))
    with_reducible refine wpQuiet_nil ?_
    refine st_branch [10] (by kernel_rfl) (branch_cons (by simp only [List.getElem?_toArray, List.getElem?_cons_succ, List.getElem?_cons_zero]; rfl) ?_ branch_nil)
    refine eff_done_s rfl (by simp [go_sem, b0, b1, bf]; rfl) ?hS1 ?_
    case hS1 => exact ⟨(hA.drew.other (by omega) _ _).other (by omega) _ _, (hC.drew.other hl1 _ _).other hl1 _ _, (cell_set2 _ (by omega) _ _ _ _).trans f1⟩
    try simp only [List.nil_append, List.cons_append, Act.put, List.setIfInBounds_toArray, List.set_cons_succ, List.set_cons_zero]
    with_reducible refine st_sel [11, 12] (by kernel_rfl) (by kernel_rfl) ?_
    simp only [picked, List.getElem?_cons_succ, List.getElem?_cons_zero, Option.toList_some, List.nil_append, List.cons_append, List.append_nil]
    try simp only [Act.put, List.setIfInBounds_toArray, List.set_cons_succ, List.set_cons_zero]
    repeat (go_big_quiet_step (fail))
    with_reducible refine wpQuiet_nil ?_
    refine st_end (by kernel_rfl) ?_
    simp only [List.drop_succ_cons, List.drop_zero, List.drop_nil]
    clear rg0 rg1 rg2 rg4 rg5 hm9
    have hO := (own_other (own_other hO1 (p := ⟨w.heap.size + 1, 0, none⟩) (by simp) (.int .i64 V)) (p := ⟨w.heap.size + 1, 1, none⟩) (by simp) (.slice A' fs.length c'))
    have hr2 := ((hB.set 0 (by simp) (.int .i64 V)).set 1 (by simp) (.slice A' fs.length c'))
    have r20 := hr2.1.2 0 _ rfl
    have r21 := hr2.1.2 1 _ rfl
    go_wp2
    exact bodyPost_ret (v := .tuple #[.agg #[.int .i64 V, .slice A' fs.length c'], .int .i64 S, .bool true]) (by simp [results, Tryz.results35, go_sem, r20, r21]) rfl ⟨_, rfl, own_mono hO.drew (Nat.le_succ_of_le (Nat.le_succ _)), bI⟩
end Go.Proofs.YtpgjbocjhconoaaGreat
