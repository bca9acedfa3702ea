/- The contract of the law's table of least numbers. -/
import Derived.Test.YtchimkjbpmcpbaaSplitS
import Derived.Deep.OwnRows
namespace Go.Proofs.Ytchimkjbpmcpbaa
open Go.RowKit

def innerB (b : Nat → Int) (f : Nat → Bool) : Nat → Int
  | 0 => 1048576
  | k + 1 => if f (k + 1) then min (innerB b f k) (b (k + 1) + 1) else innerB b f k
def bestL (F : Nat → Nat → Bool) : Nat → List Int
  | 0 => [0]
  | i + 1 => bestL F i ++ [innerB (fun k => (bestL F i).getD (i + 1 - k) 0) (F (i + 1)) (i + 1)]
def bestAt (F : Nat → Nat → Bool) (i : Nat) : Int := (bestL F i).getD i 0

theorem bestL_len (F : Nat → Nat → Bool) : ∀ i, (bestL F i).length = i + 1
  | 0 => rfl
  | i + 1 => by simp [bestL, bestL_len F i]
theorem bestL_at (F : Nat → Nat → Bool) : ∀ (n j : Nat), j ≤ n → (bestL F n).getD j 0 = bestAt F j
  | 0, j, h => by obtain rfl : j = 0 := by omega
                  rfl
  | n + 1, j, h => by
    by_cases hj : j = n + 1
    · subst hj; rfl
    · rw [bestL, List.getD_eq_getElem?_getD, List.getElem?_append_left (by rw [bestL_len]; omega), ← List.getD_eq_getElem?_getD]
      exact bestL_at F n j (by omega)
theorem innerB_congr {b b' : Nat → Int} {f : Nat → Bool} : ∀ k, (∀ j, 1 ≤ j → j ≤ k → b j = b' j) → innerB b f k = innerB b' f k
  | 0, _ => rfl
  | k + 1, h => by
    rw [innerB, innerB, innerB_congr k (fun j h1 h2 => h j h1 (by omega)), h (k + 1) (by omega) (Nat.le_refl _)]
theorem bestAt_zero (F : Nat → Nat → Bool) : bestAt F 0 = 0 := rfl
theorem bestAt_succ (F : Nat → Nat → Bool) (i : Nat) (hi : 1 ≤ i) : bestAt F i = innerB (fun k => bestAt F (i - k)) (F i) i := by
  obtain ⟨i, rfl⟩ : ∃ j, i = j + 1 := ⟨i - 1, by omega⟩
  unfold bestAt
  rw [bestL, List.getD_eq_getElem?_getD, List.getElem?_append_right (by rw [bestL_len]; omega), bestL_len, Nat.sub_self]
  simp only [List.getElem?_cons_zero, Option.getD_some]
  exact innerB_congr (i + 1) fun j h1 _ => bestL_at F i (i + 1 - j) (by omega)
theorem innerB_skip {b : Nat → Int} {f : Nat → Bool} {k : Nat} (h : f (k + 1) = false) : innerB b f (k + 1) = innerB b f k := by rw [innerB, if_neg (by rw [h]; simp)]
theorem innerB_take {b : Nat → Int} {f : Nat → Bool} {k : Nat} (h : f (k + 1) = true) : innerB b f (k + 1) = min (innerB b f k) (b (k + 1) + 1) := by rw [innerB, if_pos h]
theorem innerB_hi (b : Nat → Int) (f : Nat → Bool) : ∀ k, innerB b f k ≤ 1048576
  | 0 => by simp [innerB]
  | k + 1 => by
    have := innerB_hi b f k
    rw [innerB]; split <;> omega
theorem innerB_lo {b : Nat → Int} {f : Nat → Bool} : ∀ k, (∀ j, 1 ≤ j → j ≤ k → 0 ≤ b j) → 0 ≤ innerB b f k
  | 0, _ => by simp [innerB]
  | k + 1, h => by
    have h1 := innerB_lo (b := b) (f := f) k (fun j h1 h2 => h j h1 (by omega))
    have h2 := h (k + 1) (by omega) (Nat.le_refl _)
    rw [innerB]; split <;> omega
theorem bestAt_lo (F : Nat → Nat → Bool) (i : Nat) : 0 ≤ bestAt F i := by
  induction i using Nat.strongRecOn with
  | _ i ih =>
    by_cases h : i = 0
    · subst h; rw [bestAt_zero]; omega
    · rw [bestAt_succ F i (by omega)]
      exact innerB_lo i fun j h1 h2 => ih (i - j) (by omega)
theorem bestAt_hi (F : Nat → Nat → Bool) (i : Nat) : bestAt F i ≤ 1048576 := by
  by_cases h : i = 0
  · subst h; rw [bestAt_zero]; omega
  · rw [bestAt_succ F i (by omega)]
    exact innerB_hi _ _ i

theorem Try.infoInt : (Try.prog.info? 3).map (fun i => (i.zero, i.size, i.bytes)) = some (some (.int .i64 0), 1, 8) := by kernel_rfl

set_option maxHeartbeats 2000000 in
theorem least_any (M B s : Int) (m : Nat) (w : World) (hm : m ≤ 1000) (hs : 0 ≤ s) (hs' : s ≤ 1000) :
    Calls Try.prog 16 #[.agg #[.int .i64 M, .int .i64 B], .int .i64 s, .int .i64 m] w fun e w' =>
      e = .returned (.int .i64 (bestAt (fun i k : Nat => rfits M B (s + i - k) k) m)) ∧ Bel w w' := by
  obtain ⟨F, HF⟩ : ∃ F : Nat → Nat → Bool, Hid (F = fun i k : Nat => rfits M B (s + i - k) k) := ⟨_, rfl⟩
  rw [← HF.out]
  have hmk : ∀ w, (Instr.makeSlice 46 (.int .i64 ((m : Int) + 1)) (.int .i64 ((m : Int) + 1))).run Try.prog w = .ok (.slice (some ⟨w.heap.size, 0, none⟩) (m + 1) (m + 1)) (w.alloc (.cells (madeCells #[.int .i64 0] (m + 1)) 3)) := by
    intro w
    have := run_make_row' (P := Try.prog) 46 3 (.int .i64 0) 8 Try.underlying46 Try.infoInt rfl .i64 .i64 (m + 1) (by omega) (by omega) w
    simpa using this
  go_enter Try.func16, Try.ntmps16
  go_wp2
  clear hmk
  go_loopw [8] (fun iv wr => ∃ i : Nat, iv = .int .i64 i ∧ 1 ≤ i ∧ i ≤ m + 1 ∧ wr.rowIs (w.heap.size + 1) 3 (m + 1) (fun j => if j < i then .int .i64 (bestAt F j) else .int .i64 0) ∧
      wr.cell? ⟨w.heap.size, 0, none⟩ = some (.int .i64 M) ∧ wr.cell? ⟨w.heap.size, 1, none⟩ = some (.int .i64 B) ∧ Bel w wr) (fun iv _ => m + 2 - (intOf iv).toNat)
  case atStart =>
    refine ⟨1, rfl, by omega, by omega, ?_, by simp [go_sem], by simp [go_sem], (by repeat (first | (with_reducible exact Bel.refl _) | (with_reducible assumption) | (with_reducible refine Bel.drewN ?_ _) | (with_reducible refine Bel.drew ?_) | (with_reducible refine Bel.alloc ?_ _) | (with_reducible refine Bel.setNew ?_ ?_ _) | (with_reducible refine Bel.trans ?_ (by assumption)) | (simp; done) | (simp; omega)))⟩
    have h1 := World.rowIs_made (w.alloc (.cells #[.int .i64 M, .int .i64 B] 23)) (.int .i64 0) (m + 1) 3
    simp only [World.size_alloc] at h1
    refine h1.congr fun j hj => ?_
    by_cases h0 : j = 0
    · subst h0; rfl
    · rw [if_neg (by omega)]
  case round =>
    obtain ⟨i, rfl, p1, p2, hrow, hb0, hb1, hbr⟩ := hrel
    obtain ⟨wo, rfl⟩ : ∃ wo : World, wo = wr := ⟨_, rfl⟩
    by_cases hlt : i ≤ m
    · have hri := hrow.cell (i := i) (by omega)
      rw [if_neg (by omega)] at hri
      have hfi := hrow.frozen i
      have hsz := hbr.size
      obtain ⟨bI, HbI⟩ : ∃ b : Nat → Int, Hid (b = fun k => bestAt F (i - k)) := ⟨_, rfl⟩
      have hbest : Hid (bestAt F i = innerB bI (F i) i) := by show _ = _; rw [HbI.out]; exact bestAt_succ F i p1
      go_wp2
      have hrow1 := hrow.set i (.int .i64 1048576)
      have hb0' : (wo.setCell ⟨w.heap.size + 1, i, none⟩ (.int .i64 1048576)).cell? ⟨w.heap.size, 0, none⟩ = some (.int .i64 M) := by rw [World.cell?_setCell_other _ _ _ _ (by simp)]; exact hb0
      have hb1' : (wo.setCell ⟨w.heap.size + 1, i, none⟩ (.int .i64 1048576)).cell? ⟨w.heap.size, 1, none⟩ = some (.int .i64 B) := by rw [World.cell?_setCell_other _ _ _ _ (by simp)]; exact hb1
      have hbr1 : Bel w (wo.setCell ⟨w.heap.size + 1, i, none⟩ (.int .i64 1048576)) := (by repeat (first | (with_reducible exact Bel.refl _) | (with_reducible assumption) | (with_reducible refine Bel.drewN ?_ _) | (with_reducible refine Bel.drew ?_) | (with_reducible refine Bel.alloc ?_ _) | (with_reducible refine Bel.setNew ?_ ?_ _) | (with_reducible refine Bel.trans ?_ (by assumption)) | (simp; done) | (simp; omega)))
      clear hri hfi hrow hb0 hb1 hbr
      generalize (wo.setCell ⟨w.heap.size + 1, i, none⟩ (.int .i64 1048576)) = wa at *
      go_loopw [9] (fun kv wr => ∃ k : Nat, kv = .int .i64 (k + 1 : Nat) ∧ k ≤ i ∧ wr.rowIs (w.heap.size + 1) 3 (m + 1) (fun j => if j < i then .int .i64 (bestAt F j) else if j = i then .int .i64 (innerB bI (F i) k) else .int .i64 0) ∧
          wr.cell? ⟨w.heap.size, 0, none⟩ = some (.int .i64 M) ∧ wr.cell? ⟨w.heap.size, 1, none⟩ = some (.int .i64 B) ∧ Bel w wr) (fun kv _ => i + 2 - (intOf kv).toNat)
      case atStart =>
        refine ⟨0, rfl, by omega, ?_, hb0', hb1', hbr1⟩
        refine hrow1.congr fun j hj => ?_
        by_cases h0 : j = i
        · subst h0; simp [innerB]
        · rw [if_neg h0, if_neg h0]
      case round =>
        obtain ⟨k, rfl, p3, hrow, hb0, hb1, hbr⟩ := hrel
        clear hrow1 hb0' hb1' hbr1
        by_cases hk : k < i
        · have HFit := Lib.hid (fun w => refFits_any M B (s + i - ((k : Int) + 1)) ((k : Int) + 1) w)
          have hFk : Hid (rfits M B (s + i - ((k : Int) + 1)) ((k : Int) + 1) = F i (k + 1)) := by show _ = _; rw [HF.out]; simp
          cases hf : F i (k + 1)
          · go_wp2_with fail
            refine (HFit.out _).mono ?_; rw [hFk.out, hf]; rintro e w2 ⟨rfl, hb2⟩
            have hrow2 := hrow.of_block (hb2.block _ hrow.lt)
            have hb02 := (hb2.cellAt _ _ (World.block_lt_of_cell? _ _ hb0)).trans hb0
            have hb12 := (hb2.cellAt _ _ (World.block_lt_of_cell? _ _ hb1)).trans hb1
            go_wp2
            go_roundw
            case rel => exact ⟨k + 1, by go_num, by omega, by rw [innerB_skip hf]; exact hrow2, hb02, hb12, (by repeat (first | (with_reducible exact Bel.refl _) | (with_reducible assumption) | (with_reducible refine Bel.drewN ?_ _) | (with_reducible refine Bel.drew ?_) | (with_reducible refine Bel.alloc ?_ _) | (with_reducible refine Bel.setNew ?_ ?_ _) | (with_reducible refine Bel.trans ?_ (by assumption)) | (simp; done) | (simp; omega)))⟩
            case measure => simp [intOf]; omega
          · have n1 := innerB_hi bI (F i) k
            have n2 : 0 ≤ innerB bI (F i) k := innerB_lo k fun j _ _ => by rw [HbI.out]; exact bestAt_lo _ _
            have n3 : 0 ≤ bI (k + 1) := by rw [HbI.out]; exact bestAt_lo _ _
            have n4 : bI (k + 1) ≤ 1048576 := by rw [HbI.out]; exact bestAt_hi _ _
            obtain ⟨d, hd⟩ : ∃ d : Nat, d = i - (k + 1) := ⟨_, rfl⟩
            have hbd : bestAt F d = bI (k + 1) := by rw [HbI.out, hd]
            have hd1 : (i : Int) - ((k : Int) + 1) = (d : Int) := by omega
            have hd2 : d < i := by omega
            have Hd := Lib.hid hd
            clear hd
            go_wp2_with fail
            refine (HFit.out _).mono ?_; rw [hFk.out, hf]; rintro e w2 ⟨rfl, hb2⟩
            have hrow2 := hrow.of_block (hb2.block _ hrow.lt)
            have hb02 := (hb2.cellAt _ _ (World.block_lt_of_cell? _ _ hb0)).trans hb0
            have hb12 := (hb2.cellAt _ _ (World.block_lt_of_cell? _ _ hb1)).trans hb1
            have hbw2 : Bel w w2 := hbr.trans hb2
            have hci := hrow2.cell (i := i) (by omega)
            rw [if_neg (by omega), if_pos rfl] at hci
            have hcd := hrow2.cell (i := d) (by omega)
            rw [if_pos hd2, hbd] at hcd
            have hfi := hrow2.frozen i
            clear hrow hb0 hb1 hbr hb2 hbd
            have Hd1 := Lib.hid hd1
            clear hd1
            go_wp2
            have i0 : (0 : Int) ≤ (i : Int) := by omega
            have i1 : (i : Int) < (m : Int) + 1 := by omega
            have q0 := fun d os => cell_regrown hci d os
            have q1 := fun d os => cell_regrown hcd d os
            have d0 : (0 : Int) ≤ (d : Int) := by omega
            have d1 : (d : Int) < (m : Int) + 1 := by omega
            have w1 : IntKind.i64.wrap ((i : Int) - ((k : Int) + 1)) = (d : Int) := (IntWalk.i64_in _ ⟨by omega, by omega⟩).trans Hd1.out
            have w2' : IntKind.i64.wrap (bI (k + 1) + 1) = bI (k + 1) + 1 := IntWalk.i64_in _ ⟨by omega, by omega⟩
            refine wp_region_lex [] 15 (by kernel_rfl) (by kernel_rfl) ?_
            simp only [List.take_succ_cons, List.take_zero, List.drop_succ_cons, List.drop_zero]
            refine lex_seg 15 _ _ _ _ (by kernel_rfl) ?_
            simp only [List.take_succ_cons, List.take_zero, List.drop_succ_cons, List.drop_zero]
            try simp only [Act.put, List.setIfInBounds_toArray, List.set_cons_succ, List.set_cons_zero]
            repeat (go_big_quiet_step (fail))
            refine wpQuiet_nil ?_
            refine lex_nil ?_
            clear q0 q1 w1 w2'
            go_wp2
            go_roundw
            case rel =>
              refine ⟨k + 1, by go_num, by omega, ?_, ?_, ?_, (by repeat (first | (with_reducible exact Bel.refl _) | (with_reducible assumption) | (with_reducible refine Bel.drewN ?_ _) | (with_reducible refine Bel.drew ?_) | (with_reducible refine Bel.alloc ?_ _) | (with_reducible refine Bel.setNew ?_ ?_ _) | (with_reducible refine Bel.trans ?_ (by assumption)) | (simp; done) | (simp; omega)))⟩
              · refine World.rowIs.congr (World.rowIs.drew (hrow2.set i _)) fun j hj => ?_
                by_cases h1 : j = i
                · subst h1
                  rw [if_pos rfl, if_neg (show ¬ j < j by omega), if_pos rfl, innerB_take hf]
                  refine congrArg (Value.int .i64) ?_
                  split <;> omega
                · simp only [if_neg h1]
              · show (w2.setCell _ _).cell? _ = _
                rw [World.cell?_setCell_other _ _ _ _ (by simp)]; exact hb02
              · show (w2.setCell _ _).cell? _ = _
                rw [World.cell?_setCell_other _ _ _ _ (by simp)]; exact hb12
            case measure => simp [intOf]; omega
        · have hki : k = i := by omega
          subst hki
          go_wp2
          go_roundw
          case rel =>
            refine ⟨k + 1, by go_num, by omega, by omega, hrow.congr fun j hj => ?_, hb0, hb1, hbr⟩
            by_cases h1 : j < k
            · rw [if_pos h1, if_pos (by omega)]
            · rw [if_neg h1]
              by_cases h2 : j = k
              · subst h2; rw [if_pos rfl, if_pos (by omega), hbest.out]
              · rw [if_neg h2, if_neg (by omega)]
          case measure => simp [intOf]; omega
    · have hmi : i = m + 1 := by omega
      have hrm := hrow.cell (i := m) (by omega)
      rw [if_pos (by omega)] at hrm
      clear hrow
      go_wp2
      go_ret
      exact ⟨rfl, (by repeat (first | (with_reducible exact Bel.refl _) | (with_reducible assumption) | (with_reducible refine Bel.drewN ?_ _) | (with_reducible refine Bel.drew ?_) | (with_reducible refine Bel.alloc ?_ _) | (with_reducible refine Bel.setNew ?_ ?_ _) | (with_reducible refine Bel.trans ?_ (by assumption)) | (simp; done) | (simp; omega)))⟩
end Go.Proofs.Ytchimkjbpmcpbaa
