/- The reference's SameFair, of two that are the same. -/
import Derived.Test.YtpgjbocjhconoaaGreatFairK
namespace Go.Proofs.YtpgjbocjhconoaaGreat
open Go.RowKit
set_option linter.unusedSimpArgs false

set_option maxRecDepth 100000 in
set_option maxHeartbeats 4000000 in
theorem sameFair_any (V : Int) (fs : List (Int × Int)) (v v' : Value) (w : World) (h : Rd w v 2 fs.length (fcells fs)) (h' : Rd w v' 2 fs.length (fcells fs)) (hn : fs.length ≤ 1000) :
    Calls Tryz.prog 36 #[.agg #[.int .i64 V, v], .agg #[.int .i64 V, v']] w fun e w' => e = .returned (.bool true) ∧ Bel w w' := by
  obtain ⟨_, A, cp, rfl, hcp, hmx, hr⟩ := h
  obtain ⟨_, A', cp', rfl, hcp', hmx', hr'⟩ := h'
  obtain ⟨n, Hn⟩ : ∃ n, Hid (n = fs.length) := ⟨_, rfl⟩
  rw [← Hn.out] at hcp hr hcp' hr' hn ⊢
  have HR := Lib.hid hr
  have HR' := Lib.hid hr'
  clear hr hr'
  have hA := (AtF.new w 27 [.int .i64 V, .slice A n cp]).alloc (.cells #[.int .i64 V, .slice A' n cp'] 27)
  have hB := AtF.new (w.alloc (.cells #[.int .i64 V, .slice A n cp] 27)) 27 [.int .i64 V, .slice A' n cp']
  simp only [World.size_alloc] at hB
  go_enter Tryz.func36, Tryz.ntmps36
  go_wp2
  go_loopw [5] (fun iv wr => ∃ i : Nat, iv = .int .i64 i ∧ i ≤ n ∧ AtF wr w.heap.size [.int .i64 V, .slice A n cp] ∧ AtF wr (w.heap.size + 1) [.int .i64 V, .slice A' n cp'] ∧ Bel w wr) (fun iv _ => n - (intOf iv).toNat)
  case atStart => exact ⟨0, rfl, by omega, hA, hB, bI⟩
  case round =>
    obtain ⟨i, rfl, p1, hAr, hBr, hbr⟩ := hrel
    clear hA hB
    have a0 := hAr.1.2 0 _ rfl
    have a1 := hAr.1.2 1 _ rfl
    have af := hAr.2
    have al := hAr.1.1
    have b0 := hBr.1.2 0 _ rfl
    have b1 := hBr.1.2 1 _ rfl
    have bf := hBr.2
    have bl := hBr.1.1
    by_cases hlt : i < n
    · obtain ⟨b, o, rfl, hlb, hcell⟩ := HR.out (by omega)
      obtain ⟨b', o', rfl, hlb', hcell'⟩ := HR'.out (by omega)
      obtain ⟨⟨x, y⟩, hx⟩ : ∃ p, fs[i]? = some p := ⟨fs[i]'(by have := Hn.out; omega), List.getElem?_eq_getElem _⟩
      have c0 : wr.cell? ⟨b, o + i * 2, none⟩ = some (.int .i64 x) := by rw [hbr.cellAt _ _ hlb]; exact hcell _ _ (fcells_at0 _ _ _ hx)
      have c1 : wr.cell? ⟨b, o + i * 2 + 1, none⟩ = some (.int .i64 y) := by rw [hbr.cellAt _ _ hlb]; exact hcell _ _ (fcells_at1 _ _ _ hx)
      have d0 : wr.cell? ⟨b', o' + i * 2, none⟩ = some (.int .i64 x) := by rw [hbr.cellAt _ _ hlb']; exact hcell' _ _ (fcells_at0 _ _ _ hx)
      have d1 : wr.cell? ⟨b', o' + i * 2 + 1, none⟩ = some (.int .i64 y) := by rw [hbr.cellAt _ _ hlb']; exact hcell' _ _ (fcells_at1 _ _ _ hx)
      clear hx hcell hcell'
      have i1 : (i : Int) < (n : Int) := by omega
      go_wp2_with fail
      have rg0 := fun d os => cell_regrown a0 d os
      have rg1 := fun d os => cell_regrown a1 d os
      have rg2 := fun d os => cell_regrown b0 d os
      have rg3 := fun d os => cell_regrown b1 d os
      have rg4 := fun d os => cell_regrown c0 d os
      have rg5 := fun d os => cell_regrown c1 d os
      have rg6 := fun d os => cell_regrown d0 d os
      have rg7 := fun d os => cell_regrown d1 d os
      refine wp_region_lex [] 11 (by kernel_rfl) (by kernel_rfl) ?_
      simp only [List.take_succ_cons, List.take_zero, List.drop_succ_cons, List.drop_zero]
      with_reducible refine lex_seg 11 _ _ _ _ (by kernel_rfl) ?_
      simp only [List.take_succ_cons, List.take_zero, List.drop_succ_cons, List.drop_zero]
      try simp only [Act.put, List.setIfInBounds_toArray, List.set_cons_succ, List.set_cons_zero]
      repeat (go_big_quiet_step (fail))
      with_reducible refine wpQuiet_nil ?_
      with_reducible refine lex_nil ?_
      clear rg0 rg1 rg2 rg3 rg4 rg5 rg6 rg7
      go_wp2
      go_roundw
      case rel => exact ⟨i + 1, by go_num, by omega, hAr.drew, hBr.drew, bI⟩
      case measure => simp [intOf]; omega
    · have i2 : decide ((i : Int) < (n : Int)) = false := by simp; omega
      have i1 : (n : Int) ≤ (i : Int) := by omega
      go_wp2
      go_ret
      exact ⟨rfl, bI⟩
end Go.Proofs.YtpgjbocjhconoaaGreat
