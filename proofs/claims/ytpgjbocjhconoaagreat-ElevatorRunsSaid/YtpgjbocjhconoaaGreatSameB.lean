/- The reference's SameBunch, of two that are the same. -/
import Derived.Test.YtpgjbocjhconoaaGreatK1
import Derived.Test.YtpgjbocjhconoaaGreatK2
namespace Go.Proofs.YtpgjbocjhconoaaGreat
open Go.RowKit
set_option linter.unusedSimpArgs false

set_option maxRecDepth 100000 in
set_option maxHeartbeats 4000000 in
theorem sameBunch_any (id ten knd sec cnt : Int) (dat : ByteArray) (fua : Bool) (tim : Int) (ms : List Mem) (A A' : Option Addr) (c c' : Nat) (w : World)
    (h : Rd w (.slice A ms.length c) 3 ms.length (mcells ms)) (h' : Rd w (.slice A' ms.length c') 3 ms.length (mcells ms)) :
    Calls Tryz.prog 15 #[.agg #[.int .i64 id, .int .i64 ten, .int .i64 knd, .int .i64 sec, .int .i64 cnt, .string dat, .bool fua, .slice A ms.length c, .int .i64 tim], .agg #[.int .i64 id, .int .i64 ten, .int .i64 knd, .int .i64 sec, .int .i64 cnt, .string dat, .bool fua, .slice A' ms.length c', .int .i64 tim]] w fun e w' => e = .returned (.bool true) ∧ Bel w w' := by
  obtain ⟨_, _, hv, hc1, hc2⟩ := h.form
  cases hv
  obtain ⟨_, _, hv, hc1', hc2'⟩ := h'.form
  cases hv
  unfold maxLen at hc2 hc2'
  have HAT := Lib.hid (fun k m (hk : ms[k]? = some m) => mems_at h hk)
  have HAT' := Lib.hid (fun k m (hk : ms[k]? = some m) => mems_at h' hk)
  obtain ⟨n, Hn⟩ : ∃ n, Hid (n = ms.length) := ⟨_, rfl⟩
  rw [← Hn.out] at hc1 hc1' ⊢
  clear h h'
  have hA := (AtF.new w 44 [.int .i64 id, .int .i64 ten, .int .i64 knd, .int .i64 sec, .int .i64 cnt, .string dat, .bool fua, .slice A n c, .int .i64 tim]).alloc (.cells #[.int .i64 id, .int .i64 ten, .int .i64 knd, .int .i64 sec, .int .i64 cnt, .string dat, .bool fua, .slice A' n c', .int .i64 tim] 44)
  have hB := AtF.new_at (w := w.alloc (.cells #[.int .i64 id, .int .i64 ten, .int .i64 knd, .int .i64 sec, .int .i64 cnt, .string dat, .bool fua, .slice A n c, .int .i64 tim] 44)) (g := w.heap.size + 1) (by simp) 44 [.int .i64 id, .int .i64 ten, .int .i64 knd, .int .i64 sec, .int .i64 cnt, .string dat, .bool fua, .slice A' n c', .int .i64 tim]
  have hbX : Bel w ((w.alloc (.cells #[.int .i64 id, .int .i64 ten, .int .i64 knd, .int .i64 sec, .int .i64 cnt, .string dat, .bool fua, .slice A n c, .int .i64 tim] 44)).alloc (.cells #[.int .i64 id, .int .i64 ten, .int .i64 knd, .int .i64 sec, .int .i64 cnt, .string dat, .bool fua, .slice A' n c', .int .i64 tim] 44)) := bI
  simp only [List.toArray] at hA hB
  go_enter Tryz.func15, Tryz.ntmps15
  go_wp2
  generalize (w.alloc (.cells #[.int .i64 id, .int .i64 ten, .int .i64 knd, .int .i64 sec, .int .i64 cnt, .string dat, .bool fua, .slice A n c, .int .i64 tim] 44)).alloc (.cells #[.int .i64 id, .int .i64 ten, .int .i64 knd, .int .i64 sec, .int .i64 cnt, .string dat, .bool fua, .slice A' n c', .int .i64 tim] 44) = X at *
  go_loopw [5] (fun iv wr => ∃ i : Nat, iv = .int .i64 i ∧ i ≤ n ∧ Bel X wr) (fun iv _ => n - (intOf iv).toNat)
  case atStart => exact ⟨0, rfl, by omega, Bel.refl _⟩
  case round =>
    obtain ⟨i, rfl, p1, hbr⟩ := hrel
    have hAr := hA.bel hbr
    have hBr := hB.bel hbr
    have p0 := (hAr).1.2 0 _ rfl
    have p1 := (hAr).1.2 1 _ rfl
    have p2 := (hAr).1.2 2 _ rfl
    have p3 := (hAr).1.2 3 _ rfl
    have p4 := (hAr).1.2 4 _ rfl
    have p5 := (hAr).1.2 5 _ rfl
    have p6 := (hAr).1.2 6 _ rfl
    have p7 := (hAr).1.2 7 _ rfl
    have p8 := (hAr).1.2 8 _ rfl
    have q0 := (hBr).1.2 0 _ rfl
    have q1 := (hBr).1.2 1 _ rfl
    have q2 := (hBr).1.2 2 _ rfl
    have q3 := (hBr).1.2 3 _ rfl
    have q4 := (hBr).1.2 4 _ rfl
    have q5 := (hBr).1.2 5 _ rfl
    have q6 := (hBr).1.2 6 _ rfl
    have q7 := (hBr).1.2 7 _ rfl
    have q8 := (hBr).1.2 8 _ rfl
    by_cases hlt : i < n
    · have i1 : (i : Int) < (n : Int) := by omega
      obtain ⟨m, hm⟩ : ∃ m, ms[i]? = some m := ⟨ms[i]'(by have := Hn.out; omega), List.getElem?_eq_getElem _⟩
      obtain ⟨b, o, rfl, hlb, hrow⟩ := HAT.out i m hm
      obtain ⟨b', o', rfl, hlb', hrow'⟩ := HAT'.out i m hm
      have hrow := hrow.bel (hbX.trans hbr) hlb
      have hrow' := hrow'.bel (hbX.trans hbr) hlb'
      have d0 := hrow.cell 0 rfl
      have d1 := hrow.cell 1 rfl
      have d2 := hrow.cell 2 rfl
      have e0 := hrow'.cell 0 rfl
      have e1 := hrow'.cell 1 rfl
      have e2 := hrow'.cell 2 rfl
      rw [Nat.add_zero] at d0 e0
      clear hm hrow hrow'
      go_wp2_with fail
      have r0 := fun d os => cell_regrown d0 d os
      have r1 := fun d os => cell_regrown d1 d os
      have r2 := fun d os => cell_regrown d2 d os
      have s0 := fun d os => cell_regrown e0 d os
      have s1 := fun d os => cell_regrown e1 d os
      have s2 := fun d os => cell_regrown e2 d os
      have t0 := fun d os => cell_regrown p7 d os
      have t1 := fun d os => cell_regrown q7 d os
      refine wp_region_lex [] 11 (by kernel_rfl) (by kernel_rfl) ?_
      simp only [List.take_succ_cons, List.take_zero, List.drop_succ_cons, List.drop_zero]
      with_reducible refine lex_seg 11 _ _ _ _ (by kernel_rfl) ?_
      simp only [List.take_succ_cons, List.take_zero, List.drop_succ_cons, List.drop_zero]
      try simp only [Act.put, List.setIfInBounds_toArray, List.set_cons_succ, List.set_cons_zero]
      repeat (go_big_quiet_step (fail))
      with_reducible refine wpQuiet_nil ?_
      with_reducible refine lex_nil ?_
      clear r0 r1 r2 s0 s1 s2 t0 t1 d0 d1 d2 e0 e1 e2 p0 p1 p2 p3 p4 p5 p6 p7 p8 q0 q1 q2 q3 q4 q5 q6 q7 q8
      go_wp2
      go_roundw
      case rel => exact ⟨i + 1, by go_num, by omega, hbr.drew⟩
      case measure => simp [intOf]; omega
    · obtain rfl : i = n := by omega
      have i1 : decide ((i : Int) < (i : Int)) = false := by simp
      go_wp2
      go_ret
      exact ⟨rfl, hbX.trans hbr⟩
end Go.Proofs.YtpgjbocjhconoaaGreat
