/- The reference's Free, and its Add where there is room -/
import Derived.Test.YtpgjbocjhconoaaK3
import Derived.Test.YtpgjbocjhconoaaK1
import Derived.Test.YtpgjbocjhconoaaK4
import Derived.Test.YtpgjbocjhconoaaPlD
namespace Go.Proofs.Ytpgjbocjhconoaa
open Go.RowKit Go.Maps
set_option linter.unusedSimpArgs false

/-- No element from k on conflicts with y. -/
def freeF (B : List BM) (k : Nat) (y : BM) : Bool := !(B.drop k).any fun x => confB x y
theorem any_drop {α : Type} {L : List α} {p : α → Bool} {j : Nat} {x : α} (h : L[j]? = some x) : (L.drop j).any p = (p x || (L.drop (j + 1)).any p) := by
  obtain ⟨g1, g2⟩ := List.getElem?_eq_some_iff.1 h
  rw [List.drop_eq_getElem_cons g1, g2]
  rfl

set_option maxRecDepth 100000 in
set_option maxHeartbeats 4000000 in
theorem refFree_any (B : List BM) (k : Nat) (y : BM) (bv : Value) (w : World) (hb : BL w bv B) (hy : Mems w y.b y.ms) (hk : k ≤ B.length) :
    Calls Try.prog 43 #[bv, .int .i64 (k : Int), .agg #[.int .i64 (y.b).id, .int .i64 (y.b).ten, .int .i64 (y.b).knd, .int .i64 (y.b).sec, .int .i64 (y.b).cnt, .string (y.b).dat, .bool (y.b).fua, .slice (y.b).mA (y.b).mL (y.b).mC, .int .i64 (y.b).tim]] w fun e w' => e = .returned (.bool (freeF B k y)) ∧ Bel w w' := by
  obtain ⟨A', c', rfl, hc1', hc2'⟩ := hb.form
  obtain ⟨n', Hn'⟩ : ∃ n', Hid (n' = B.length) := ⟨_, rfl⟩
  obtain ⟨V, HV⟩ : ∃ V, Hid (V = freeF B k y) := ⟨_, rfl⟩
  rw [← HV.out]
  have HBT := Lib.hid (fun j x (hj : B[j]? = some x) => hb.at hj)
  rw [← Hn'.out] at hc1' hk HBT ⊢
  unfold maxLen at hc2'
  have HMY := Lib.hid hy
  clear hb hy
  have hB0 := AtF.new w 42 [.int .i64 (y.b).id, .int .i64 (y.b).ten, .int .i64 (y.b).knd, .int .i64 (y.b).sec, .int .i64 (y.b).cnt, .string (y.b).dat, .bool (y.b).fua, .slice (y.b).mA (y.b).mL (y.b).mC, .int .i64 (y.b).tim]
  have hbX : Bel w (w.alloc (.cells #[.int .i64 (y.b).id, .int .i64 (y.b).ten, .int .i64 (y.b).knd, .int .i64 (y.b).sec, .int .i64 (y.b).cnt, .string (y.b).dat, .bool (y.b).fua, .slice (y.b).mA (y.b).mL (y.b).mC, .int .i64 (y.b).tim] 42)) := (by repeat (first | (with_reducible exact Bel.refl _) | (with_reducible assumption) | (with_reducible refine Bel.drewN ?_ _) | (with_reducible refine Bel.drew ?_) | (with_reducible refine Bel.alloc ?_ _) | (with_reducible refine Bel.setNew ?_ ?_ _) | (with_reducible refine Bel.trans ?_ (by assumption)) | (focus (simp; done)) | (focus (simp; omega))))
  go_enter Try.func43, Try.ntmps43
  go_wp2
  simp only [List.toArray] at hB0
  generalize w.alloc (.cells #[.int .i64 (y.b).id, .int .i64 (y.b).ten, .int .i64 (y.b).knd, .int .i64 (y.b).sec, .int .i64 (y.b).cnt, .string (y.b).dat, .bool (y.b).fua, .slice (y.b).mA (y.b).mL (y.b).mC, .int .i64 (y.b).tim] 42) = X at *
  go_loopw [7] (fun jv wr => ∃ m : Nat, jv = .int .i64 m ∧ m ≤ n' ∧ Hid (V = freeF B m y) ∧ Bel X wr) (fun jv _ => n' - (intOf jv).toNat)
  case atStart => exact ⟨k, rfl, hk, HV, Bel.refl _⟩
  case round =>
    obtain ⟨m, rfl, m1, HVm, hbr⟩ := hrel
    by_cases hmn : m < n'
    · obtain ⟨x, hx⟩ : ∃ x, B[m]? = some x := ⟨B[m]'(by have := Hn'.out; omega), List.getElem?_eq_getElem _⟩
      obtain ⟨b', o', c9', hX⟩ := HBT.out m x hx
      have hf := hX.form
      simp only [Value.slice.injEq] at hf
      obtain ⟨rfl, _, rfl⟩ := hf
      have HA2 := Lib.hid (any_drop (p := fun x => confB x y) hx)
      have hbw := hbX.trans hbr
      have hX := hX.bel hbw
      have hBr := hB0.bel hbr
      have jk : (m : Int) < (n' : Int) := by omega
      have hmY := HMY.out
      clear hx
      go_wp2_with fail
      have p0 := (hX.row).cell 0 rfl
      have p1 := (hX.row).cell 1 rfl
      have p2 := (hX.row).cell 2 rfl
      have p3 := (hX.row).cell 3 rfl
      have p4 := (hX.row).cell 4 rfl
      have p5 := (hX.row).cell 5 rfl
      have p6 := (hX.row).cell 6 rfl
      have p7 := (hX.row).cell 7 rfl
      have p8 := (hX.row).cell 8 rfl
      rw [Nat.add_zero] at p0
      have q0 := (hBr).1.2 0 _ rfl
      have q1 := (hBr).1.2 1 _ rfl
      have q2 := (hBr).1.2 2 _ rfl
      have q3 := (hBr).1.2 3 _ rfl
      have q4 := (hBr).1.2 4 _ rfl
      have q5 := (hBr).1.2 5 _ rfl
      have q6 := (hBr).1.2 6 _ rfl
      have q7 := (hBr).1.2 7 _ rfl
      have q8 := (hBr).1.2 8 _ rfl
      have hmX := hX.mem
      have r0 := fun d os => cell_regrown p0 d os
      have r1 := fun d os => cell_regrown p1 d os
      have r2 := fun d os => cell_regrown p2 d os
      have r3 := fun d os => cell_regrown p3 d os
      have r4 := fun d os => cell_regrown p4 d os
      have r5 := fun d os => cell_regrown p5 d os
      have r6 := fun d os => cell_regrown p6 d os
      have r7 := fun d os => cell_regrown p7 d os
      have r8 := fun d os => cell_regrown p8 d os
      have s0 := fun d os => cell_regrown q0 d os
      have s1 := fun d os => cell_regrown q1 d os
      have s2 := fun d os => cell_regrown q2 d os
      have s3 := fun d os => cell_regrown q3 d os
      have s4 := fun d os => cell_regrown q4 d os
      have s5 := fun d os => cell_regrown q5 d os
      have s6 := fun d os => cell_regrown q6 d os
      have s7 := fun d os => cell_regrown q7 d os
      have s8 := fun d os => cell_regrown q8 d os
      refine wp_region_lex [5] 6 (by kernel_rfl) (by kernel_rfl) ?_
      simp only [List.take_succ_cons, List.take_zero, List.drop_succ_cons, List.drop_zero]
      with_reducible refine lex_seg 5 _ _ _ _ (by kernel_rfl) ?_
      simp only [List.take_succ_cons, List.take_zero, List.drop_succ_cons, List.drop_zero]
      try simp only [Act.put, List.setIfInBounds_toArray, List.set_cons_succ, List.set_cons_zero]
      repeat (go_big_quiet_step (fail))
      with_reducible refine wpQuiet_nil ?_
      refine lex_call 23 rfl rfl (by simp [go_sem]; rfl) ?_
      refine (refConflict_any ⟨x.b, x.ms⟩ ⟨y.b, y.ms⟩ _ (hmX.bel (by repeat (first | (with_reducible exact Bel.refl _) | (with_reducible assumption) | (with_reducible refine Bel.drewN ?_ _) | (with_reducible refine Bel.drew ?_) | (with_reducible refine Bel.alloc ?_ _) | (with_reducible refine Bel.setNew ?_ ?_ _) | (with_reducible refine Bel.trans ?_ (by assumption)) | (focus (simp; done)) | (focus (simp; omega))))) (hmY.bel (Bel.trans hbw (by repeat (first | (with_reducible exact Bel.refl _) | (with_reducible assumption) | (with_reducible refine Bel.drewN ?_ _) | (with_reducible refine Bel.drew ?_) | (with_reducible refine Bel.alloc ?_ _) | (with_reducible refine Bel.setNew ?_ ?_ _) | (with_reducible refine Bel.trans ?_ (by assumption)) | (focus (simp; done)) | (focus (simp; omega))))))).mono ?_; rintro e w1 ⟨rfl, hb1⟩
      refine ⟨_, rfl, hb1, ?_⟩
      with_reducible refine lex_nil ?_
      clear r0 r1 r2 r3 r4 r5 r6 r7 r8
      clear s0 s1 s2 s3 s4 s5 s6 s7 s8
      clear p0 p1 p2 p3 p4 p5 p6 p7 p8
      clear q0 q1 q2 q3 q4 q5 q6 q7 q8
      have hb9 : Bel wr w1 := (by repeat (first | (with_reducible exact Bel.refl _) | (with_reducible assumption) | (with_reducible refine Bel.drewN ?_ _) | (with_reducible refine Bel.drew ?_) | (with_reducible refine Bel.alloc ?_ _) | (with_reducible refine Bel.setNew ?_ ?_ _) | (with_reducible refine Bel.trans ?_ (by assumption)) | (focus (simp; done)) | (focus (simp; omega))))
      cases hcf : confB x y
      · have e1 : confB ⟨x.b, x.ms⟩ ⟨y.b, y.ms⟩ = false := hcf
        try rw [e1]
        have HA3 : Hid (V = freeF B (m + 1) y) := by show _ = _; rw [HVm.out, freeF, HA2.out, hcf]; rfl
        clear e1 hcf
        go_wp2
        go_roundw
        case rel => exact ⟨m + 1, by go_num, by omega, HA3, hbr.trans hb9⟩
        case measure => simp [intOf]; omega
      · have e1 : confB ⟨x.b, x.ms⟩ ⟨y.b, y.ms⟩ = true := hcf
        try rw [e1]
        have HF : Hid (V = false) := by show _ = _; rw [HVm.out, freeF, HA2.out, hcf]; rfl
        clear e1 hcf
        go_wp2
        go_ret
        exact ⟨ret_bool HF.out.symm, hbw.trans hb9⟩
    · obtain rfl : m = n' := by omega
      have jk2 : decide ((m : Int) < (m : Int)) = false := by simp
      have HF : Hid (V = true) := by
        show _ = _
        rw [HVm.out, freeF, List.drop_eq_nil_of_le (by have := Hn'.out; omega)]; rfl
      go_wp2
      go_ret
      exact ⟨ret_bool HF.out.symm, hbX.trans hbr⟩


/-- All members lie above base. -/
def AbvN (base : Nat) (L : List BM) : Prop := ∀ y ∈ L, 0 < y.ms.length → ∀ k, (Value.slice y.b.mA y.b.mL y.b.mC).ownBlock = some k → base ≤ k
theorem BN.abv {w : World} {base : Nat} {v : Value} {L : List BM} (h : BN w base v L) : AbvN base L := fun y hy h0 k hk => by
  obtain ⟨j, hj⟩ := List.mem_iff_getElem?.1 hy
  exact h.fr j y (List.getElem?_eq_some_iff.1 hj).1 hj h0 k hk
/-- What is new, and what was there. -/
def NewR (w : World) (L : List BM) (v' : Value) (L' : List BM) : Prop := (∀ k, v'.ownBlock = some k → w.heap.size ≤ k) ∧ ∀ y ∈ L', 0 < y.ms.length → ∀ k, (Value.slice y.b.mA y.b.mL y.b.mC).ownBlock = some k → w.heap.size ≤ k ∨ ∃ z ∈ L, 0 < z.ms.length ∧ (Value.slice z.b.mA z.b.mL z.b.mC).ownBlock = some k
theorem BN.farP {w : World} {base : Nat} {v : Value} {L : List BM} (h : BN w base v L) {p : Addr} (hv : v.ownBlock ≠ some p.block) (hs : ∀ x ∈ L, 0 < x.ms.length → (Value.slice x.b.mA x.b.mL x.b.mC).ownBlock ≠ some p.block) (u : Value) : BN (w.setCell p u) base v L := by
  refine ⟨⟨own_far h.bo.own hv u, fun x hx => ?_, h.bo.sep⟩, h.fr⟩
  have hm := h.bo.mem x hx
  refine ⟨hm.len, ?_, hm.ids, hm.dl⟩
  by_cases h0 : 0 < x.ms.length
  · exact hm.rd.far (hs x hx h0) u
  · exact hm.rd.empty h0 _
theorem BN.nilP (w : World) (base : Nat) : BN w base (.slice none 0 0) [] := ⟨BO.nil _ _, fun j x hj => by simp at hj⟩
theorem fits_bigR {M B s c : Int} (h : fits M B s c = true) : fits 128 0 s c = true := by
  unfold fits limOk room at h
  simp only [Bool.and_eq_true, decide_eq_true_eq] at h
  unfold fits limOk room
  simp only [Bool.and_eq_true, decide_eq_true_eq]
  obtain ⟨⟨a1, a2, a3, a4⟩, b1, b2, b3, b4⟩ := h
  have h5 : c ≤ 128 := by split at b4 <;> omega
  exact ⟨by decide, b1, b2, b3, by simpa using h5⟩
theorem can_bigR {M B : Int} {u v : Bu} (h : canU M B u v ≠ 0) : canU 128 0 u v = canU M B u v := by
  have ha := canU_alike h
  have ho := alike_ok ha
  have r1 := okU_range ho.1
  have r2 := okU_range ho.2.1
  unfold canU at h ⊢
  rw [if_pos ha] at h ⊢
  rw [if_pos ha]
  by_cases h1 : v.sec = u.sec + u.cnt ∧ fits M B u.sec (u.cnt + v.cnt) = true
  · rw [if_pos h1, if_pos ⟨h1.1, fits_bigR h1.2⟩]
  · rw [if_neg h1] at h ⊢
    by_cases h2 : u.sec = v.sec + v.cnt ∧ fits M B v.sec (u.cnt + v.cnt) = true
    · rw [if_pos h2, if_neg (fun g => by omega), if_pos ⟨h2.1, fits_bigR h2.2⟩]
    · rw [if_neg h2] at h
      exact absurd rfl h
theorem freeF_bu (L : List BM) (k : Nat) (y : BM) : freeF L k y = !((L.map BM.bu).drop k).any fun x => confU x y.bu := by
  unfold freeF
  rw [← List.map_drop, List.any_map]
  rfl

end Go.Proofs.Ytpgjbocjhconoaa
