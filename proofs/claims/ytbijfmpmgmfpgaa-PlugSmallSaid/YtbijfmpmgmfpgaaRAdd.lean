/- The reference's Free, and its Add where there is room -/
import Derived.Test.YtbijfmpmgmfpgaaConf
import Derived.Test.YtbijfmpmgmfpgaaQ
import Derived.Test.YtbijfmpmgmfpgaaLex
import Derived.Test.YtbijfmpmgmfpgaaRJoin
import Derived.Test.YtbijfmpmgmfpgaaPlD
namespace Go.Proofs.Ytbijfmpmgmfpgaa
open Go.RowKit Go.Maps
set_option linter.unusedSimpArgs false

/-- No element from k on conflicts with y. -/
def freeF (B : List BM) (k : Nat) (y : BM) : Bool := !(B.drop k).any fun x => confB x y
theorem any_drop {α : Type} {L : List α} {p : α → Bool} {j : Nat} {x : α} (h : L[j]? = some x) : (L.drop j).any p = (p x || (L.drop (j + 1)).any p) := by
  obtain ⟨g1, g2⟩ := List.getElem?_eq_some_iff.1 h
  rw [List.drop_eq_getElem_cons g1, g2]
  rfl

set_option maxRecDepth 100000 in
set_option maxHeartbeats 4000000 in
theorem refFree_any (B : List BM) (k : Nat) (y : BM) (bv : Value) (w : World) (hb : BL w bv B) (hy : Mems w y.b y.ms) (hk : k ≤ B.length) :
    Calls Try.prog 66 #[bv, .int .i64 (k : Int), .agg #[.int .i64 (y.b).id, .int .i64 (y.b).ten, .int .i64 (y.b).knd, .int .i64 (y.b).sec, .int .i64 (y.b).cnt, .string (y.b).dat, .bool (y.b).fua, .slice (y.b).mA (y.b).mL (y.b).mC, .int .i64 (y.b).tim]] w fun e w' => e = .returned (.bool (freeF B k y)) ∧ Bel w w' := by
  obtain ⟨A', c', rfl, hc1', hc2'⟩ := hb.form
  obtain ⟨n', Hn'⟩ : ∃ n', Hid (n' = B.length) := ⟨_, rfl⟩
  obtain ⟨V, HV⟩ : ∃ V, Hid (V = freeF B k y) := ⟨_, rfl⟩
  rw [← HV.out]
  have HBT := Lib.hid (fun j x (hj : B[j]? = some x) => hb.at hj)
  rw [← Hn'.out] at hc1' hk HBT ⊢
  unfold maxLen at hc2'
  have HMY := Lib.hid hy
  clear hb hy
  have hB0 := AtF.new w 27 [.int .i64 (y.b).id, .int .i64 (y.b).ten, .int .i64 (y.b).knd, .int .i64 (y.b).sec, .int .i64 (y.b).cnt, .string (y.b).dat, .bool (y.b).fua, .slice (y.b).mA (y.b).mL (y.b).mC, .int .i64 (y.b).tim]
  have hbX : Bel w (w.alloc (.cells #[.int .i64 (y.b).id, .int .i64 (y.b).ten, .int .i64 (y.b).knd, .int .i64 (y.b).sec, .int .i64 (y.b).cnt, .string (y.b).dat, .bool (y.b).fua, .slice (y.b).mA (y.b).mL (y.b).mC, .int .i64 (y.b).tim] 27)) := (by repeat (first | (with_reducible exact Bel.refl _) | (with_reducible assumption) | (with_reducible refine Bel.drewN ?_ _) | (with_reducible refine Bel.drew ?_) | (with_reducible refine Bel.alloc ?_ _) | (with_reducible refine Bel.setNew ?_ ?_ _) | (with_reducible refine Bel.trans ?_ (by assumption)) | (focus (simp; done)) | (focus (simp; omega))))
  go_enter Try.func66, Try.ntmps66
  go_wp2
  simp only [List.toArray] at hB0
  generalize w.alloc (.cells #[.int .i64 (y.b).id, .int .i64 (y.b).ten, .int .i64 (y.b).knd, .int .i64 (y.b).sec, .int .i64 (y.b).cnt, .string (y.b).dat, .bool (y.b).fua, .slice (y.b).mA (y.b).mL (y.b).mC, .int .i64 (y.b).tim] 27) = X at *
  go_loopw [7] (fun jv wr => ∃ m : Nat, jv = .int .i64 m ∧ m ≤ n' ∧ Hid (V = freeF B m y) ∧ Bel X wr) (fun jv _ => n' - (intOf jv).toNat)
  case atStart => exact ⟨k, rfl, hk, HV, Bel.refl _⟩
  case round =>
    obtain ⟨m, rfl, m1, HVm, hbr⟩ := hrel
    by_cases hmn : m < n'
    · obtain ⟨x, hx⟩ : ∃ x, B[m]? = some x := ⟨B[m]'(by have := Hn'.out; omega), List.getElem?_eq_getElem _⟩
      obtain ⟨b', o', c9', hX⟩ := HBT.out m x hx
      have hf := hX.form
      simp only [Value.slice.injEq] at hf
      obtain ⟨rfl, _, rfl⟩ := hf
      have HA2 := Lib.hid (any_drop (p := fun x => confB x y) hx)
      have hbw := hbX.trans hbr
      have hX := hX.bel hbw
      have hBr := hB0.bel hbr
      have jk : (m : Int) < (n' : Int) := by omega
      have hmY := HMY.out
      clear hx
      go_wp2_with fail
      have p0 := (hX.row).cell 0 rfl
      have p1 := (hX.row).cell 1 rfl
      have p2 := (hX.row).cell 2 rfl
      have p3 := (hX.row).cell 3 rfl
      have p4 := (hX.row).cell 4 rfl
      have p5 := (hX.row).cell 5 rfl
      have p6 := (hX.row).cell 6 rfl
      have p7 := (hX.row).cell 7 rfl
      have p8 := (hX.row).cell 8 rfl
      rw [Nat.add_zero] at p0
      have q0 := (hBr).1.2 0 _ rfl
      have q1 := (hBr).1.2 1 _ rfl
      have q2 := (hBr).1.2 2 _ rfl
      have q3 := (hBr).1.2 3 _ rfl
      have q4 := (hBr).1.2 4 _ rfl
      have q5 := (hBr).1.2 5 _ rfl
      have q6 := (hBr).1.2 6 _ rfl
      have q7 := (hBr).1.2 7 _ rfl
      have q8 := (hBr).1.2 8 _ rfl
      have hmX := hX.mem
      have r0 := fun d os => cell_regrown p0 d os
      have r1 := fun d os => cell_regrown p1 d os
      have r2 := fun d os => cell_regrown p2 d os
      have r3 := fun d os => cell_regrown p3 d os
      have r4 := fun d os => cell_regrown p4 d os
      have r5 := fun d os => cell_regrown p5 d os
      have r6 := fun d os => cell_regrown p6 d os
      have r7 := fun d os => cell_regrown p7 d os
      have r8 := fun d os => cell_regrown p8 d os
      have s0 := fun d os => cell_regrown q0 d os
      have s1 := fun d os => cell_regrown q1 d os
      have s2 := fun d os => cell_regrown q2 d os
      have s3 := fun d os => cell_regrown q3 d os
      have s4 := fun d os => cell_regrown q4 d os
      have s5 := fun d os => cell_regrown q5 d os
      have s6 := fun d os => cell_regrown q6 d os
      have s7 := fun d os => cell_regrown q7 d os
      have s8 := fun d os => cell_regrown q8 d os
      refine wp_region_lex [5] 6 (by kernel_rfl) (by kernel_rfl) ?_
      simp only [List.take_succ_cons, List.take_zero, List.drop_succ_cons, List.drop_zero]
      with_reducible refine lex_seg 5 _ _ _ _ (by kernel_rfl) ?_
      simp only [List.take_succ_cons, List.take_zero, List.drop_succ_cons, List.drop_zero]
      try simp only [Act.put, List.setIfInBounds_toArray, List.set_cons_succ, List.set_cons_zero]
      repeat (go_big_quiet_step (fail))
      with_reducible refine wpQuiet_nil ?_
      refine lex_call 69 rfl rfl (by simp [go_sem]; rfl) ?_
      refine (refConflict_any ⟨x.b, x.ms⟩ ⟨y.b, y.ms⟩ _ (hmX.bel (by repeat (first | (with_reducible exact Bel.refl _) | (with_reducible assumption) | (with_reducible refine Bel.drewN ?_ _) | (with_reducible refine Bel.drew ?_) | (with_reducible refine Bel.alloc ?_ _) | (with_reducible refine Bel.setNew ?_ ?_ _) | (with_reducible refine Bel.trans ?_ (by assumption)) | (focus (simp; done)) | (focus (simp; omega))))) (hmY.bel (Bel.trans hbw (by repeat (first | (with_reducible exact Bel.refl _) | (with_reducible assumption) | (with_reducible refine Bel.drewN ?_ _) | (with_reducible refine Bel.drew ?_) | (with_reducible refine Bel.alloc ?_ _) | (with_reducible refine Bel.setNew ?_ ?_ _) | (with_reducible refine Bel.trans ?_ (by assumption)) | (focus (simp; done)) | (focus (simp; omega))))))).mono ?_; rintro e w1 ⟨rfl, hb1⟩
      refine ⟨_, rfl, hb1, ?_⟩
      with_reducible refine lex_nil ?_
      clear r0 r1 r2 r3 r4 r5 r6 r7 r8
      clear s0 s1 s2 s3 s4 s5 s6 s7 s8
      clear p0 p1 p2 p3 p4 p5 p6 p7 p8
      clear q0 q1 q2 q3 q4 q5 q6 q7 q8
      have hb9 : Bel wr w1 := (by repeat (first | (with_reducible exact Bel.refl _) | (with_reducible assumption) | (with_reducible refine Bel.drewN ?_ _) | (with_reducible refine Bel.drew ?_) | (with_reducible refine Bel.alloc ?_ _) | (with_reducible refine Bel.setNew ?_ ?_ _) | (with_reducible refine Bel.trans ?_ (by assumption)) | (focus (simp; done)) | (focus (simp; omega))))
      cases hcf : confB x y
      · have e1 : confB ⟨x.b, x.ms⟩ ⟨y.b, y.ms⟩ = false := hcf
        try rw [e1]
        have HA3 : Hid (V = freeF B (m + 1) y) := by show _ = _; rw [HVm.out, freeF, HA2.out, hcf]; rfl
        clear e1 hcf
        go_wp2
        go_roundw
        case rel => exact ⟨m + 1, by go_num, by omega, HA3, hbr.trans hb9⟩
        case measure => simp [intOf]; omega
      · have e1 : confB ⟨x.b, x.ms⟩ ⟨y.b, y.ms⟩ = true := hcf
        try rw [e1]
        have HF : Hid (V = false) := by show _ = _; rw [HVm.out, freeF, HA2.out, hcf]; rfl
        clear e1 hcf
        go_wp2
        go_ret
        exact ⟨ret_bool HF.out.symm, hbw.trans hb9⟩
    · obtain rfl : m = n' := by omega
      have jk2 : decide ((m : Int) < (m : Int)) = false := by simp
      have HF : Hid (V = true) := by
        show _ = _
        rw [HVm.out, freeF, List.drop_eq_nil_of_le (by have := Hn'.out; omega)]; rfl
      go_wp2
      go_ret
      exact ⟨ret_bool HF.out.symm, hbX.trans hbr⟩


/-- All members lie above base. -/
def AbvN (base : Nat) (L : List BM) : Prop := ∀ y ∈ L, 0 < y.ms.length → ∀ k, (Value.slice y.b.mA y.b.mL y.b.mC).ownBlock = some k → base ≤ k
theorem BN.abv {w : World} {base : Nat} {v : Value} {L : List BM} (h : BN w base v L) : AbvN base L := fun y hy h0 k hk => by
  obtain ⟨j, hj⟩ := List.mem_iff_getElem?.1 hy
  exact h.fr j y (List.getElem?_eq_some_iff.1 hj).1 hj h0 k hk
/-- What is new, and what was there. -/
def NewR (w : World) (L : List BM) (v' : Value) (L' : List BM) : Prop := (∀ k, v'.ownBlock = some k → w.heap.size ≤ k) ∧ ∀ y ∈ L', 0 < y.ms.length → ∀ k, (Value.slice y.b.mA y.b.mL y.b.mC).ownBlock = some k → w.heap.size ≤ k ∨ ∃ z ∈ L, 0 < z.ms.length ∧ (Value.slice z.b.mA z.b.mL z.b.mC).ownBlock = some k
theorem BN.farP {w : World} {base : Nat} {v : Value} {L : List BM} (h : BN w base v L) {p : Addr} (hv : v.ownBlock ≠ some p.block) (hs : ∀ x ∈ L, 0 < x.ms.length → (Value.slice x.b.mA x.b.mL x.b.mC).ownBlock ≠ some p.block) (u : Value) : BN (w.setCell p u) base v L := by
  refine ⟨⟨own_far h.bo.own hv u, fun x hx => ?_, h.bo.sep⟩, h.fr⟩
  have hm := h.bo.mem x hx
  refine ⟨hm.len, ?_, hm.ids, hm.dl⟩
  by_cases h0 : 0 < x.ms.length
  · exact hm.rd.far (hs x hx h0) u
  · exact hm.rd.empty h0 _
theorem BN.nilP (w : World) (base : Nat) : BN w base (.slice none 0 0) [] := ⟨BO.nil _ _, fun j x hj => by simp at hj⟩
theorem fits_bigR {M B s c : Int} (h : fits M B s c = true) : fits 128 0 s c = true := by
  unfold fits limOk room at h
  simp only [Bool.and_eq_true, decide_eq_true_eq] at h
  unfold fits limOk room
  simp only [Bool.and_eq_true, decide_eq_true_eq]
  obtain ⟨⟨a1, a2, a3, a4⟩, b1, b2, b3, b4⟩ := h
  have h5 : c ≤ 128 := by split at b4 <;> omega
  exact ⟨by decide, b1, b2, b3, by simpa using h5⟩
theorem can_bigR {M B : Int} {u v : Bu} (h : canU M B u v ≠ 0) : canU 128 0 u v = canU M B u v := by
  have ha := canU_alike h
  have ho := alike_ok ha
  have r1 := okU_range ho.1
  have r2 := okU_range ho.2.1
  unfold canU at h ⊢
  rw [if_pos ha] at h ⊢
  rw [if_pos ha]
  by_cases h1 : v.sec = u.sec + u.cnt ∧ fits M B u.sec (u.cnt + v.cnt) = true
  · rw [if_pos h1, if_pos ⟨h1.1, fits_bigR h1.2⟩]
  · rw [if_neg h1] at h ⊢
    by_cases h2 : u.sec = v.sec + v.cnt ∧ fits M B v.sec (u.cnt + v.cnt) = true
    · rw [if_pos h2, if_neg (fun g => by omega), if_pos ⟨h2.1, fits_bigR h2.2⟩]
    · rw [if_neg h2] at h
      exact absurd rfl h
theorem freeF_bu (L : List BM) (k : Nat) (y : BM) : freeF L k y = !((L.map BM.bu).drop k).any fun x => confU x y.bu := by
  unfold freeF
  rw [← List.map_drop, List.any_map]
  rfl

set_option maxRecDepth 100000 in
set_option maxHeartbeats 24000000 in
theorem refAdd_any (M B : Int) (v : Value) (L : List BM) (x : BM) (w : World) (base : Nat) (h : BL w v L) (hx : Mems w x.b x.ms) (hb : base ≤ w.heap.size) (hf : AbvN base L) (hxf : ∀ k, (Value.slice x.b.mA x.b.mL x.b.mC).ownBlock = some k → base ≤ k) (hn : L.length < 16) (hv : (v = .slice none 0 0 ∧ L = []) ∨ 0 < L.length) (ox : okU x.bu = true) (lo : limOk M B = true) :
    Calls Try.prog 30 #[.agg #[.int .i64 M, .int .i64 B], .agg #[v], .agg #[.int .i64 (x.b).id, .int .i64 (x.b).ten, .int .i64 (x.b).knd, .int .i64 (x.b).sec, .int .i64 (x.b).cnt, .string (x.b).dat, .bool (x.b).fua, .slice (x.b).mA (x.b).mL (x.b).mC, .int .i64 (x.b).tim]] w fun e w' => ∃ v' L', e = .returned (.tuple #[.agg #[v'], .bool true]) ∧ BN w' base v' L' ∧ L'.map BM.bu = (addP M B (L.map BM.bu) x.bu).1 ∧ NewR w (x :: L) v' L' ∧ Bel w w' := by
  obtain ⟨P, HPL⟩ : ∃ P, Hid (P = L.map BM.bu) := ⟨_, rfl⟩
  obtain ⟨u, HU⟩ : ∃ u, Hid (u = x.bu) := ⟨_, rfl⟩
  have HV := Lib.hid (fun w' (hb : Bel w w') => refBunch_any x.b x.ms w' (hx.bel hb))
  rw [show validB x.b x.ms = true from ox] at HV
  rw [← HPL.out, ← HU.out]
  have HOK : Hid (okU u = true ∧ limOk M B = true) := by show _ ∧ _; rw [HU.out]; exact ⟨ox, lo⟩
  have HX := Lib.hid hx
  have HXF := Lib.hid hxf
  have HLI := Lib.hid (fun w' => refLimits_any M B w')
  rw [lo] at HLI
  have HFF := Lib.hid hf
  have HBL := Lib.hid h
  have HB := Lib.hid hb
  have HVV := Lib.hid hv
  obtain ⟨A0, c0, rfl, hcp, hmx⟩ := h.form
  obtain ⟨n, Hn⟩ : ∃ n, Hid (n = L.length) := ⟨_, rfl⟩
  have HLN : Hid (n = P.length) := by show _ = _; rw [HPL.out, List.length_map]; exact Hn.out
  have hn2 : n < 16 := by rw [Hn.out]; exact hn
  obtain ⟨⟨i1, t1, k1, s1, n1, d1, f1, a1, l1, c1, m1⟩, ms1⟩ := x
  simp only at HV HX HXF ⊢
  rw [← Hn.out]
  have hA := (((AtF.new_at (w := w) rfl 38 [.int .i64 M, .int .i64 B]).alloc (.cells [.slice A0 n c0].toArray 48)).alloc (.cells [.int .i64 i1, .int .i64 t1, .int .i64 k1, .int .i64 s1, .int .i64 n1, .string d1, .bool f1, .slice a1 l1 c1, .int .i64 m1].toArray 27)).alloc (.cells [.slice none 0 0].toArray 48)
  have hB := ((AtF.new_at (w := w.alloc (.cells [.int .i64 M, .int .i64 B].toArray 38)) (g := w.heap.size + 1) (by simp) 48 [.slice A0 n c0]).alloc (.cells [.int .i64 i1, .int .i64 t1, .int .i64 k1, .int .i64 s1, .int .i64 n1, .string d1, .bool f1, .slice a1 l1 c1, .int .i64 m1].toArray 27)).alloc (.cells [.slice none 0 0].toArray 48)
  have hC := (AtF.new_at (w := (w.alloc (.cells [.int .i64 M, .int .i64 B].toArray 38)).alloc (.cells [.slice A0 n c0].toArray 48)) (g := w.heap.size + 2) (by simp) 27 [.int .i64 i1, .int .i64 t1, .int .i64 k1, .int .i64 s1, .int .i64 n1, .string d1, .bool f1, .slice a1 l1 c1, .int .i64 m1]).alloc (.cells [.slice none 0 0].toArray 48)
  have hD := AtF.new_at (w := ((w.alloc (.cells [.int .i64 M, .int .i64 B].toArray 38)).alloc (.cells [.slice A0 n c0].toArray 48)).alloc (.cells [.int .i64 i1, .int .i64 t1, .int .i64 k1, .int .i64 s1, .int .i64 n1, .string d1, .bool f1, .slice a1 l1 c1, .int .i64 m1].toArray 27)) (g := w.heap.size + 3) (by simp) 48 [.slice none 0 0]
  have hbw : Bel w ((((w.alloc (.cells [.int .i64 M, .int .i64 B].toArray 38)).alloc (.cells [.slice A0 n c0].toArray 48)).alloc (.cells [.int .i64 i1, .int .i64 t1, .int .i64 k1, .int .i64 s1, .int .i64 n1, .string d1, .bool f1, .slice a1 l1 c1, .int .i64 m1].toArray 27)).alloc (.cells [.slice none 0 0].toArray 48)) := (by repeat (first | (with_reducible exact Bel.refl _) | (with_reducible assumption) | (with_reducible refine Bel.drewN ?_ _) | (with_reducible refine Bel.drew ?_) | (with_reducible refine Bel.alloc ?_ _) | (with_reducible refine Bel.setNew ?_ ?_ _) | (with_reducible refine Bel.trans ?_ (by assumption)) | (focus (simp; done)) | (focus (simp; omega))))
  have hsz : ((((w.alloc (.cells [.int .i64 M, .int .i64 B].toArray 38)).alloc (.cells [.slice A0 n c0].toArray 48)).alloc (.cells [.int .i64 i1, .int .i64 t1, .int .i64 k1, .int .i64 s1, .int .i64 n1, .string d1, .bool f1, .slice a1 l1 c1, .int .i64 m1].toArray 27)).alloc (.cells [.slice none 0 0].toArray 48)).heap.size = w.heap.size + 4 := by simp
  simp only [List.toArray] at hA hB hC hD hbw hsz
  clear h hx hb hf hxf hn ox lo hv
  go_enter Try.func30, Try.ntmps30
  go_upto_region 1 with fail
  obtain ⟨W, HW⟩ : ∃ W, Hid (W = (((w.alloc (.cells #[.int .i64 M, .int .i64 B] 38)).alloc (.cells #[.slice A0 n c0] 48)).alloc (.cells #[.int .i64 i1, .int .i64 t1, .int .i64 k1, .int .i64 s1, .int .i64 n1, .string d1, .bool f1, .slice a1 l1 c1, .int .i64 m1] 27)).alloc (.cells #[.slice none 0 0] 48)) := ⟨_, rfl⟩
  rw [← HW.out] at hA hB hC hD hbw hsz ⊢
  clear HW
  generalize hN : w.heap.size = N at *
  have HN := Lib.hid hN
  clear hN
  go_cut [8] (fun lv wx => ∃ c', ∃ g, lv = .slice g n c' ∧ BN wx base lv L ∧ wx.ownsRow (N + 4) 27 9 lv n (bmc L) ∧ Bel W wx)
  case first =>
    have q0 := hB.1.2 0 _ rfl
    obtain ⟨i0, hi, hz0, hz1, hz2⟩ := info_parts Try.infoBunchP
    have hNb : base ≤ N := by have := HN.out; have := HB.out; omega
    rcases HVV.out with ⟨hv, hl⟩ | hl
    · injection hv with e1 e2 e3
      subst e1 e3
      have hn0 : n = 0 := by rw [Hn.out, e2]
      subst hn0
      clear e2
      go_wp2_with fail
      go_meet
      rw [hl]
      exact ⟨_, _, rfl, BN.nilP _ _, ⟨rfl, Or.inl ⟨rfl, rfl⟩⟩, Bel.refl _⟩
    · obtain ⟨g0, o0, c9, hv, hlb, hcell⟩ := HBL.out.rd.at hl
      injection hv with hv1 _ hv2
      subst hv1 hv2
      have hn0 : 0 < n := by rw [Hn.out]; exact hl
      have hlbN : g0 < N := by have := HN.out; omega
      have hnews : ∀ j u, (bmc L)[j]? = some u → W.cell? ((⟨g0, o0, none⟩ : Addr).add j) = some u := fun j u hu => by
        rw [Addr.add_lit, hbw.cellAt _ _ hlb]
        exact hcell j u hu
      have hone : ∀ u ∈ bmc L, u.oneCell' = true := flat_one (f := fun x : BM => x.b.cells) (fun x => bcells_oneP x.b) L
      have hml : (bmc L).length = n * 9 := by rw [bmc_len, Hn.out]
      have HCC := Lib.hid (And.intro hone hml)
      clear hcell
      go_wp2_with (at_builtin; go_must (refine wpList_append_own_at _ rfl _ _ 46 rfl (N + 4) 27 i0 _ 9 96 Try.underlying46 hi hz0 hz1 hz2 rfl (by omega) (.slice none 0 0) 0 [] rfl ⟨rfl, Or.inl ⟨rfl, rfl⟩⟩ ⟨g0, o0, none⟩ n _ (bmc L) rfl hml hnews hone (by unfold maxLen; omega) (by omega) (by omega) ?_); intro v' w5 hown hg _ hloc)
      go_meet
      have hown2 : w5.ownsRow (N + 4) 27 9 v' n (bmc L) := by simpa using hown
      have hbW : Bel W w5 := bel_own (Bel.refl W) (base := W.heap.size) (e := 27) (size := 9) (v := .slice none 0 0) (n := 0) (xs := []) ⟨rfl, Or.inl ⟨rfl, rfl⟩⟩ hg (Nat.le_refl _)
      obtain ⟨gn, cn, hvn, _, _⟩ := hown2.form (by omega)
      subst hvn
      refine ⟨_, _, rfl, ⟨⟨?_, fun x hx => (HBL.out.mem x hx).bel (hbw.trans hbW), fun x hx h0 k hk e => ?_⟩, fun j x hj hx h0 k hk => HFF.out x (List.mem_of_getElem? hx) h0 k hk⟩, hown2, hbW⟩
      · rw [← Hn.out]; exact own_mono hown2 (by omega)
      · have h1 := (HBL.out.mem x hx).rd.own_lt h0 hk
        have h2 := (hown2.lt k e).1
        have := HN.out
        omega
  case rest =>
    obtain ⟨c', ga, rfl, hBN, hown, hbW⟩ := hcut
    replace hA := hA.bel hbW
    replace hB := hB.bel hbW
    replace hC := hC.bel hbW
    replace hD := hD.bel hbW
    have hbw2 := hbw.trans hbW
    have hNW : N + 4 ≤ wc.heap.size := by have := hbW.size; omega
    clear hbw hbW hsz
    have p0 := (hC).1.2 0 _ rfl
    have p1 := (hC).1.2 1 _ rfl
    have p2 := (hC).1.2 2 _ rfl
    have p3 := (hC).1.2 3 _ rfl
    have p4 := (hC).1.2 4 _ rfl
    have p5 := (hC).1.2 5 _ rfl
    have p6 := (hC).1.2 6 _ rfl
    have p7 := (hC).1.2 7 _ rfl
    have p8 := (hC).1.2 8 _ rfl
    go_wp2_with fail
    refine (HV.out _ hbw2).mono ?_; rintro e w2 ⟨rfl, hb2⟩
    clear p0 p1 p2 p3 p4 p5 p6 p7 p8
    have ca := (hA.bel hb2).1.2 0 _ rfl
    have cb := (hA.bel hb2).1.2 1 _ rfl
    go_wp2_with fail
    refine (HLI.out _).mono ?_; rintro e w3 ⟨rfl, hb3⟩
    clear ca cb
    have hb23 := hb2.trans hb3
    replace hA := hA.bel hb23
    replace hC := hC.bel hb23
    replace hD := hD.bel hb23
    replace hBN := hBN.keep hb23
    have hown3 := own_keep hown hb23
    have hbw3 := hbw2.trans hb23
    have hNW3 : N + 4 ≤ w3.heap.size := by have := hb23.size; omega
    clear hb2 hb3 hb23 hB hbw2 hown hNW
    go_wp2
    go_loopw [9] (fun iv wr => ∃ i : Nat, iv = .int .i64 i ∧ i ≤ n ∧ Hid (∀ j < i, goodI M B u P j = false) ∧ Bel w3 wr) (fun iv _ => n - (intOf iv).toNat)
    case atStart => exact ⟨0, rfl, by omega, fun j h => absurd h (by omega), Bel.refl _⟩
    case round =>
      obtain ⟨i, rfl, p1, HG, hbr⟩ := hrel
      obtain ⟨W1, rfl⟩ : ∃ X, X = wr := ⟨_, rfl⟩
      by_cases hlt : i < n
      · have hin : (i : Int) < (n : Int) := by omega
        obtain ⟨y, hy⟩ : ∃ y, L[i]? = some y := ⟨L[i]'(by have := Hn.out; omega), List.getElem?_eq_getElem _⟩
        obtain ⟨g, c2, hf, hg1, _⟩ := hown3.form (by omega)
        injection hf with hf1 hf2 hf3
        subst hf1
        obtain ⟨g', o', c4, hat⟩ := hBN.bo.bl.at hy
        have hf := hat.form
        injection hf with hf1 hf7 hf8
        injection hf1 with hf4
        injection hf4 with hf5 hf6
        subst hf5; subst hf6
        have HY := Lib.hid hy
        have gl := hat.lt
        have hrow := hat.row.bel hbr gl
        rw [Nat.zero_add] at hrow
        have hrw0 := hat.row
        rw [Nat.zero_add] at hrw0
        have HROW := Lib.hid hrw0
        have HMY := Lib.hid hat.mem
        have HPY : Hid (P[i]? = some y.bu) := by show _ = _; rw [HPL.out, List.getElem?_map, hy]; rfl
        obtain ⟨yu, HYU⟩ : ∃ yu, Hid (yu = y.bu) := ⟨_, rfl⟩
        rw [← HYU.out] at HPY
        have HCN := Lib.hid (fun W' (hb1 : Bel w3 W') => refCan_any M B y ⟨⟨i1, t1, k1, s1, n1, d1, f1, a1, l1, c1, m1⟩, ms1⟩ W' (HMY.out.bel hb1) (HX.out.bel (hbw3.trans hb1)))
        rw [← HU.out, ← HYU.out] at HCN
        have HJN := Lib.hid (fun how (h0 : how ≠ 0) (hc : canU 128 0 yu u = how) W' (hb1 : Bel w3 W') => refJoin_any y ⟨⟨i1, t1, k1, s1, n1, d1, f1, a1, l1, c1, m1⟩, ms1⟩ how W' (HMY.out.bel hb1) (HX.out.bel (hbw3.trans hb1)) h0 (by rw [← HU.out, ← HYU.out]; exact hc))
        rw [← HU.out, ← HYU.out] at HJN
        have HFR := Lib.hid (fun W' (hb1 : Bel w3 W') => refFree_any L (i + 1) ⟨⟨i1, t1, k1, s1, n1, d1, f1, a1, l1, c1, m1⟩, ms1⟩ (.slice (some ⟨g, 0, none⟩) n c') W' (hBN.bo.bl.bel hb1) (HX.out.bel (hbw3.trans hb1)) (by have := Hn.out; omega))
        obtain ⟨fr, HFV⟩ : ∃ b, Hid (freeF L (i + 1) ⟨⟨i1, t1, k1, s1, n1, d1, f1, a1, l1, c1, m1⟩, ms1⟩ = b) := ⟨_, rfl⟩
        have HFV2 : Hid (((P.drop (i + 1)).any fun z => confU z u) = !fr) := by
          show _ = _
          rw [← HFV.out, freeF_bu, ← HPL.out, ← HU.out, Bool.not_not]
        rw [HFV.out] at HFR
        clear HFV
        obtain ⟨⟨i2, t2, k2, s2, n2, d2, f2, a2, l2, c3, m2⟩, ms2⟩ := y
        simp only at HCN HJN HFR hrow HROW
        clear hrw0 hat hf2 hf3 hf7 hf8 hy
        have ca := (hA.bel hbr).1.2 0 _ rfl
        have cb := (hA.bel hbr).1.2 1 _ rfl
        have hC1 := hC.bel hbr
        have q0 := (hrow).cell 0 rfl
        have q1 := (hrow).cell 1 rfl
        have q2 := (hrow).cell 2 rfl
        have q3 := (hrow).cell 3 rfl
        have q4 := (hrow).cell 4 rfl
        have q5 := (hrow).cell 5 rfl
        have q6 := (hrow).cell 6 rfl
        have q7 := (hrow).cell 7 rfl
        have q8 := (hrow).cell 8 rfl
        rw [Nat.add_zero] at q0
        have p0 := (hC1).1.2 0 _ rfl
        have p1 := (hC1).1.2 1 _ rfl
        have p2 := (hC1).1.2 2 _ rfl
        have p3 := (hC1).1.2 3 _ rfl
        have p4 := (hC1).1.2 4 _ rfl
        have p5 := (hC1).1.2 5 _ rfl
        have p6 := (hC1).1.2 6 _ rfl
        have p7 := (hC1).1.2 7 _ rfl
        have p8 := (hC1).1.2 8 _ rfl
        clear hrow hC1
        go_wp2_with fail
        have rca := fun d os => cell_regrown ca d os
        have rcb := fun d os => cell_regrown cb d os
        have rq0 := fun d os => cell_regrown q0 d os
        have rq1 := fun d os => cell_regrown q1 d os
        have rq2 := fun d os => cell_regrown q2 d os
        have rq3 := fun d os => cell_regrown q3 d os
        have rq4 := fun d os => cell_regrown q4 d os
        have rq5 := fun d os => cell_regrown q5 d os
        have rq6 := fun d os => cell_regrown q6 d os
        have rq7 := fun d os => cell_regrown q7 d os
        have rq8 := fun d os => cell_regrown q8 d os
        have rp0 := fun d os => cell_regrown p0 d os
        have rp1 := fun d os => cell_regrown p1 d os
        have rp2 := fun d os => cell_regrown p2 d os
        have rp3 := fun d os => cell_regrown p3 d os
        have rp4 := fun d os => cell_regrown p4 d os
        have rp5 := fun d os => cell_regrown p5 d os
        have rp6 := fun d os => cell_regrown p6 d os
        have rp7 := fun d os => cell_regrown p7 d os
        have rp8 := fun d os => cell_regrown p8 d os
        refine wp_region_lex [6] 7 (by kernel_rfl) (by kernel_rfl) ?_
        simp only [List.take_succ_cons, List.take_zero, List.drop_succ_cons, List.drop_zero]
        with_reducible refine lex_seg 6 _ _ _ _ (by kernel_rfl) ?_
        simp only [List.take_succ_cons, List.take_zero, List.drop_succ_cons, List.drop_zero]
        try simp only [Act.put, List.setIfInBounds_toArray, List.set_cons_succ, List.set_cons_zero]
        repeat (go_big_quiet_step (fail))
        with_reducible refine wpQuiet_nil ?_
        refine lex_call 65 rfl rfl (by simp [go_sem]; rfl) ?_
        refine (HCN.out _ (by repeat (first | (with_reducible exact Bel.refl _) | (with_reducible assumption) | (with_reducible refine Bel.drewN ?_ _) | (with_reducible refine Bel.drew ?_) | (with_reducible refine Bel.alloc ?_ _) | (with_reducible refine Bel.setNew ?_ ?_ _) | (with_reducible refine Bel.trans ?_ (by assumption)) | (focus (simp; done)) | (focus (simp; omega))))).mono ?_; rintro e w4 ⟨rfl, hb4⟩
        refine ⟨_, rfl, hb4, ?_⟩
        with_reducible refine lex_nil ?_
        have hb34 : Bel w3 w4 := hbr.drew.trans hb4
        clear rca rcb ca cb q0 q1 q2 q3 q4 q5 q6 q7 q8 p0 p1 p2 p3 p4 p5 p6 p7 p8 rq0 rq1 rq2 rq3 rq4 rq5 rq6 rq7 rq8 rp0 rp1 rp2 rp3 rp4 rp5 rp6 rp7 rp8
        obtain ⟨how, HW⟩ : ∃ how, Hid (how = canU M B yu u) := ⟨_, rfl⟩
        rw [← HW.out]
        by_cases hz : how = 0
        · have HG2 : Hid (∀ j < i + 1, goodI M B u P j = false) := by
            intro j hj
            by_cases h : j < i
            · exact HG.out j h
            · obtain rfl : j = i := by omega
              exact goodI_no HPY.out (.inl (by rw [← HW.out]; exact hz))
          subst hz
          clear HW
          go_wp2
          go_roundw
          case rel => exact ⟨i + 1, by go_num, by omega, HG2, hb34⟩
          case measure => simp [intOf]; omega
        · have hzb : (how != 0) = true := by simpa using hz
          have hC4 := hC.bel hb34
          have p0 := (hC4).1.2 0 _ rfl
          have p1 := (hC4).1.2 1 _ rfl
          have p2 := (hC4).1.2 2 _ rfl
          have p3 := (hC4).1.2 3 _ rfl
          have p4 := (hC4).1.2 4 _ rfl
          have p5 := (hC4).1.2 5 _ rfl
          have p6 := (hC4).1.2 6 _ rfl
          have p7 := (hC4).1.2 7 _ rfl
          have p8 := (hC4).1.2 8 _ rfl
          go_wp2_with fail
          refine (HFR.out _ hb34).mono ?_; rintro e w5 ⟨rfl, hb5⟩
          clear p0 p1 p2 p3 p4 p5 p6 p7 p8 hC4
          have hb35 := hb34.trans hb5
          cases hfr : fr
          · have HG2 : Hid (∀ j < i + 1, goodI M B u P j = false) := by
              intro j hj
              by_cases h : j < i
              · exact HG.out j h
              · obtain rfl : j = i := by omega
                exact goodI_no HPY.out (.inr (by rw [HFV2.out, hfr]; rfl))
            clear hfr
            go_wp2
            go_roundw
            case rel => exact ⟨i + 1, by go_num, by omega, HG2, hb35⟩
            case measure => simp [intOf]; omega
          · have HANY : Hid (((P.drop (i + 1)).any fun z => confU z u) = false) := by show _ = _; rw [HFV2.out, hfr]; rfl
            have HJ2 := Lib.hid (HJN.out how hz (by rw [HW.out]; exact can_bigR (by rw [← HW.out]; exact hz)))
            clear hfr
            obtain ⟨J, HJ⟩ : ∃ J, Hid (J = joinU yu u how) := ⟨_, rfl⟩
            rw [← HJ.out] at HJ2
            have HEQ : Hid ((addP M B P u).1 = P.set i J) := by
              show _ = _
              rw [addP_join HOK.out.1 HOK.out.2 HPY.out (by rw [← HW.out]; exact hz) HANY.out HG.out, HJ.out, HW.out]
            obtain ⟨i6, t6, k6, s6, n6, d6, f6, ms6, m6⟩ := J
            obtain ⟨l6, Hl6⟩ : ∃ l6, Hid (l6 = ms6.length) := ⟨_, rfl⟩
            simp only [Bu.at] at HJ2
            rw [← Hl6.out] at HJ2
            have hC5 := hC.bel hb35
            have hrow5 := HROW.out.bel hb35 gl
            have q0 := (hrow5).cell 0 rfl
            have q1 := (hrow5).cell 1 rfl
            have q2 := (hrow5).cell 2 rfl
            have q3 := (hrow5).cell 3 rfl
            have q4 := (hrow5).cell 4 rfl
            have q5 := (hrow5).cell 5 rfl
            have q6 := (hrow5).cell 6 rfl
            have q7 := (hrow5).cell 7 rfl
            have q8 := (hrow5).cell 8 rfl
            rw [Nat.add_zero] at q0
            have p0 := (hC5).1.2 0 _ rfl
            have p1 := (hC5).1.2 1 _ rfl
            have p2 := (hC5).1.2 2 _ rfl
            have p3 := (hC5).1.2 3 _ rfl
            have p4 := (hC5).1.2 4 _ rfl
            have p5 := (hC5).1.2 5 _ rfl
            have p6 := (hC5).1.2 6 _ rfl
            have p7 := (hC5).1.2 7 _ rfl
            have p8 := (hC5).1.2 8 _ rfl
            go_wp2_with fail
            have rq0 := fun d os => cell_regrown q0 d os
            have rq1 := fun d os => cell_regrown q1 d os
            have rq2 := fun d os => cell_regrown q2 d os
            have rq3 := fun d os => cell_regrown q3 d os
            have rq4 := fun d os => cell_regrown q4 d os
            have rq5 := fun d os => cell_regrown q5 d os
            have rq6 := fun d os => cell_regrown q6 d os
            have rq7 := fun d os => cell_regrown q7 d os
            have rq8 := fun d os => cell_regrown q8 d os
            have rp0 := fun d os => cell_regrown p0 d os
            have rp1 := fun d os => cell_regrown p1 d os
            have rp2 := fun d os => cell_regrown p2 d os
            have rp3 := fun d os => cell_regrown p3 d os
            have rp4 := fun d os => cell_regrown p4 d os
            have rp5 := fun d os => cell_regrown p5 d os
            have rp6 := fun d os => cell_regrown p6 d os
            have rp7 := fun d os => cell_regrown p7 d os
            have rp8 := fun d os => cell_regrown p8 d os
            refine wp_region_lex [8] 10 (by kernel_rfl) (by kernel_rfl) ?_
            simp only [List.take_succ_cons, List.take_zero, List.drop_succ_cons, List.drop_zero]
            with_reducible refine lex_seg 8 _ _ _ _ (by kernel_rfl) ?_
            simp only [List.take_succ_cons, List.take_zero, List.drop_succ_cons, List.drop_zero]
            try simp only [Act.put, List.setIfInBounds_toArray, List.set_cons_succ, List.set_cons_zero]
            repeat (go_big_quiet_step (fail))
            with_reducible refine wpQuiet_nil ?_
            refine lex_call 67 rfl rfl (by simp [go_sem]; rfl) ?_
            refine (HJ2.out _ (by repeat (first | (with_reducible exact Bel.refl _) | (with_reducible assumption) | (with_reducible refine Bel.drewN ?_ _) | (with_reducible refine Bel.drew ?_) | (with_reducible refine Bel.alloc ?_ _) | (with_reducible refine Bel.setNew ?_ ?_ _) | (with_reducible refine Bel.trans ?_ (by assumption)) | (focus (simp; done)) | (focus (simp; omega))))).mono ?_; rintro e w6 ⟨A9, c9, rfl, hZ, hb6⟩
            refine ⟨_, rfl, hb6, ?_⟩
            with_reducible refine lex_seg 1 _ _ _ _ (by kernel_rfl) ?_
            simp only [List.take_succ_cons, List.take_zero, List.drop_succ_cons, List.drop_zero]
            try simp only [Act.put, List.setIfInBounds_toArray, List.set_cons_succ, List.set_cons_zero]
            repeat (go_big_quiet_step (fail))
            with_reducible refine wpQuiet_nil ?_
            with_reducible refine lex_nil ?_
            clear q0 q1 q2 q3 q4 q5 q6 q7 q8 p0 p1 p2 p3 p4 p5 p6 p7 p8 rq0 rq1 rq2 rq3 rq4 rq5 rq6 rq7 rq8 rp0 rp1 rp2 rp3 rp4 rp5 rp6 rp7 rp8 hrow5 hC5
            have hb56 : Bel w5 w6 := (Bel.drew (Bel.refl w5)).trans hb6
            have hb36 := hb35.trans hb56
            have hD6 := hD.bel hb36
            have hBN6 := hBN.keep hb36
            have hbw6 := hbw3.trans hb36
            have gl6 : g < w6.heap.size := Nat.lt_of_lt_of_le gl hb36.size
            have hrow6 := HROW.out.bel hb36 gl
            have u0 := (hrow6).cell 0 rfl
            have u1 := (hrow6).cell 1 rfl
            have u2 := (hrow6).cell 2 rfl
            have u3 := (hrow6).cell 3 rfl
            have u4 := (hrow6).cell 4 rfl
            have u5 := (hrow6).cell 5 rfl
            have u6 := (hrow6).cell 6 rfl
            have u7 := (hrow6).cell 7 rfl
            have u8 := (hrow6).cell 8 rfl
            rw [Nat.add_zero] at u0
            rw [Hn.out] at hBN6
            have gf := fun j => hBN6.bo.own.frozenAt (g := g) j
            have hZ2 := hZ.2
            have hsz : w3.heap.size ≤ w5.heap.size := hb35.size
            have hNb : base ≤ N := by have := HN.out; have := HB.out; omega
            have HS := BN.set hBN6 (y := ⟨Bu.at ⟨i6, t6, k6, s6, n6, d6, f6, ms6, m6⟩ A9 c9, ms6⟩) HY.out hZ.1 (fun q hq => by have h := hZ2 q hq; simp only [World.size_drew] at h; constructor <;> omega)
            rw [List.length_set, ← Hn.out] at HS
            have hcells : (Bu.at ⟨i6, t6, k6, s6, n6, d6, f6, ms6, m6⟩ A9 c9).cells = [.int .i64 i6, .int .i64 t6, .int .i64 k6, .int .i64 s6, .int .i64 n6, .string d6, .bool f6, .slice A9 l6 c9, .int .i64 m6] := by rw [Hl6.out]; rfl
            rw [hcells] at HS
            have hgN : N + 4 ≤ g := hg1
            have hD := hD6.setRow_other (B := g) (i := i * 9) [.int .i64 i6, .int .i64 t6, .int .i64 k6, .int .i64 s6, .int .i64 n6, .string d6, .bool f6, .slice A9 l6 c9, .int .i64 m6] (by omega)
            have hbw := Bel.setRow (B := g) (i := i * 9) [.int .i64 i6, .int .i64 t6, .int .i64 k6, .int .i64 s6, .int .i64 n6, .string d6, .bool f6, .slice A9 l6 c9, .int .i64 m6] hbw6 (by have := HN.out; omega)
            have HLM : Hid ((L.set i ⟨Bu.at ⟨i6, t6, k6, s6, n6, d6, f6, ms6, m6⟩ A9 c9, ms6⟩).map BM.bu = P.set i ⟨i6, t6, k6, s6, n6, d6, f6, ms6, m6⟩) := by
              show _ = _
              rw [List.map_set, HPL.out]
              rfl
            have HSEP : Hid (∀ x ∈ L.set i ⟨Bu.at ⟨i6, t6, k6, s6, n6, d6, f6, ms6, m6⟩ A9 c9, ms6⟩, 0 < x.ms.length → (Value.slice x.b.mA x.b.mL x.b.mC).ownBlock ≠ some (N + 3)) := fun x hx h0 e => by
              rcases List.mem_or_eq_of_mem_set hx with hx | rfl
              · have := (HBL.out.mem x hx).rd.own_lt h0 e
                have := HN.out
                omega
              · have h := hZ2 _ e
                simp only [World.size_drew] at h
                omega
            have HNR : Hid (NewR w (⟨⟨i1, t1, k1, s1, n1, d1, f1, a1, l1, c1, m1⟩, ms1⟩ :: L) (.slice (some ⟨g, 0, none⟩) n c') (L.set i ⟨Bu.at ⟨i6, t6, k6, s6, n6, d6, f6, ms6, m6⟩ A9 c9, ms6⟩)) := by
              refine ⟨fun k e => by have h2 := (hown3.lt k e).1; have := HN.out; omega, fun z hz h0 k e => ?_⟩
              rcases List.mem_or_eq_of_mem_set hz with hz | rfl
              · exact .inr ⟨z, List.mem_cons_of_mem _ hz, h0, e⟩
              · have h := hZ2 _ e
                simp only [World.size_drew] at h
                exact .inl (by have := HN.out; omega)
            have hD9 := hD.set 0 (by simp) (.slice (some ⟨g, 0, none⟩) n c')
            have HB9 := Lib.hid (HS.farP (p := ⟨N + 3, 0, none⟩) (by intro e; injection e with e; have e2 : g = N + 3 := e; omega) HSEP.out (.slice (some ⟨g, 0, none⟩) n c'))
            have hb9 := Lib.hid (hbw.setNew (p := ⟨N + 3, 0, none⟩) (by have := HN.out; show w.heap.size ≤ N + 3; omega) (.slice (some ⟨g, 0, none⟩) n c'))
            simp only [List.set_cons_zero] at hD9
            have d0 := hD.1.2 0 _ rfl
            have dl := hD.1.1
            have df := hD.2 0
            have r0 := hD9.1.2 0 _ rfl
            simp only [setRow, Nat.add_assoc, Nat.reduceAdd] at d0 dl df r0
            clear hD6 hD hBN6 HS hbw hbw6 hb6 hb56 hZ hZ2 hrow6 hcells hD9 hA hC hBN hown3
            go_wp2
            exact bodyPost_ret (v := .tuple #[.agg #[.slice (some ⟨g, 0, none⟩) n c'], .bool true]) (by simp [results, Try.results30, go_sem, r0]) rfl ⟨.slice (some ⟨g, 0, none⟩) n c', rfl, L.set i ⟨Bu.at ⟨i6, t6, k6, s6, n6, d6, f6, ms6, m6⟩ A9 c9, ms6⟩, HB9.out, by rw [HEQ.out]; exact HLM.out, HNR.out, hb9.out⟩
      · obtain rfl : i = n := by omega
        have jk : decide ((i : Int) < (i : Int)) = false := by simp
        have HGN := Lib.hid (fun j (h : j < P.length) => HG.out j (by rw [HLN.out]; exact h))
        have h16i : ¬ (16 : Int) ≤ (i : Int) := by omega
        have HEQ : Hid ((addP M B P u).1 = P ++ [u]) := by
          show _ = _
          rw [addP_snoc HOK.out.1 HOK.out.2 HGN.out (by rw [← HLN.out]; omega)]
        have hC5 := hC.bel hbr
        have hD5 := hD.bel hbr
        have hown5 := own_keep hown3 hbr
        have hbw5 := hbw3.trans hbr
        have hsz5 : N + 4 ≤ W1.heap.size := by have := hbr.size; omega
        have hneD := own_ne hown5 (k := N + 3) (.inl (by omega))
        obtain ⟨i0, hi, hz0, hz1, hz2⟩ := info_parts Try.infoBunchP
        have p0 := (hC5).1.2 0 _ rfl
        have p1 := (hC5).1.2 1 _ rfl
        have p2 := (hC5).1.2 2 _ rfl
        have p3 := (hC5).1.2 3 _ rfl
        have p4 := (hC5).1.2 4 _ rfl
        have p5 := (hC5).1.2 5 _ rfl
        have p6 := (hC5).1.2 6 _ rfl
        have p7 := (hC5).1.2 7 _ rfl
        have p8 := (hC5).1.2 8 _ rfl
        clear HG HGN hA hC hD hBN hown3 hbw3 hC5
        go_wp2_with (at_builtin; go_must (refine wpList_append_own_at _ rfl _ _ 46 rfl (N + 4) 27 i0 _ 9 96 Try.underlying46 hi hz0 hz1 hz2 rfl (by omega) (.slice ga i c') _ _ rfl (hown5.alloc _) ⟨W1.heap.size, 0, none⟩ 1 1 (Bun.cells ⟨i1, t1, k1, s1, n1, d1, f1, a1, l1, c1, m1⟩) rfl rfl (World.news_of_block (cs := #[.int .i64 i1, .int .i64 t1, .int .i64 k1, .int .i64 s1, .int .i64 n1, .string d1, .bool f1, .slice a1 l1 c1, .int .i64 m1]) (t := 27) (fr := (0, 0)) (heap_alloc_new W1 _)) (bcells_oneP _) (by unfold maxLen; omega) (by omega) (by simp; omega) ?_); intro v' w7 hown' hg' _ hloc; obtain ⟨gn, cn, hvn, _, _⟩ := hown'.form (by omega); subst hvn; have hD7 := (hD5.alloc _).grown hg' (Ne.symm hneD); have d0 := hD7.1.2 0 _ rfl; have dl := hD7.1.1; have df := hD7.2 0)
        have hb7 : Bel w w7 := bel_own (hbw5.alloc _) (hown5.alloc _) hg' (by have := HN.out; omega)
        have hD9 := hD7.set 0 (by simp) (.slice (some ⟨gn, 0, none⟩) (i + 1) cn)
        have hb9 := hb7.setNew (p := ⟨N + 3, 0, none⟩) (by have := HN.out; show w.heap.size ≤ N + 3; omega) (.slice (some ⟨gn, 0, none⟩) (i + 1) cn)
        have r0 := hD9.1.2 0 _ rfl
        have hmem : ∀ z ∈ L ++ [(⟨⟨i1, t1, k1, s1, n1, d1, f1, a1, l1, c1, m1⟩, ms1⟩ : BM)], Mems w z.b z.ms ∧ ∀ k, (Value.slice z.b.mA z.b.mL z.b.mC).ownBlock = some k → 0 < z.ms.length → base ≤ k ∧ k < N := fun z hz => by
          rw [List.mem_append, List.mem_singleton] at hz
          rcases hz with hz | rfl
          · refine ⟨HBL.out.mem z hz, fun k hk h0 => ⟨HFF.out z hz h0 k hk, ?_⟩⟩
            have := (HBL.out.mem z hz).rd.own_lt h0 hk
            have := HN.out
            omega
          · refine ⟨HX.out, fun k hk h0 => ⟨HXF.out k hk, ?_⟩⟩
            have := HX.out.rd.own_lt h0 hk
            have := HN.out
            omega
        have hS : BN w7 base (.slice (some ⟨gn, 0, none⟩) (i + 1) cn) (L ++ [⟨⟨i1, t1, k1, s1, n1, d1, f1, a1, l1, c1, m1⟩, ms1⟩]) := by
          refine ⟨⟨?_, fun z hz => (hmem z hz).1.bel hb7, fun z hz h0 k hk e => ?_⟩, fun j z hj hz h0 k hk => ((hmem z (List.mem_of_getElem? hz)).2 k hk h0).1⟩
          · rw [List.length_append, bmc_snocP, ← Hn.out]
            exact own_mono hown' (by have := HN.out; have := HB.out; omega)
          · have h1 := ((hmem z hz).2 k hk h0).2
            have h2 := (hown'.lt k e).1
            omega
        have hS9 := hS.farP (p := ⟨N + 3, 0, none⟩) (by intro e; have h2 := (hown'.lt _ e).1; have h3 : N + 4 ≤ N + 3 := h2; omega) (fun z hz h0 e => by have h1 := ((hmem z hz).2 _ e h0).2; have h2 : N + 3 < N := h1; omega) (.slice (some ⟨gn, 0, none⟩) (i + 1) cn)
        have HLM : Hid ((L ++ [(⟨⟨i1, t1, k1, s1, n1, d1, f1, a1, l1, c1, m1⟩, ms1⟩ : BM)]).map BM.bu = P ++ [u]) := by
          show _ = _
          rw [List.map_append, HPL.out, HU.out]
          rfl
        have HNR : Hid (NewR w (⟨⟨i1, t1, k1, s1, n1, d1, f1, a1, l1, c1, m1⟩, ms1⟩ :: L) (.slice (some ⟨gn, 0, none⟩) (i + 1) cn) (L ++ [⟨⟨i1, t1, k1, s1, n1, d1, f1, a1, l1, c1, m1⟩, ms1⟩])) := by
          refine ⟨fun k e => by have h2 := (hown'.lt k e).1; have := HN.out; omega, fun z hz h0 k e => .inr ⟨z, ?_, h0, e⟩⟩
          rw [List.mem_append, List.mem_singleton] at hz
          rcases hz with hz | rfl
          · exact List.mem_cons_of_mem _ hz
          · exact List.mem_cons_self
        exact bodyPost_ret (v := .tuple #[.agg #[.slice (some ⟨gn, 0, none⟩) (i + 1) cn], .bool true]) (by simp [results, Try.results30, go_sem, r0]) rfl ⟨.slice (some ⟨gn, 0, none⟩) (i + 1) cn, rfl, L ++ [⟨⟨i1, t1, k1, s1, n1, d1, f1, a1, l1, c1, m1⟩, ms1⟩], hS9, by rw [HEQ.out]; exact HLM.out, HNR.out, hb9⟩
end Go.Proofs.Ytbijfmpmgmfpgaa
