/- The walk of DeadlineOrder. -/
import Derived.Test.YtdffpnogfinehaaDlaw
import Derived.Test.YtdffpnogfinehaaQd
import Derived.Test.YtdffpnogfinehaaAwk
namespace Go.Proofs.Ytdffpnogfinehaa
open Go.RowKit Go.Maps
set_option linter.unusedSimpArgs false

set_option maxRecDepth 100000 in
set_option maxHeartbeats 8000000 in
theorem deadlineOrder_walk (v : Value) (zs : List Int) (head now : Int) (w : World) (hz : Ints w v zs) (_ : IsInt head) (_ : IsInt now) :
    Calls Try.prog 3 #[v, .int .i64 head, .int .i64 now] w fun e w' => e = .returned (.bool true) ∧ Bel w w' := by
  obtain ⟨i0, hi0, hz0, hz1, hz2⟩ := info_parts Try.infoBunch
  have HQ := Lib.hid (queued_any v zs w hz)
  obtain ⟨A9, c9, rfl, _, _⟩ : ∃ A c, v = .slice A zs.length c ∧ zs.length ≤ c ∧ c ≤ maxLen := by
    obtain ⟨_, A, c, h1, h2, h3, _⟩ := hz
    exact ⟨A, c, h1, h2, h3⟩
  obtain ⟨z8, Hz8⟩ : ∃ z8, Hid (z8 = zs.length) := ⟨_, rfl⟩
  rw [← Hz8.out] at HQ ⊢
  clear hz
  go_enter Try.func3, Try.ntmps3
  go_wp2_with fail
  refine HQ.out.mono ?_; rintro e w1 ⟨qv, L0, rfl, hO, hQL, hb1⟩
  obtain ⟨A, c, rfl, hc1, hc2⟩ := hQL.form
  have hn8 : (L0.map toQ).length ≤ 8 := by rw [List.length_map, hO.1]; omega
  generalize L0.map toQ = L1 at *
  clear hO HQ
  go_wp2_with fail
  refine (round_any head 20 _ (by omega)).mono ?_; rintro e w9 ⟨rfl, rfl⟩
  obtain ⟨h0, Hh0⟩ : ∃ h, Hid (h = rnd head 20) := ⟨_, rfl⟩
  rw [← Hh0.out]
  obtain ⟨n, hn⟩ : ∃ n, n = L1.length := ⟨_, rfl⟩
  obtain ⟨r6, Hr6⟩ : ∃ h, Hid (h = rnd now 60) := ⟨_, rfl⟩
  rw [← hn] at hn8 hc1 ⊢
  have HN := Lib.hid hn
  clear hn
  go_wp2
  have hQ0 : QL w1 (.slice A n c) L1 := by rw [HN.out]; exact hQL
  have HQ0 := Lib.hid hQ0
  clear hQL hQ0
  go_loopw [7, 8, 9, 11] (fun qv sv hv iv wr => ∃ (i : Nat) (L : List QM) (h : Int) (xs : List Value), iv = .int .i64 i ∧ hv = .int .i64 h ∧ Hid (i + L.length = n) ∧ i ≤ n ∧ Rd wr qv 12 L.length (qmc L) ∧ Hid (∀ x ∈ L, Mems w1 x.q.b x.ms) ∧ Hid (∀ b, sv.ownBlock = some b → qv.ownBlock ≠ some b) ∧ wr.ownsRow w1.heap.size 34 9 sv i xs ∧ Bel w1 wr) (fun _ _ _ iv _ => n - (intOf iv).toNat)
  case atStart => exact ⟨0, L1, h0, [], rfl, rfl, Lib.hid (by rw [HN.out]; omega), by omega, by rw [← HN.out]; have := HQ0.out.rd; rwa [← HN.out] at this, Lib.hid HQ0.out.mem, Lib.hid (fun b hb => by cases hb), ⟨rfl, Or.inl ⟨rfl, rfl⟩⟩, Bel.refl _⟩
  case round =>
    obtain ⟨i, L, h, xs, rfl, rfl, HIL, p1, hRq, HMEM, HAP, hown, hbr⟩ := hrel
    have hQ := (⟨hRq, fun x hx => (HMEM.out x hx).bel hbr⟩ : QL wr _ L)
    obtain ⟨W, rfl⟩ : ∃ W, W = wr := ⟨_, rfl⟩
    obtain ⟨Aq, cq, rfl, hq1, hq2⟩ := hQ.form
    obtain ⟨As, cs, rfl⟩ := own_slice hown
    unfold maxLen at hq2
    have HQL := Lib.hid hQ
    clear hQ
    by_cases hlt : i < n
    · have i1 : (i : Int) < (n : Int) := by omega
      obtain ⟨k, y, hk, hkl, hy, _, hcf⟩ := pick_free (L := L) h r6 (by have := HIL.out; omega)
      obtain ⟨m, Hm⟩ : ∃ m, Hid (m = L.length) := ⟨_, rfl⟩
      have HK := Lib.hid hk
      have HY := Lib.hid hy
      have HCF := Lib.hid hcf
      have hm8 : m ≤ 8 := by have := HIL.out; have := Hm.out; omega
      have HFR := Lib.hid (fun w' (hb : Bel W w') => free_any L [] _ _ w' (HQL.out.bel hb) (BL.nil w') (by rw [← Hm.out]; omega))
      have HPK := Lib.hid (fun w' u (hb : Bel W w') (hr : Rd w' u 1 (freeN L [] L.length).length (bcells (freeN L [] L.length))) => dlPickAll_any L (freeN L [] L.length) h r6 _ u w' (HQL.out.bel hb) hr (by rw [← Hm.out]; omega))
      rw [HK.out] at HPK
      have HAT := Lib.hid (fun j x (hj : L[j]? = some x) => HQL.out.at2 hj HY.out)
      rw [← Hm.out] at hq1 hkl HFR HPK HAT ⊢
      have k1 : (k : Int) < (m : Int) := by omega
      have k0 : (0 : Int) ≤ (k : Int) := by omega
      have k8 : decide ((k : Int) < 0) = false := by simp
      have k7 : decide ((m : Int) ≤ (k : Int)) = false := by simp; omega
      have k6 : decide (m ≤ k) = false := by simp; omega
      clear hk hy hcf
      go_wp2_with fail
      refine (HFR.out _ (Bel.refl _)).mono ?_; rintro e w2 ⟨u, rfl, hu, hb2⟩
      go_wp2_with fail
      refine (round_any now 60 _ (by omega)).mono ?_; rw [← Hr6.out]; rintro e w9 ⟨rfl, rfl⟩
      go_wp2_with fail
      refine (HPK.out _ _ hb2 hu).mono ?_; rintro e w3 ⟨rfl, hb3⟩
      have hbW : Bel W w3 := hb2.trans hb3
      clear hb2 hb3 hu
      go_wp2
      go_loopw [14] (fun jv wr => ∃ j : Nat, jv = .int .i64 j ∧ j ≤ k ∧ Bel w3 wr) (fun jv _ => k - (intOf jv).toNat)
      case atStart => exact ⟨0, rfl, by omega, Bel.refl _⟩
      case round =>
        obtain ⟨j, rfl, j1, hbj⟩ := hrel
        have hbw := hbW.trans hbj
        by_cases hjk : j < k
        · obtain ⟨x, hx⟩ : ∃ x, L[j]? = some x := ⟨L[j]'(by have := Hm.out; omega), List.getElem?_eq_getElem _⟩
          obtain ⟨b, o, c99, hX, hY⟩ := HAT.out j x hx
          have hf := hX.form
          simp only [Value.slice.injEq] at hf
          obtain ⟨rfl, _, rfl⟩ := hf
          have hX := hX.bel hbw
          have hY := hY.bel hbw
          have hcx : confB ⟨x.q.b, x.ms⟩ ⟨y.q.b, y.ms⟩ = false := HCF.out j x hjk hx
          have HCX := Lib.hid hcx
          have jk : (j : Int) < (k : Int) := by omega
          have jm : (j : Int) < (m : Int) := by omega
          clear hx hcx
          go_wp2_with fail
          have p0 := (hX.row).cell 0 rfl
          have p1 := (hX.row).cell 1 rfl
          have p2 := (hX.row).cell 2 rfl
          have p3 := (hX.row).cell 3 rfl
          have p4 := (hX.row).cell 4 rfl
          have p5 := (hX.row).cell 5 rfl
          have p6 := (hX.row).cell 6 rfl
          have p7 := (hX.row).cell 7 rfl
          have p8 := (hX.row).cell 8 rfl
          rw [Nat.add_zero] at p0
          have q0 := (hY.row).cell 0 rfl
          have q1 := (hY.row).cell 1 rfl
          have q2 := (hY.row).cell 2 rfl
          have q3 := (hY.row).cell 3 rfl
          have q4 := (hY.row).cell 4 rfl
          have q5 := (hY.row).cell 5 rfl
          have q6 := (hY.row).cell 6 rfl
          have q7 := (hY.row).cell 7 rfl
          have q8 := (hY.row).cell 8 rfl
          rw [Nat.add_zero] at q0
          have hmX := hX.mem
          have hmY := hY.mem
          have r0 := fun d os => cell_regrown p0 d os
          have r1 := fun d os => cell_regrown p1 d os
          have r2 := fun d os => cell_regrown p2 d os
          have r3 := fun d os => cell_regrown p3 d os
          have r4 := fun d os => cell_regrown p4 d os
          have r5 := fun d os => cell_regrown p5 d os
          have r6 := fun d os => cell_regrown p6 d os
          have r7 := fun d os => cell_regrown p7 d os
          have r8 := fun d os => cell_regrown p8 d os
          have s0 := fun d os => cell_regrown q0 d os
          have s1 := fun d os => cell_regrown q1 d os
          have s2 := fun d os => cell_regrown q2 d os
          have s3 := fun d os => cell_regrown q3 d os
          have s4 := fun d os => cell_regrown q4 d os
          have s5 := fun d os => cell_regrown q5 d os
          have s6 := fun d os => cell_regrown q6 d os
          have s7 := fun d os => cell_regrown q7 d os
          have s8 := fun d os => cell_regrown q8 d os
          refine wp_region_lex [10] 11 (by kernel_rfl) (by kernel_rfl) ?_
          simp only [List.take_succ_cons, List.take_zero, List.drop_succ_cons, List.drop_zero]
          with_reducible refine lex_seg 10 _ _ _ _ (by kernel_rfl) ?_
          simp only [List.take_succ_cons, List.take_zero, List.drop_succ_cons, List.drop_zero]
          try simp only [Act.put, List.setIfInBounds_toArray, List.set_cons_succ, List.set_cons_zero]
          repeat (go_big_quiet_step (fail))
          with_reducible refine wpQuiet_nil ?_
          refine lex_call 13 rfl rfl (by simp [go_sem]; rfl) ?_
          refine (refConflict_any ⟨x.q.b, x.ms⟩ ⟨y.q.b, y.ms⟩ _ (hmX.bel (by repeat (first | (with_reducible exact Bel.refl _) | (with_reducible assumption) | (with_reducible refine Bel.drewN ?_ _) | (with_reducible refine Bel.drew ?_) | (with_reducible refine Bel.alloc ?_ _) | (with_reducible refine Bel.setNew ?_ ?_ _) | (with_reducible refine Bel.trans ?_ (by assumption)) | (focus (simp; done)) | (focus (simp; omega))))) (hmY.bel (by repeat (first | (with_reducible exact Bel.refl _) | (with_reducible assumption) | (with_reducible refine Bel.drewN ?_ _) | (with_reducible refine Bel.drew ?_) | (with_reducible refine Bel.alloc ?_ _) | (with_reducible refine Bel.setNew ?_ ?_ _) | (with_reducible refine Bel.trans ?_ (by assumption)) | (focus (simp; done)) | (focus (simp; omega)))))).mono ?_; rintro e w4 ⟨rfl, hb4⟩
          refine ⟨_, rfl, hb4, ?_⟩
          with_reducible refine lex_nil ?_
          clear r0 r1 r2 r3 r4 r5 r6 r7 r8
          clear s0 s1 s2 s3 s4 s5 s6 s7 s8
          clear p0 p1 p2 p3 p4 p5 p6 p7 p8
          clear q0 q1 q2 q3 q4 q5 q6 q7 q8
          rw [HCX.out]
          have hb4' : Bel wr w4 := (by repeat (first | (with_reducible exact Bel.refl _) | (with_reducible assumption) | (with_reducible refine Bel.drewN ?_ _) | (with_reducible refine Bel.drew ?_) | (with_reducible refine Bel.alloc ?_ _) | (with_reducible refine Bel.setNew ?_ ?_ _) | (with_reducible refine Bel.trans ?_ (by assumption)) | (focus (simp; done)) | (focus (simp; omega))))
          go_wp2
          go_roundw
          case rel => exact ⟨j + 1, by go_num, by omega, hbj.trans hb4'⟩
          case measure => simp [intOf]; omega
        · obtain rfl : j = k := by omega
          have jk : decide ((j : Int) < (j : Int)) = false := by simp
          obtain ⟨b, o, c99, hX, hY⟩ := HAT.out j y HY.out
          have hf := hX.form
          simp only [Value.slice.injEq] at hf
          obtain ⟨rfl, _, rfl⟩ := hf
          have hY := hY.bel hbw
          have how1 := own_keep hown hbw
          have hbT := hbr.trans hbw
          have hws := hbT.size
          have HYR := Lib.hid hY
          have q0 := (hY.row).cell 0 rfl
          have q1 := (hY.row).cell 1 rfl
          have q2 := (hY.row).cell 2 rfl
          have q3 := (hY.row).cell 3 rfl
          have q4 := (hY.row).cell 4 rfl
          have q5 := (hY.row).cell 5 rfl
          have q6 := (hY.row).cell 6 rfl
          have q7 := (hY.row).cell 7 rfl
          have q8 := (hY.row).cell 8 rfl
          rw [Nat.add_zero] at q0
          clear hX hY hown
          go_wp2_with (at_builtin; go_must (refine wpList_append_own_at _ rfl _ _ 25 rfl w1.heap.size 34 i0 _ 9 96 Try.underlying25 hi0 hz0 hz1 hz2 rfl (by omega) (.slice As i cs) _ _ rfl (how1.alloc _) ⟨wr.heap.size, 0, none⟩ 1 1 y.q.b.cells rfl rfl (World.news_of_block (cs := #[.int .i64 (y.q.b).id, .int .i64 (y.q.b).ten, .int .i64 (y.q.b).knd, .int .i64 (y.q.b).sec, .int .i64 (y.q.b).cnt, .string (y.q.b).dat, .bool (y.q.b).fua, .slice (y.q.b).mA (y.q.b).mL (y.q.b).mC, .int .i64 (y.q.b).tim]) (t := 34) (fr := (0, 0)) (heap_alloc_new wr _)) (bcells_one _) (by unfold maxLen; omega) (by omega) (by simp; omega) ?_); intro v' w5 hown' hg' _ _; obtain ⟨gn, cn, hvn, _, _⟩ := hown'.form (by omega); subst hvn)
          have hb5 : Bel w1 w5 := bel_own (hbT.alloc _) (how1.alloc _) hg' (Nat.le_refl _)
          have hRq5 : Rd w5 (.slice (some ⟨b, o, none⟩) L.length cq) 12 L.length (qmc L) := by
            refine ((HQL.out.bel hbw).rd.alloc _).grown hg' (fun b' hb' e' => ?_)
            exact HAP.out b' e' hb'
          have hQ5 : QL w5 (.slice (some ⟨b, o, none⟩) L.length cq) L := ⟨hRq5, fun x hx => (HMEM.out x hx).bel hb5⟩
          have HWO := Lib.hid (fun w' (hb : Bel w5 w') => without_any L j _ w' (hQ5.bel hb) (by rw [← Hm.out]; omega) (by rw [← Hm.out]; omega))
          obtain ⟨b5, o5, c5, hY5⟩ := hQ5.at HY.out
          have hf := hY5.form
          simp only [Value.slice.injEq, Option.some.injEq, Addr.mk.injEq] at hf
          obtain ⟨⟨rfl, rfl, _⟩, _, rfl⟩ := hf
          rw [← Hm.out] at HWO
          clear q0 q1 q2 q3 q4 q5 q6 q7 q8
          have y3 := hY5.row.cell 3 rfl
          have y4 := hY5.row.cell 4 rfl
          have rg3 := fun d os => cell_regrown y3 d os
          have rg4 := fun d os => cell_regrown y4 d os
          refine wp_region_lex [] 13 (by kernel_rfl) (by kernel_rfl) ?_
          simp only [List.take_succ_cons, List.take_zero, List.drop_succ_cons, List.drop_zero]
          with_reducible refine lex_seg 13 _ _ _ _ (by kernel_rfl) ?_
          simp only [List.take_succ_cons, List.take_zero, List.drop_succ_cons, List.drop_zero]
          try simp only [Act.put, List.setIfInBounds_toArray, List.set_cons_succ, List.set_cons_zero]
          repeat (go_big_quiet_step (fail))
          with_reducible refine wpQuiet_nil ?_
          with_reducible refine lex_nil ?_
          clear rg3 rg4 y3 y4
          go_wp2_with fail
          refine (HWO.out _ (by repeat (first | (with_reducible exact Bel.refl _) | (with_reducible assumption) | (with_reducible refine Bel.drewN ?_ _) | (with_reducible refine Bel.drew ?_) | (with_reducible refine Bel.alloc ?_ _) | (with_reducible refine Bel.setNew ?_ ?_ _) | (with_reducible refine Bel.trans ?_ (by assumption)) | (focus (simp; done)) | (focus (simp; omega))))).mono ?_; rintro e w6 ⟨u6, rfl, hQ6, hu6, hb6⟩
          have hb56 : Bel w5 w6 := (Bel.drew (Bel.refl w5)).trans hb6
          have how6 := own_keep hown' hb56
          have hle : (L.eraseIdx j).length + 1 = L.length := by rw [List.length_eraseIdx, if_pos (by rw [← Hm.out]; omega)]; have := Hm.out; omega
          have HLE := Lib.hid hle
          obtain ⟨A6, c6, rfl, _, _⟩ := hQ6.form
          have hw5 := hown'.lt
          go_wp2
          go_roundw
          case rel =>
            refine ⟨i + 1, L.eraseIdx j, _, _, by go_num, rfl, Lib.hid ?_, by omega, hQ6.rd, Lib.hid (fun x hx => HMEM.out x (List.mem_of_mem_eraseIdx hx)), Lib.hid (fun b hb e => ?_), how6, hb5.trans hb56⟩
            · have := HIL.out; have := HLE.out; omega
            · have h1 := hu6 b e
              have h2 := (hw5 b hb).2
              have h3 := hb5.size
              simp at h1; omega
          case measure => simp [intOf]; omega
    · have hl0 : L.length = 0 := by have := HIL.out; omega
      have hi9 : i = n := by have := HIL.out; omega
      subst hi9
      have i1 : decide ((i : Int) < (i : Int)) = false := by simp
      rw [hl0]
      clear hl0
      go_wp2_with fail
      refine (awakeDl_any _).mono ?_; rintro e w2 ⟨rfl, hb2⟩
      go_wp2
      go_ret
      exact ⟨rfl, (hb1.trans hbr).trans hb2⟩
end Go.Proofs.Ytdffpnogfinehaa
