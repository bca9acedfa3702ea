/- The reference's Bunch: its two loops. -/
import Derived.Test.YtbijfmpmgmfpgaaBunch
namespace Go.Proofs.Ytbijfmpmgmfpgaa
open Go.RowKit Go.Maps
set_option linter.unusedSimpArgs false

/-- seen holds the ids of the first k members. -/
def SeenI (ms : List Mem) (k : Nat) (seen : List Int) : Prop := ∀ y, seen.contains y = true ↔ ∃ j m, j < k ∧ ms[j]? = some m ∧ m.id = y
theorem SeenI.start (ms : List Mem) : SeenI ms 0 [] := fun y => ⟨fun h => by simp at h, fun ⟨j, m, h, _⟩ => absurd h (by omega)⟩
theorem SeenI.step {ms : List Mem} {k : Nat} {seen : List Int} {m : Mem} (h : SeenI ms k seen) (hm : ms[k]? = some m) : SeenI ms (k + 1) (m.id :: seen) := by
  intro y
  rw [List.contains_cons, Bool.or_eq_true, h y]
  constructor
  · rintro (h1 | ⟨j, x, h1, h2, h3⟩)
    · exact ⟨k, m, by omega, hm, by simpa using (beq_iff_eq.1 h1).symm⟩
    · exact ⟨j, x, by omega, h2, h3⟩
  · rintro ⟨j, x, h1, h2, h3⟩
    by_cases e : j = k
    · subst e; rw [hm] at h2; cases h2; left; simp [h3]
    · right; exact ⟨j, x, by omega, h2, h3⟩

set_option maxRecDepth 100000 in
set_option maxHeartbeats 8000000 in
theorem refBunch_yes (b : Bun) (ms : List Mem) (w : World) (hm : Mems w b ms) (h : 0 ≤ b.sec ∧ b.sec < 128 ∧ 1 ≤ b.cnt ∧ b.cnt ≤ 128 - b.sec) (hd : dataOk b = true) :
    Calls Try.prog 39 #[.agg #[.int .i64 (b).id, .int .i64 (b).ten, .int .i64 (b).knd, .int .i64 (b).sec, .int .i64 (b).cnt, .string (b).dat, .bool (b).fua, .slice (b).mA (b).mL (b).mC, .int .i64 (b).tim]] w fun e w' => e = .returned (.bool (memOk b.cnt [] 0 ms)) ∧ Bel w w' := by
  obtain ⟨id, ten, knd, sec, cnt, dat, fua, mA, mL, mC, tim⟩ := b
  simp only at h ⊢
  obtain ⟨h1, h2, h3, h4⟩ := h
  obtain ⟨hml, hrd, hi, hl⟩ := hm
  simp only at hml hrd hl
  subst hml
  have HMEM := Lib.hid (fun k m (hk : ms[k]? = some m) => mems_at hrd hk)
  obtain ⟨_, hcp, hmx⟩ : ∃ x : Unit, ms.length ≤ mC ∧ mC ≤ maxLen := by
    obtain ⟨A, c, hv, h5, h6⟩ := hrd.form
    cases hv
    exact ⟨(), h5, h6⟩
  unfold maxLen at hmx
  clear hrd hi
  unfold dataOk at hd
  unfold maxLen at hl
  simp only at hd hl
  obtain ⟨V, HV⟩ : ∃ V, Hid (V = memOk cnt [] 0 ms) := ⟨_, rfl⟩
  rw [← HV.out]
  obtain ⟨n, Hn⟩ : ∃ n, Hid (n = ms.length) := ⟨_, rfl⟩
  rw [← Hn.out] at hcp ⊢
  by_cases k1 : knd = 1
  · subst k1
    have hd2 : ((dat.size : Int) != 0) = false := by have : dat.size = 0 := by simpa using hd
                                                     rw [this]; rfl
    clear hd
    go_enter Try.func39, Try.ntmps39
    go_wp2
    have hX0 : Bel w (w.alloc (.cells #[.int .i64 id, .int .i64 ten, .int .i64 1, .int .i64 sec, .int .i64 cnt, .string dat, .bool fua, .slice mA n mC, .int .i64 tim] 27)) := (Bel.refl w).alloc _
    have hA0 := AtF.new w 27 [.int .i64 id, .int .i64 ten, .int .i64 1, .int .i64 sec, .int .i64 cnt, .string dat, .bool fua, .slice mA n mC, .int .i64 tim]
    simp only [List.toArray] at hA0
    generalize (w.alloc (.cells #[.int .i64 id, .int .i64 ten, .int .i64 1, .int .i64 sec, .int .i64 cnt, .string dat, .bool fua, .slice mA n mC, .int .i64 tim] 27)) = X0 at *
    go_loopw [4, 5] (fun nv iv wr => ∃ (k : Nat) (x : Int) (seen : List Int), nv = .int .i64 x ∧ iv = .int .i64 k ∧ k ≤ n ∧ 0 ≤ x ∧ x ≤ cnt ∧ Hid (V = memOk cnt seen x (ms.drop k)) ∧ Hid (SeenI ms k seen) ∧ Bel X0 wr) (fun _ iv _ => n - (intOf iv).toNat)
    case atStart => exact ⟨0, 0, [], rfl, rfl, by omega, by omega, by omega, by simpa using HV, SeenI.start ms, Bel.refl _⟩
    case round =>
      obtain ⟨k, x, seen, rfl, rfl, p1, x0, x1, HVr, HS, hbr⟩ := hrel
      have c4 := (hA0.bel hbr).1.2 4 _ rfl
      have c7 := (hA0.bel hbr).1.2 7 _ rfl
      have hlc := (hA0.bel hbr).1.1
      by_cases hlt : k < n
      · obtain ⟨m, hmk⟩ : ∃ m, ms[k]? = some m := ⟨ms[k]'(by have := Hn.out; omega), List.getElem?_eq_getElem _⟩
        obtain ⟨mb, mo, rfl, hmb, hrow⟩ := HMEM.out k m hmk
        have hrow := (hrow.bel hX0 hmb).bel hbr (Nat.lt_of_lt_of_le hmb hX0.size)
        have d0 := hrow.cell 0 rfl
        have d1 := hrow.cell 1 rfl
        have d2 := hrow.cell 2 rfl
        rw [Nat.add_zero] at d0
        have HSN := Lib.hid (HS.out.step hmk)
        obtain ⟨ids, off, mc⟩ := m
        simp only at d0 d1 d2 HSN
        have hmd : ms.drop k = ⟨ids, off, mc⟩ :: ms.drop (k + 1) := by
          obtain ⟨g1, g2⟩ := List.getElem?_eq_some_iff.1 hmk
          rw [← g2, List.drop_eq_getElem_cons g1]
        rw [hmd] at HVr
        have k1 : (k : Int) < (n : Int) := by omega
        have hlk := World.block_lt_of_cell? _ _ d0
        clear hmk hmd hrow
        by_cases e1 : off = x
        · subst e1
          have e1b : (off != off) = false := by simp
          by_cases e2 : mc < 1
          · have HF : Hid (V = false) := by show _ = _; rw [HVr.out, memOk, if_pos (.inr (.inr (.inl e2)))]
            clear HVr
            go_wp2
            go_ret
            exact ⟨ret_bool HF.out.symm, (by repeat (first | (with_reducible exact Bel.refl _) | (with_reducible assumption) | (with_reducible refine Bel.drewN ?_ _) | (with_reducible refine Bel.drew ?_) | (with_reducible refine Bel.alloc ?_ _) | (with_reducible refine Bel.setNew ?_ ?_ _) | (with_reducible refine Bel.trans ?_ (by assumption)) | (focus (simp; done)) | (focus (simp; omega))))⟩
          · by_cases e3 : cnt - off < mc
            · have HF : Hid (V = false) := by show _ = _; rw [HVr.out, memOk, if_pos (.inr (.inr (.inr e3)))]
              clear HVr
              go_wp2
              go_ret
              exact ⟨ret_bool HF.out.symm, (by repeat (first | (with_reducible exact Bel.refl _) | (with_reducible assumption) | (with_reducible refine Bel.drewN ?_ _) | (with_reducible refine Bel.drew ?_) | (with_reducible refine Bel.alloc ?_ _) | (with_reducible refine Bel.setNew ?_ ?_ _) | (with_reducible refine Bel.trans ?_ (by assumption)) | (focus (simp; done)) | (focus (simp; omega))))⟩
            · go_wp2
              have hM1 := AtF.new wr 59 [.int .i64 ids, .int .i64 off, .int .i64 mc]
              have hbM : Bel X0 (wr.alloc (.cells #[.int .i64 ids, .int .i64 off, .int .i64 mc] 59)) := hbr.alloc _
              simp only [List.toArray] at hM1
              have hMw : wr.heap.size = wr.heap.size := rfl
              generalize wr.alloc (.cells #[.int .i64 ids, .int .i64 off, .int .i64 mc] 59) = Y0 at *
              obtain ⟨R, hR⟩ : ∃ R, R = wr.heap.size := ⟨_, rfl⟩
              rw [← hR] at hM1 ⊢
              clear d0 d1 d2 c4 c7 hMw hlc hlk hbr hR
              have hk0 : 0 ≤ k := by omega
              go_loopw [7] (fun jv wq => ∃ j : Nat, jv = .int .i64 j ∧ j ≤ k ∧ Hid (∀ j' m', j' < j → ms[j']? = some m' → m'.id ≠ ids) ∧ Bel Y0 wq) (fun jv _ => k - (intOf jv).toNat)
              case atStart => exact ⟨0, rfl, by omega, Lib.hid (fun j' _ h => absurd h (by omega)), Bel.refl _⟩
              case round =>
                obtain ⟨j, rfl, j1, HNE, hbq⟩ := hrel
                have hAq := (hA0.bel hbM).bel hbq
                have hMq := hM1.bel hbq
                have c4 := hAq.1.2 4 _ rfl
                have c7 := hAq.1.2 7 _ rfl
                have e0 := hMq.1.2 0 _ rfl
                have e2c := hMq.1.2 2 _ rfl
                by_cases hjk : j < k
                · obtain ⟨m', hmj⟩ : ∃ m', ms[j]? = some m' := ⟨ms[j]'(by have := Hn.out; omega), List.getElem?_eq_getElem _⟩
                  obtain ⟨mb', mo', hme, hmb', hrow'⟩ := HMEM.out j m' hmj
                  cases hme
                  have hrow' := ((hrow'.bel hX0 hmb').bel hbM (Nat.lt_of_lt_of_le hmb' hX0.size)).bel hbq (Nat.lt_of_lt_of_le (Nat.lt_of_lt_of_le hmb' hX0.size) hbM.size)
                  have f0 := hrow'.cell 0 rfl
                  rw [Nat.add_zero] at f0
                  have jn : (j : Int) < (n : Int) := by omega
                  have jk : (j : Int) < (k : Int) := by omega
                  obtain ⟨id', off', cnt'⟩ := m'
                  simp only at f0
                  clear hrow'
                  by_cases eid : id' = ids
                  · have HF : Hid (V = false) := by
                      show _ = _
                      rw [HVr.out, memOk, if_pos (.inl ((HS.out ids).2 ⟨j, ⟨id', off', cnt'⟩, hjk, hmj, eid⟩))]
                    subst eid
                    clear HVr hmj
                    go_wp2_with fail
                    have rg0 := fun d os => cell_regrown c7 d os
                    have rg1 := fun d os => cell_regrown e0 d os
                    have rg2 := fun d os => cell_regrown f0 d os
                    refine wp_region_lex [] 9 (by kernel_rfl) (by kernel_rfl) ?_
                    simp only [List.take_succ_cons, List.take_zero, List.drop_succ_cons, List.drop_zero]
                    with_reducible refine lex_seg 9 _ _ _ _ (by kernel_rfl) ?_
                    simp only [List.take_succ_cons, List.take_zero, List.drop_succ_cons, List.drop_zero]
                    try simp only [Act.put, List.setIfInBounds_toArray, List.set_cons_succ, List.set_cons_zero]
                    repeat (go_big_quiet_step (fail))
                    with_reducible refine wpQuiet_nil ?_
                    with_reducible refine lex_nil ?_
                    clear rg0 rg1 rg2
                    go_wp2
                    go_ret
                    exact ⟨ret_bool HF.out.symm, hX0.trans (hbM.trans hbq.drew)⟩
                  · have HNE2 : Hid (∀ j' m', j' < j + 1 → ms[j']? = some m' → m'.id ≠ ids) := by
                      intro j' m' hj' hm'
                      by_cases ej : j' = j
                      · subst ej; rw [hmj] at hm'; cases hm'; exact eid
                      · exact HNE.out j' m' (by omega) hm'
                    have eid' : (id' == ids) = false := by simpa using eid
                    clear eid hmj
                    go_wp2_with fail
                    have rg0 := fun d os => cell_regrown c7 d os
                    have rg1 := fun d os => cell_regrown e0 d os
                    have rg2 := fun d os => cell_regrown f0 d os
                    refine wp_region_lex [] 9 (by kernel_rfl) (by kernel_rfl) ?_
                    simp only [List.take_succ_cons, List.take_zero, List.drop_succ_cons, List.drop_zero]
                    with_reducible refine lex_seg 9 _ _ _ _ (by kernel_rfl) ?_
                    simp only [List.take_succ_cons, List.take_zero, List.drop_succ_cons, List.drop_zero]
                    try simp only [Act.put, List.setIfInBounds_toArray, List.set_cons_succ, List.set_cons_zero]
                    repeat (go_big_quiet_step (fail))
                    with_reducible refine wpQuiet_nil ?_
                    with_reducible refine lex_nil ?_
                    clear rg0 rg1 rg2
                    go_wp2
                    go_roundw
                    case rel => exact ⟨j + 1, by go_num, by omega, HNE2, hbq.drew⟩
                    case measure => simp [intOf]; omega
                · obtain rfl : j = k := by omega
                  have HF : Hid (V = memOk cnt (ids :: seen) (off + mc) (ms.drop (j + 1))) := by
                    have hs : ¬ seen.contains ids = true := by
                      intro h
                      obtain ⟨j', m', h1, h2, h3⟩ := (HS.out ids).1 h
                      exact HNE.out j' m' h1 h2 h3
                    show _ = _; rw [HVr.out, memOk, if_neg (by simp only [hs]; simp; omega)]
                  have jk : decide ((j : Int) < (j : Int)) = false := by simp
                  clear HVr
                  go_wp2
                  go_roundw
                  case rel => exact ⟨j + 1, off + mc, ids :: seen, rfl, by go_num, by omega, by omega, by omega, HF, HSN, hbM.trans hbq⟩
                  case measure => simp [intOf]; omega
        · have HF : Hid (V = false) := by show _ = _; rw [HVr.out, memOk, if_pos (.inr (.inl e1))]
          have e1' : (off != x) = true := by simpa using e1
          clear HVr e1
          go_wp2
          go_ret
          exact ⟨ret_bool HF.out.symm, (by repeat (first | (with_reducible exact Bel.refl _) | (with_reducible assumption) | (with_reducible refine Bel.drewN ?_ _) | (with_reducible refine Bel.drew ?_) | (with_reducible refine Bel.alloc ?_ _) | (with_reducible refine Bel.setNew ?_ ?_ _) | (with_reducible refine Bel.trans ?_ (by assumption)) | (focus (simp; done)) | (focus (simp; omega))))⟩
      · obtain rfl : k = n := by omega
        have hdr : ms.drop k = [] := List.drop_eq_nil_of_le (by have := Hn.out; omega)
        rw [hdr] at HVr
        have k1 : decide ((k : Int) < (k : Int)) = false := by simp
        have HF : Hid (V = (x == cnt)) := by show _ = _; rw [HVr.out, memOk]
        clear HVr hdr
        go_wp2
        go_ret
        exact ⟨ret_bool HF.out.symm, (by repeat (first | (with_reducible exact Bel.refl _) | (with_reducible assumption) | (with_reducible refine Bel.drewN ?_ _) | (with_reducible refine Bel.drew ?_) | (with_reducible refine Bel.alloc ?_ _) | (with_reducible refine Bel.setNew ?_ ?_ _) | (with_reducible refine Bel.trans ?_ (by assumption)) | (focus (simp; done)) | (focus (simp; omega))))⟩
  · rw [if_neg k1] at hd
    have k1' : (knd == 1) = false := by simpa using k1
    have HK := Lib.hid k1
    clear k1
    obtain rfl : knd = 2 := by
      by_cases k2 : knd = 2
      · exact k2
      · rw [if_neg k2] at hd; cases hd
    simp only [if_true] at hd
    have hd2 : ((dat.size : Int) != cnt * 8) = false := by simpa using hd
    clear hd
    go_enter Try.func39, Try.ntmps39
    go_wp2
    have hX0 : Bel w (w.alloc (.cells #[.int .i64 id, .int .i64 ten, .int .i64 2, .int .i64 sec, .int .i64 cnt, .string dat, .bool fua, .slice mA n mC, .int .i64 tim] 27)) := (Bel.refl w).alloc _
    have hA0 := AtF.new w 27 [.int .i64 id, .int .i64 ten, .int .i64 2, .int .i64 sec, .int .i64 cnt, .string dat, .bool fua, .slice mA n mC, .int .i64 tim]
    simp only [List.toArray] at hA0
    generalize (w.alloc (.cells #[.int .i64 id, .int .i64 ten, .int .i64 2, .int .i64 sec, .int .i64 cnt, .string dat, .bool fua, .slice mA n mC, .int .i64 tim] 27)) = X0 at *
    go_loopw [4, 5] (fun nv iv wr => ∃ (k : Nat) (x : Int) (seen : List Int), nv = .int .i64 x ∧ iv = .int .i64 k ∧ k ≤ n ∧ 0 ≤ x ∧ x ≤ cnt ∧ Hid (V = memOk cnt seen x (ms.drop k)) ∧ Hid (SeenI ms k seen) ∧ Bel X0 wr) (fun _ iv _ => n - (intOf iv).toNat)
    case atStart => exact ⟨0, 0, [], rfl, rfl, by omega, by omega, by omega, by simpa using HV, SeenI.start ms, Bel.refl _⟩
    case round =>
      obtain ⟨k, x, seen, rfl, rfl, p1, x0, x1, HVr, HS, hbr⟩ := hrel
      have c4 := (hA0.bel hbr).1.2 4 _ rfl
      have c7 := (hA0.bel hbr).1.2 7 _ rfl
      have hlc := (hA0.bel hbr).1.1
      by_cases hlt : k < n
      · obtain ⟨m, hmk⟩ : ∃ m, ms[k]? = some m := ⟨ms[k]'(by have := Hn.out; omega), List.getElem?_eq_getElem _⟩
        obtain ⟨mb, mo, rfl, hmb, hrow⟩ := HMEM.out k m hmk
        have hrow := (hrow.bel hX0 hmb).bel hbr (Nat.lt_of_lt_of_le hmb hX0.size)
        have d0 := hrow.cell 0 rfl
        have d1 := hrow.cell 1 rfl
        have d2 := hrow.cell 2 rfl
        rw [Nat.add_zero] at d0
        have HSN := Lib.hid (HS.out.step hmk)
        obtain ⟨ids, off, mc⟩ := m
        simp only at d0 d1 d2 HSN
        have hmd : ms.drop k = ⟨ids, off, mc⟩ :: ms.drop (k + 1) := by
          obtain ⟨g1, g2⟩ := List.getElem?_eq_some_iff.1 hmk
          rw [← g2, List.drop_eq_getElem_cons g1]
        rw [hmd] at HVr
        have k1 : (k : Int) < (n : Int) := by omega
        have hlk := World.block_lt_of_cell? _ _ d0
        clear hmk hmd hrow
        by_cases e1 : off = x
        · subst e1
          have e1b : (off != off) = false := by simp
          by_cases e2 : mc < 1
          · have HF : Hid (V = false) := by show _ = _; rw [HVr.out, memOk, if_pos (.inr (.inr (.inl e2)))]
            clear HVr
            go_wp2
            go_ret
            exact ⟨ret_bool HF.out.symm, (by repeat (first | (with_reducible exact Bel.refl _) | (with_reducible assumption) | (with_reducible refine Bel.drewN ?_ _) | (with_reducible refine Bel.drew ?_) | (with_reducible refine Bel.alloc ?_ _) | (with_reducible refine Bel.setNew ?_ ?_ _) | (with_reducible refine Bel.trans ?_ (by assumption)) | (focus (simp; done)) | (focus (simp; omega))))⟩
          · by_cases e3 : cnt - off < mc
            · have HF : Hid (V = false) := by show _ = _; rw [HVr.out, memOk, if_pos (.inr (.inr (.inr e3)))]
              clear HVr
              go_wp2
              go_ret
              exact ⟨ret_bool HF.out.symm, (by repeat (first | (with_reducible exact Bel.refl _) | (with_reducible assumption) | (with_reducible refine Bel.drewN ?_ _) | (with_reducible refine Bel.drew ?_) | (with_reducible refine Bel.alloc ?_ _) | (with_reducible refine Bel.setNew ?_ ?_ _) | (with_reducible refine Bel.trans ?_ (by assumption)) | (focus (simp; done)) | (focus (simp; omega))))⟩
            · go_wp2
              have hM1 := AtF.new wr 59 [.int .i64 ids, .int .i64 off, .int .i64 mc]
              have hbM : Bel X0 (wr.alloc (.cells #[.int .i64 ids, .int .i64 off, .int .i64 mc] 59)) := hbr.alloc _
              simp only [List.toArray] at hM1
              have hMw : wr.heap.size = wr.heap.size := rfl
              generalize wr.alloc (.cells #[.int .i64 ids, .int .i64 off, .int .i64 mc] 59) = Y0 at *
              obtain ⟨R, hR⟩ : ∃ R, R = wr.heap.size := ⟨_, rfl⟩
              rw [← hR] at hM1 ⊢
              clear d0 d1 d2 c4 c7 hMw hlc hlk hbr hR
              have hk0 : 0 ≤ k := by omega
              go_loopw [7] (fun jv wq => ∃ j : Nat, jv = .int .i64 j ∧ j ≤ k ∧ Hid (∀ j' m', j' < j → ms[j']? = some m' → m'.id ≠ ids) ∧ Bel Y0 wq) (fun jv _ => k - (intOf jv).toNat)
              case atStart => exact ⟨0, rfl, by omega, Lib.hid (fun j' _ h => absurd h (by omega)), Bel.refl _⟩
              case round =>
                obtain ⟨j, rfl, j1, HNE, hbq⟩ := hrel
                have hAq := (hA0.bel hbM).bel hbq
                have hMq := hM1.bel hbq
                have c4 := hAq.1.2 4 _ rfl
                have c7 := hAq.1.2 7 _ rfl
                have e0 := hMq.1.2 0 _ rfl
                have e2c := hMq.1.2 2 _ rfl
                by_cases hjk : j < k
                · obtain ⟨m', hmj⟩ : ∃ m', ms[j]? = some m' := ⟨ms[j]'(by have := Hn.out; omega), List.getElem?_eq_getElem _⟩
                  obtain ⟨mb', mo', hme, hmb', hrow'⟩ := HMEM.out j m' hmj
                  cases hme
                  have hrow' := ((hrow'.bel hX0 hmb').bel hbM (Nat.lt_of_lt_of_le hmb' hX0.size)).bel hbq (Nat.lt_of_lt_of_le (Nat.lt_of_lt_of_le hmb' hX0.size) hbM.size)
                  have f0 := hrow'.cell 0 rfl
                  rw [Nat.add_zero] at f0
                  have jn : (j : Int) < (n : Int) := by omega
                  have jk : (j : Int) < (k : Int) := by omega
                  obtain ⟨id', off', cnt'⟩ := m'
                  simp only at f0
                  clear hrow'
                  by_cases eid : id' = ids
                  · have HF : Hid (V = false) := by
                      show _ = _
                      rw [HVr.out, memOk, if_pos (.inl ((HS.out ids).2 ⟨j, ⟨id', off', cnt'⟩, hjk, hmj, eid⟩))]
                    subst eid
                    clear HVr hmj
                    go_wp2_with fail
                    have rg0 := fun d os => cell_regrown c7 d os
                    have rg1 := fun d os => cell_regrown e0 d os
                    have rg2 := fun d os => cell_regrown f0 d os
                    refine wp_region_lex [] 9 (by kernel_rfl) (by kernel_rfl) ?_
                    simp only [List.take_succ_cons, List.take_zero, List.drop_succ_cons, List.drop_zero]
                    with_reducible refine lex_seg 9 _ _ _ _ (by kernel_rfl) ?_
                    simp only [List.take_succ_cons, List.take_zero, List.drop_succ_cons, List.drop_zero]
                    try simp only [Act.put, List.setIfInBounds_toArray, List.set_cons_succ, List.set_cons_zero]
                    repeat (go_big_quiet_step (fail))
                    with_reducible refine wpQuiet_nil ?_
                    with_reducible refine lex_nil ?_
                    clear rg0 rg1 rg2
                    go_wp2
                    go_ret
                    exact ⟨ret_bool HF.out.symm, hX0.trans (hbM.trans hbq.drew)⟩
                  · have HNE2 : Hid (∀ j' m', j' < j + 1 → ms[j']? = some m' → m'.id ≠ ids) := by
                      intro j' m' hj' hm'
                      by_cases ej : j' = j
                      · subst ej; rw [hmj] at hm'; cases hm'; exact eid
                      · exact HNE.out j' m' (by omega) hm'
                    have eid' : (id' == ids) = false := by simpa using eid
                    clear eid hmj
                    go_wp2_with fail
                    have rg0 := fun d os => cell_regrown c7 d os
                    have rg1 := fun d os => cell_regrown e0 d os
                    have rg2 := fun d os => cell_regrown f0 d os
                    refine wp_region_lex [] 9 (by kernel_rfl) (by kernel_rfl) ?_
                    simp only [List.take_succ_cons, List.take_zero, List.drop_succ_cons, List.drop_zero]
                    with_reducible refine lex_seg 9 _ _ _ _ (by kernel_rfl) ?_
                    simp only [List.take_succ_cons, List.take_zero, List.drop_succ_cons, List.drop_zero]
                    try simp only [Act.put, List.setIfInBounds_toArray, List.set_cons_succ, List.set_cons_zero]
                    repeat (go_big_quiet_step (fail))
                    with_reducible refine wpQuiet_nil ?_
                    with_reducible refine lex_nil ?_
                    clear rg0 rg1 rg2
                    go_wp2
                    go_roundw
                    case rel => exact ⟨j + 1, by go_num, by omega, HNE2, hbq.drew⟩
                    case measure => simp [intOf]; omega
                · obtain rfl : j = k := by omega
                  have HF : Hid (V = memOk cnt (ids :: seen) (off + mc) (ms.drop (j + 1))) := by
                    have hs : ¬ seen.contains ids = true := by
                      intro h
                      obtain ⟨j', m', h1, h2, h3⟩ := (HS.out ids).1 h
                      exact HNE.out j' m' h1 h2 h3
                    show _ = _; rw [HVr.out, memOk, if_neg (by simp only [hs]; simp; omega)]
                  have jk : decide ((j : Int) < (j : Int)) = false := by simp
                  clear HVr
                  go_wp2
                  go_roundw
                  case rel => exact ⟨j + 1, off + mc, ids :: seen, rfl, by go_num, by omega, by omega, by omega, HF, HSN, hbM.trans hbq⟩
                  case measure => simp [intOf]; omega
        · have HF : Hid (V = false) := by show _ = _; rw [HVr.out, memOk, if_pos (.inr (.inl e1))]
          have e1' : (off != x) = true := by simpa using e1
          clear HVr e1
          go_wp2
          go_ret
          exact ⟨ret_bool HF.out.symm, (by repeat (first | (with_reducible exact Bel.refl _) | (with_reducible assumption) | (with_reducible refine Bel.drewN ?_ _) | (with_reducible refine Bel.drew ?_) | (with_reducible refine Bel.alloc ?_ _) | (with_reducible refine Bel.setNew ?_ ?_ _) | (with_reducible refine Bel.trans ?_ (by assumption)) | (focus (simp; done)) | (focus (simp; omega))))⟩
      · obtain rfl : k = n := by omega
        have hdr : ms.drop k = [] := List.drop_eq_nil_of_le (by have := Hn.out; omega)
        rw [hdr] at HVr
        have k1 : decide ((k : Int) < (k : Int)) = false := by simp
        have HF : Hid (V = (x == cnt)) := by show _ = _; rw [HVr.out, memOk]
        clear HVr hdr
        go_wp2
        go_ret
        exact ⟨ret_bool HF.out.symm, (by repeat (first | (with_reducible exact Bel.refl _) | (with_reducible assumption) | (with_reducible refine Bel.drewN ?_ _) | (with_reducible refine Bel.drew ?_) | (with_reducible refine Bel.alloc ?_ _) | (with_reducible refine Bel.setNew ?_ ?_ _) | (with_reducible refine Bel.trans ?_ (by assumption)) | (focus (simp; done)) | (focus (simp; omega))))⟩

theorem refBunch_any (b : Bun) (ms : List Mem) (w : World) (hm : Mems w b ms) :
    Calls Try.prog 39 #[.agg #[.int .i64 (b).id, .int .i64 (b).ten, .int .i64 (b).knd, .int .i64 (b).sec, .int .i64 (b).cnt, .string (b).dat, .bool (b).fua, .slice (b).mA (b).mL (b).mC, .int .i64 (b).tim]] w fun e w' => e = .returned (.bool (validB b ms)) ∧ Bel w w' := by
  by_cases h : 0 ≤ b.sec ∧ b.sec < 128 ∧ 1 ≤ b.cnt ∧ b.cnt ≤ 128 - b.sec
  · cases hd : dataOk b
    · rw [not_data hd]
      exact refBunch_nodata b w h hd hm.dl
    · have : validB b ms = memOk b.cnt [] 0 ms := by simp only [validB, rangeOk, hd, Bool.and_true]; rw [decide_eq_true h, Bool.true_and]
      rw [this]
      exact refBunch_yes b ms w hm h hd
  · rw [not_head h]
    exact refBunch_no b w h
end Go.Proofs.Ytbijfmpmgmfpgaa
