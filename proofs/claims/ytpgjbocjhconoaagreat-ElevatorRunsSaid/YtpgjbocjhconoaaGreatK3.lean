/- Lemmas and walks that the statements share, part K3. -/
import Derived.Test.YtpgjbocjhconoaaGreatK2
import Derived.Test.YtpgjbocjhconoaaGreatK1
import Derived.Shelf.Abstract
/- The reference's Bunch. -/
namespace Go.Proofs.YtpgjbocjhconoaaGreat
open Go.RowKit Go.Maps
set_option linter.unusedSimpArgs false

set_option maxRecDepth 100000 in
set_option maxHeartbeats 4000000 in
theorem refBunch_no (b : Bun) (w : World) (h : ¬ (0 ≤ b.sec ∧ b.sec < 128 ∧ 1 ≤ b.cnt ∧ b.cnt ≤ 128 - b.sec)) :
    Calls Tryz.prog 27 #[.agg #[.int .i64 (b).id, .int .i64 (b).ten, .int .i64 (b).knd, .int .i64 (b).sec, .int .i64 (b).cnt, .string (b).dat, .bool (b).fua, .slice (b).mA (b).mL (b).mC, .int .i64 (b).tim]] w fun e w' => e = .returned (.bool false) ∧ Bel w w' := by
  obtain ⟨id, ten, knd, sec, cnt, dat, fua, mA, mL, mC, tim⟩ := b
  simp only at h ⊢
  have kk : ((knd == 1) = true ∧ (knd == 2) = false ∧ (knd != 1) = false ∧ (knd != 2) = true) ∨ ((knd == 1) = false ∧ (knd == 2) = true ∧ (knd != 1) = true ∧ (knd != 2) = false) ∨ ((knd == 1) = false ∧ (knd == 2) = false ∧ (knd != 1) = true ∧ (knd != 2) = true) := by
    by_cases k1 : knd = 1
    · subst k1; simp
    · by_cases k2 : knd = 2
      · subst k2; simp
      · simp [k1, k2]
  rcases kk with ⟨k1, k2, k3, k4⟩ | ⟨k1, k2, k3, k4⟩ | ⟨k1, k2, k3, k4⟩
  all_goals
    by_cases h1 : sec < 0
    · have h1' := h1
      go_enter Tryz.func27, Tryz.ntmps27
      go_wp2
      go_ret
      exact ⟨rfl, bI⟩
    · by_cases h2 : sec < 128
      · by_cases h3 : cnt < 1
        · go_enter Tryz.func27, Tryz.ntmps27
          go_wp2
          go_ret
          exact ⟨rfl, bI⟩
        · have h4 : 128 - sec < cnt := by omega
          clear h
          go_enter Tryz.func27, Tryz.ntmps27
          go_wp2
          go_ret
          exact ⟨rfl, bI⟩
      · go_enter Tryz.func27, Tryz.ntmps27
        go_wp2
        go_ret
        exact ⟨rfl, bI⟩

set_option maxRecDepth 100000 in
set_option maxHeartbeats 4000000 in
theorem refBunch_nodata (b : Bun) (w : World) (h : 0 ≤ b.sec ∧ b.sec < 128 ∧ 1 ≤ b.cnt ∧ b.cnt ≤ 128 - b.sec) (hd : dataOk b = false) (hl : b.dat.size ≤ maxLen) :
    Calls Tryz.prog 27 #[.agg #[.int .i64 (b).id, .int .i64 (b).ten, .int .i64 (b).knd, .int .i64 (b).sec, .int .i64 (b).cnt, .string (b).dat, .bool (b).fua, .slice (b).mA (b).mL (b).mC, .int .i64 (b).tim]] w fun e w' => e = .returned (.bool false) ∧ Bel w w' := by
  obtain ⟨id, ten, knd, sec, cnt, dat, fua, mA, mL, mC, tim⟩ := b
  simp only at h ⊢
  obtain ⟨h1, h2, h3, h4⟩ := h
  unfold dataOk at hd
  unfold maxLen at hl
  simp only at hd hl
  by_cases k1 : knd = 1
  · subst k1
    have hd2 : ((dat.size : Int) != 0) = true := by simp only [if_true, decide_eq_false_iff_not] at hd; simpa using (show ¬ (dat.size : Int) = 0 by omega)
    clear hd
    go_enter Tryz.func27, Tryz.ntmps27
    go_wp2
    go_ret
    exact ⟨rfl, bI⟩
  · rw [if_neg k1] at hd
    have k1' : (knd == 1) = false := by simpa using k1
    have k3 : (knd != 1) = true := by simpa using k1
    have HK := Lib.hid k1
    clear k1
    by_cases k2 : knd = 2
    · subst k2
      simp only [if_true] at hd
      have hd2 : ((dat.size : Int) != cnt * 8) = true := by simpa using hd
      clear hd
      go_enter Tryz.func27, Tryz.ntmps27
      go_wp2
      go_ret
      exact ⟨rfl, bI⟩
    · have k2' : (knd == 2) = false := by simpa using k2
      have k4 : (knd != 2) = true := by simpa using k2
      have HK2 := Lib.hid k2
      clear k2 hd
      go_enter Tryz.func27, Tryz.ntmps27
      go_wp2
      go_ret
      exact ⟨rfl, bI⟩
end Go.Proofs.YtpgjbocjhconoaaGreat

/- The reference's Bunch: its two loops. -/
namespace Go.Proofs.YtpgjbocjhconoaaGreat
open Go.RowKit Go.Maps
set_option linter.unusedSimpArgs false

/-- seen holds the ids of the first k members. -/
def SeenI (ms : List Mem) (k : Nat) (seen : List Int) : Prop := ∀ y, seen.contains y = true ↔ ∃ j m, j < k ∧ ms[j]? = some m ∧ m.id = y
theorem SeenI.start (ms : List Mem) : SeenI ms 0 [] := fun y => ⟨fun h => by simp at h, fun ⟨j, m, h, _⟩ => absurd h (by omega)⟩
theorem SeenI.step {ms : List Mem} {k : Nat} {seen : List Int} {m : Mem} (h : SeenI ms k seen) (hm : ms[k]? = some m) : SeenI ms (k + 1) (m.id :: seen) := by
  intro y
  rw [List.contains_cons, Bool.or_eq_true, h y]
  constructor
  · rintro (h1 | ⟨j, x, h1, h2, h3⟩)
    · exact ⟨k, m, by omega, hm, by simpa using (beq_iff_eq.1 h1).symm⟩
    · exact ⟨j, x, by omega, h2, h3⟩
  · rintro ⟨j, x, h1, h2, h3⟩
    by_cases e : j = k
    · subst e; rw [hm] at h2; cases h2; left; simp [h3]
    · right; exact ⟨j, x, by omega, h2, h3⟩

set_option maxRecDepth 100000 in
set_option maxHeartbeats 8000000 in
theorem refBunch_yes (b : Bun) (ms : List Mem) (w : World) (hm : Mems w b ms) (h : 0 ≤ b.sec ∧ b.sec < 128 ∧ 1 ≤ b.cnt ∧ b.cnt ≤ 128 - b.sec) (hd : dataOk b = true) :
    Calls Tryz.prog 27 #[.agg #[.int .i64 (b).id, .int .i64 (b).ten, .int .i64 (b).knd, .int .i64 (b).sec, .int .i64 (b).cnt, .string (b).dat, .bool (b).fua, .slice (b).mA (b).mL (b).mC, .int .i64 (b).tim]] w fun e w' => e = .returned (.bool (memOk b.cnt [] 0 ms)) ∧ Bel w w' := by
  obtain ⟨id, ten, knd, sec, cnt, dat, fua, mA, mL, mC, tim⟩ := b
  simp only at h ⊢
  obtain ⟨h1, h2, h3, h4⟩ := h
  obtain ⟨hml, hrd, hi, hl⟩ := hm
  simp only at hml hrd hl
  subst hml
  have HMEM := Lib.hid (fun k m (hk : ms[k]? = some m) => mems_at hrd hk)
  obtain ⟨_, hcp, hmx⟩ : ∃ x : Unit, ms.length ≤ mC ∧ mC ≤ maxLen := by
    obtain ⟨A, c, hv, h5, h6⟩ := hrd.form
    cases hv
    exact ⟨(), h5, h6⟩
  unfold maxLen at hmx
  clear hrd hi
  unfold dataOk at hd
  unfold maxLen at hl
  simp only at hd hl
  obtain ⟨V, HV⟩ : ∃ V, Hid (V = memOk cnt [] 0 ms) := ⟨_, rfl⟩
  rw [← HV.out]
  obtain ⟨n, Hn⟩ : ∃ n, Hid (n = ms.length) := ⟨_, rfl⟩
  rw [← Hn.out] at hcp ⊢
  by_cases k1 : knd = 1
  · subst k1
    have hd2 : ((dat.size : Int) != 0) = false := by have : dat.size = 0 := by simpa using hd
                                                     rw [this]; rfl
    clear hd
    go_enter Tryz.func27, Tryz.ntmps27
    go_wp2
    have hX0 : Bel w (w.alloc (.cells #[.int .i64 id, .int .i64 ten, .int .i64 1, .int .i64 sec, .int .i64 cnt, .string dat, .bool fua, .slice mA n mC, .int .i64 tim] 44)) := (Bel.refl w).alloc _
    have hA0 := AtF.new w 44 [.int .i64 id, .int .i64 ten, .int .i64 1, .int .i64 sec, .int .i64 cnt, .string dat, .bool fua, .slice mA n mC, .int .i64 tim]
    simp only [List.toArray] at hA0
    generalize (w.alloc (.cells #[.int .i64 id, .int .i64 ten, .int .i64 1, .int .i64 sec, .int .i64 cnt, .string dat, .bool fua, .slice mA n mC, .int .i64 tim] 44)) = X0 at *
    go_loopw [4, 5] (fun nv iv wr => ∃ (k : Nat) (x : Int) (seen : List Int), nv = .int .i64 x ∧ iv = .int .i64 k ∧ k ≤ n ∧ 0 ≤ x ∧ x ≤ cnt ∧ Hid (V = memOk cnt seen x (ms.drop k)) ∧ Hid (SeenI ms k seen) ∧ Bel X0 wr) (fun _ iv _ => n - (intOf iv).toNat)
    case atStart => exact ⟨0, 0, [], rfl, rfl, by omega, by omega, by omega, by simpa using HV, SeenI.start ms, Bel.refl _⟩
    case round =>
      obtain ⟨k, x, seen, rfl, rfl, p1, x0, x1, HVr, HS, hbr⟩ := hrel
      have c4 := (hA0.bel hbr).1.2 4 _ rfl
      have c7 := (hA0.bel hbr).1.2 7 _ rfl
      have hlc := (hA0.bel hbr).1.1
      by_cases hlt : k < n
      · obtain ⟨m, hmk⟩ : ∃ m, ms[k]? = some m := ⟨ms[k]'(by have := Hn.out; omega), List.getElem?_eq_getElem _⟩
        obtain ⟨mb, mo, rfl, hmb, hrow⟩ := HMEM.out k m hmk
        have hrow := (hrow.bel hX0 hmb).bel hbr (Nat.lt_of_lt_of_le hmb hX0.size)
        have d0 := hrow.cell 0 rfl
        have d1 := hrow.cell 1 rfl
        have d2 := hrow.cell 2 rfl
        rw [Nat.add_zero] at d0
        have HSN := Lib.hid (HS.out.step hmk)
        obtain ⟨ids, off, mc⟩ := m
        simp only at d0 d1 d2 HSN
        have hmd : ms.drop k = ⟨ids, off, mc⟩ :: ms.drop (k + 1) := by
          obtain ⟨g1, g2⟩ := List.getElem?_eq_some_iff.1 hmk
          rw [← g2, List.drop_eq_getElem_cons g1]
        rw [hmd] at HVr
        have k1 : (k : Int) < (n : Int) := by omega
        have hlk := World.block_lt_of_cell? _ _ d0
        clear hmk hmd hrow
        by_cases e1 : off = x
        · subst e1
          have e1b : (off != off) = false := by simp
          by_cases e2 : mc < 1
          · have HF : Hid (V = false) := by show _ = _; rw [HVr.out, memOk, if_pos (.inr (.inr (.inl e2)))]
            clear HVr
            go_wp2
            go_ret
            exact ⟨ret_bool HF.out.symm, bI⟩
          · by_cases e3 : cnt - off < mc
            · have HF : Hid (V = false) := by show _ = _; rw [HVr.out, memOk, if_pos (.inr (.inr (.inr e3)))]
              clear HVr
              go_wp2
              go_ret
              exact ⟨ret_bool HF.out.symm, bI⟩
            · go_wp2
              have hM1 := AtF.new wr 93 [.int .i64 ids, .int .i64 off, .int .i64 mc]
              have hbM : Bel X0 (wr.alloc (.cells #[.int .i64 ids, .int .i64 off, .int .i64 mc] 93)) := hbr.alloc _
              simp only [List.toArray] at hM1
              have hMw : wr.heap.size = wr.heap.size := rfl
              generalize wr.alloc (.cells #[.int .i64 ids, .int .i64 off, .int .i64 mc] 93) = Y0 at *
              obtain ⟨R, hR⟩ : ∃ R, R = wr.heap.size := ⟨_, rfl⟩
              rw [← hR] at hM1 ⊢
              clear d0 d1 d2 c4 c7 hMw hlc hlk hbr hR
              have hk0 : 0 ≤ k := by omega
              go_loopw [7] (fun jv wq => ∃ j : Nat, jv = .int .i64 j ∧ j ≤ k ∧ Hid (∀ j' m', j' < j → ms[j']? = some m' → m'.id ≠ ids) ∧ Bel Y0 wq) (fun jv _ => k - (intOf jv).toNat)
              case atStart => exact ⟨0, rfl, by omega, Lib.hid (fun j' _ h => absurd h (by omega)), Bel.refl _⟩
              case round =>
                obtain ⟨j, rfl, j1, HNE, hbq⟩ := hrel
                have hAq := (hA0.bel hbM).bel hbq
                have hMq := hM1.bel hbq
                have c4 := hAq.1.2 4 _ rfl
                have c7 := hAq.1.2 7 _ rfl
                have e0 := hMq.1.2 0 _ rfl
                have e2c := hMq.1.2 2 _ rfl
                by_cases hjk : j < k
                · obtain ⟨m', hmj⟩ : ∃ m', ms[j]? = some m' := ⟨ms[j]'(by have := Hn.out; omega), List.getElem?_eq_getElem _⟩
                  obtain ⟨mb', mo', hme, hmb', hrow'⟩ := HMEM.out j m' hmj
                  cases hme
                  have hrow' := ((hrow'.bel hX0 hmb').bel hbM (Nat.lt_of_lt_of_le hmb' hX0.size)).bel hbq (Nat.lt_of_lt_of_le (Nat.lt_of_lt_of_le hmb' hX0.size) hbM.size)
                  have f0 := hrow'.cell 0 rfl
                  rw [Nat.add_zero] at f0
                  have jn : (j : Int) < (n : Int) := by omega
                  have jk : (j : Int) < (k : Int) := by omega
                  obtain ⟨id', off', cnt'⟩ := m'
                  simp only at f0
                  clear hrow'
                  by_cases eid : id' = ids
                  · have HF : Hid (V = false) := by
                      show _ = _
                      rw [HVr.out, memOk, if_pos (.inl ((HS.out ids).2 ⟨j, ⟨id', off', cnt'⟩, hjk, hmj, eid⟩))]
                    subst eid
                    clear HVr hmj
                    go_wp2_with fail
                    have rg0 := fun d os => cell_regrown c7 d os
                    have rg1 := fun d os => cell_regrown e0 d os
                    have rg2 := fun d os => cell_regrown f0 d os
                    refine wp_region_lex [] 9 (by kernel_rfl) (by kernel_rfl) ?_
                    simp only [List.take_succ_cons, List.take_zero, List.drop_succ_cons, List.drop_zero]
                    with_reducible refine lex_seg 9 _ _ _ _ (by kernel_rfl) ?_
                    simp only [List.take_succ_cons, List.take_zero, List.drop_succ_cons, List.drop_zero]
                    try simp only [Act.put, List.setIfInBounds_toArray, List.set_cons_succ, List.set_cons_zero]
                    repeat (go_big_quiet_step (fail))
                    with_reducible refine wpQuiet_nil ?_
                    with_reducible refine lex_nil ?_
                    clear rg0 rg1 rg2
                    go_wp2
                    go_ret
                    exact ⟨ret_bool HF.out.symm, hX0.trans (hbM.trans hbq.drew)⟩
                  · have HNE2 : Hid (∀ j' m', j' < j + 1 → ms[j']? = some m' → m'.id ≠ ids) := by
                      intro j' m' hj' hm'
                      by_cases ej : j' = j
                      · subst ej; rw [hmj] at hm'; cases hm'; exact eid
                      · exact HNE.out j' m' (by omega) hm'
                    have eid' : (id' == ids) = false := by simpa using eid
                    clear eid hmj
                    go_wp2_with fail
                    have rg0 := fun d os => cell_regrown c7 d os
                    have rg1 := fun d os => cell_regrown e0 d os
                    have rg2 := fun d os => cell_regrown f0 d os
                    refine wp_region_lex [] 9 (by kernel_rfl) (by kernel_rfl) ?_
                    simp only [List.take_succ_cons, List.take_zero, List.drop_succ_cons, List.drop_zero]
                    with_reducible refine lex_seg 9 _ _ _ _ (by kernel_rfl) ?_
                    simp only [List.take_succ_cons, List.take_zero, List.drop_succ_cons, List.drop_zero]
                    try simp only [Act.put, List.setIfInBounds_toArray, List.set_cons_succ, List.set_cons_zero]
                    repeat (go_big_quiet_step (fail))
                    with_reducible refine wpQuiet_nil ?_
                    with_reducible refine lex_nil ?_
                    clear rg0 rg1 rg2
                    go_wp2
                    go_roundw
                    case rel => exact ⟨j + 1, by go_num, by omega, HNE2, hbq.drew⟩
                    case measure => simp [intOf]; omega
                · obtain rfl : j = k := by omega
                  have HF : Hid (V = memOk cnt (ids :: seen) (off + mc) (ms.drop (j + 1))) := by
                    have hs : ¬ seen.contains ids = true := by
                      intro h
                      obtain ⟨j', m', h1, h2, h3⟩ := (HS.out ids).1 h
                      exact HNE.out j' m' h1 h2 h3
                    show _ = _; rw [HVr.out, memOk, if_neg (by simp only [hs]; simp; omega)]
                  have jk : decide ((j : Int) < (j : Int)) = false := by simp
                  clear HVr
                  go_wp2
                  go_roundw
                  case rel => exact ⟨j + 1, off + mc, ids :: seen, rfl, by go_num, by omega, by omega, by omega, HF, HSN, hbM.trans hbq⟩
                  case measure => simp [intOf]; omega
        · have HF : Hid (V = false) := by show _ = _; rw [HVr.out, memOk, if_pos (.inr (.inl e1))]
          have e1' : (off != x) = true := by simpa using e1
          clear HVr e1
          go_wp2
          go_ret
          exact ⟨ret_bool HF.out.symm, bI⟩
      · obtain rfl : k = n := by omega
        have hdr : ms.drop k = [] := List.drop_eq_nil_of_le (by have := Hn.out; omega)
        rw [hdr] at HVr
        have k1 : decide ((k : Int) < (k : Int)) = false := by simp
        have HF : Hid (V = (x == cnt)) := by show _ = _; rw [HVr.out, memOk]
        clear HVr hdr
        go_wp2
        go_ret
        exact ⟨ret_bool HF.out.symm, bI⟩
  · rw [if_neg k1] at hd
    have k1' : (knd == 1) = false := by simpa using k1
    have HK := Lib.hid k1
    clear k1
    obtain rfl : knd = 2 := by
      by_cases k2 : knd = 2
      · exact k2
      · rw [if_neg k2] at hd; cases hd
    simp only [if_true] at hd
    have hd2 : ((dat.size : Int) != cnt * 8) = false := by simpa using hd
    clear hd
    go_enter Tryz.func27, Tryz.ntmps27
    go_wp2
    have hX0 : Bel w (w.alloc (.cells #[.int .i64 id, .int .i64 ten, .int .i64 2, .int .i64 sec, .int .i64 cnt, .string dat, .bool fua, .slice mA n mC, .int .i64 tim] 44)) := (Bel.refl w).alloc _
    have hA0 := AtF.new w 44 [.int .i64 id, .int .i64 ten, .int .i64 2, .int .i64 sec, .int .i64 cnt, .string dat, .bool fua, .slice mA n mC, .int .i64 tim]
    simp only [List.toArray] at hA0
    generalize (w.alloc (.cells #[.int .i64 id, .int .i64 ten, .int .i64 2, .int .i64 sec, .int .i64 cnt, .string dat, .bool fua, .slice mA n mC, .int .i64 tim] 44)) = X0 at *
    go_loopw [4, 5] (fun nv iv wr => ∃ (k : Nat) (x : Int) (seen : List Int), nv = .int .i64 x ∧ iv = .int .i64 k ∧ k ≤ n ∧ 0 ≤ x ∧ x ≤ cnt ∧ Hid (V = memOk cnt seen x (ms.drop k)) ∧ Hid (SeenI ms k seen) ∧ Bel X0 wr) (fun _ iv _ => n - (intOf iv).toNat)
    case atStart => exact ⟨0, 0, [], rfl, rfl, by omega, by omega, by omega, by simpa using HV, SeenI.start ms, Bel.refl _⟩
    case round =>
      obtain ⟨k, x, seen, rfl, rfl, p1, x0, x1, HVr, HS, hbr⟩ := hrel
      have c4 := (hA0.bel hbr).1.2 4 _ rfl
      have c7 := (hA0.bel hbr).1.2 7 _ rfl
      have hlc := (hA0.bel hbr).1.1
      by_cases hlt : k < n
      · obtain ⟨m, hmk⟩ : ∃ m, ms[k]? = some m := ⟨ms[k]'(by have := Hn.out; omega), List.getElem?_eq_getElem _⟩
        obtain ⟨mb, mo, rfl, hmb, hrow⟩ := HMEM.out k m hmk
        have hrow := (hrow.bel hX0 hmb).bel hbr (Nat.lt_of_lt_of_le hmb hX0.size)
        have d0 := hrow.cell 0 rfl
        have d1 := hrow.cell 1 rfl
        have d2 := hrow.cell 2 rfl
        rw [Nat.add_zero] at d0
        have HSN := Lib.hid (HS.out.step hmk)
        obtain ⟨ids, off, mc⟩ := m
        simp only at d0 d1 d2 HSN
        have hmd : ms.drop k = ⟨ids, off, mc⟩ :: ms.drop (k + 1) := by
          obtain ⟨g1, g2⟩ := List.getElem?_eq_some_iff.1 hmk
          rw [← g2, List.drop_eq_getElem_cons g1]
        rw [hmd] at HVr
        have k1 : (k : Int) < (n : Int) := by omega
        have hlk := World.block_lt_of_cell? _ _ d0
        clear hmk hmd hrow
        by_cases e1 : off = x
        · subst e1
          have e1b : (off != off) = false := by simp
          by_cases e2 : mc < 1
          · have HF : Hid (V = false) := by show _ = _; rw [HVr.out, memOk, if_pos (.inr (.inr (.inl e2)))]
            clear HVr
            go_wp2
            go_ret
            exact ⟨ret_bool HF.out.symm, bI⟩
          · by_cases e3 : cnt - off < mc
            · have HF : Hid (V = false) := by show _ = _; rw [HVr.out, memOk, if_pos (.inr (.inr (.inr e3)))]
              clear HVr
              go_wp2
              go_ret
              exact ⟨ret_bool HF.out.symm, bI⟩
            · go_wp2
              have hM1 := AtF.new wr 93 [.int .i64 ids, .int .i64 off, .int .i64 mc]
              have hbM : Bel X0 (wr.alloc (.cells #[.int .i64 ids, .int .i64 off, .int .i64 mc] 93)) := hbr.alloc _
              simp only [List.toArray] at hM1
              have hMw : wr.heap.size = wr.heap.size := rfl
              generalize wr.alloc (.cells #[.int .i64 ids, .int .i64 off, .int .i64 mc] 93) = Y0 at *
              obtain ⟨R, hR⟩ : ∃ R, R = wr.heap.size := ⟨_, rfl⟩
              rw [← hR] at hM1 ⊢
              clear d0 d1 d2 c4 c7 hMw hlc hlk hbr hR
              have hk0 : 0 ≤ k := by omega
              go_loopw [7] (fun jv wq => ∃ j : Nat, jv = .int .i64 j ∧ j ≤ k ∧ Hid (∀ j' m', j' < j → ms[j']? = some m' → m'.id ≠ ids) ∧ Bel Y0 wq) (fun jv _ => k - (intOf jv).toNat)
              case atStart => exact ⟨0, rfl, by omega, Lib.hid (fun j' _ h => absurd h (by omega)), Bel.refl _⟩
              case round =>
                obtain ⟨j, rfl, j1, HNE, hbq⟩ := hrel
                have hAq := (hA0.bel hbM).bel hbq
                have hMq := hM1.bel hbq
                have c4 := hAq.1.2 4 _ rfl
                have c7 := hAq.1.2 7 _ rfl
                have e0 := hMq.1.2 0 _ rfl
                have e2c := hMq.1.2 2 _ rfl
                by_cases hjk : j < k
                · obtain ⟨m', hmj⟩ : ∃ m', ms[j]? = some m' := ⟨ms[j]'(by have := Hn.out; omega), List.getElem?_eq_getElem _⟩
                  obtain ⟨mb', mo', hme, hmb', hrow'⟩ := HMEM.out j m' hmj
                  cases hme
                  have hrow' := ((hrow'.bel hX0 hmb').bel hbM (Nat.lt_of_lt_of_le hmb' hX0.size)).bel hbq (Nat.lt_of_lt_of_le (Nat.lt_of_lt_of_le hmb' hX0.size) hbM.size)
                  have f0 := hrow'.cell 0 rfl
                  rw [Nat.add_zero] at f0
                  have jn : (j : Int) < (n : Int) := by omega
                  have jk : (j : Int) < (k : Int) := by omega
                  obtain ⟨id', off', cnt'⟩ := m'
                  simp only at f0
                  clear hrow'
                  by_cases eid : id' = ids
                  · have HF : Hid (V = false) := by
                      show _ = _
                      rw [HVr.out, memOk, if_pos (.inl ((HS.out ids).2 ⟨j, ⟨id', off', cnt'⟩, hjk, hmj, eid⟩))]
                    subst eid
                    clear HVr hmj
                    go_wp2_with fail
                    have rg0 := fun d os => cell_regrown c7 d os
                    have rg1 := fun d os => cell_regrown e0 d os
                    have rg2 := fun d os => cell_regrown f0 d os
                    refine wp_region_lex [] 9 (by kernel_rfl) (by kernel_rfl) ?_
                    simp only [List.take_succ_cons, List.take_zero, List.drop_succ_cons, List.drop_zero]
                    with_reducible refine lex_seg 9 _ _ _ _ (by kernel_rfl) ?_
                    simp only [List.take_succ_cons, List.take_zero, List.drop_succ_cons, List.drop_zero]
                    try simp only [Act.put, List.setIfInBounds_toArray, List.set_cons_succ, List.set_cons_zero]
                    repeat (go_big_quiet_step (fail))
                    with_reducible refine wpQuiet_nil ?_
                    with_reducible refine lex_nil ?_
                    clear rg0 rg1 rg2
                    go_wp2
                    go_ret
                    exact ⟨ret_bool HF.out.symm, hX0.trans (hbM.trans hbq.drew)⟩
                  · have HNE2 : Hid (∀ j' m', j' < j + 1 → ms[j']? = some m' → m'.id ≠ ids) := by
                      intro j' m' hj' hm'
                      by_cases ej : j' = j
                      · subst ej; rw [hmj] at hm'; cases hm'; exact eid
                      · exact HNE.out j' m' (by omega) hm'
                    have eid' : (id' == ids) = false := by simpa using eid
                    clear eid hmj
                    go_wp2_with fail
                    have rg0 := fun d os => cell_regrown c7 d os
                    have rg1 := fun d os => cell_regrown e0 d os
                    have rg2 := fun d os => cell_regrown f0 d os
                    refine wp_region_lex [] 9 (by kernel_rfl) (by kernel_rfl) ?_
                    simp only [List.take_succ_cons, List.take_zero, List.drop_succ_cons, List.drop_zero]
                    with_reducible refine lex_seg 9 _ _ _ _ (by kernel_rfl) ?_
                    simp only [List.take_succ_cons, List.take_zero, List.drop_succ_cons, List.drop_zero]
                    try simp only [Act.put, List.setIfInBounds_toArray, List.set_cons_succ, List.set_cons_zero]
                    repeat (go_big_quiet_step (fail))
                    with_reducible refine wpQuiet_nil ?_
                    with_reducible refine lex_nil ?_
                    clear rg0 rg1 rg2
                    go_wp2
                    go_roundw
                    case rel => exact ⟨j + 1, by go_num, by omega, HNE2, hbq.drew⟩
                    case measure => simp [intOf]; omega
                · obtain rfl : j = k := by omega
                  have HF : Hid (V = memOk cnt (ids :: seen) (off + mc) (ms.drop (j + 1))) := by
                    have hs : ¬ seen.contains ids = true := by
                      intro h
                      obtain ⟨j', m', h1, h2, h3⟩ := (HS.out ids).1 h
                      exact HNE.out j' m' h1 h2 h3
                    show _ = _; rw [HVr.out, memOk, if_neg (by simp only [hs]; simp; omega)]
                  have jk : decide ((j : Int) < (j : Int)) = false := by simp
                  clear HVr
                  go_wp2
                  go_roundw
                  case rel => exact ⟨j + 1, off + mc, ids :: seen, rfl, by go_num, by omega, by omega, by omega, HF, HSN, hbM.trans hbq⟩
                  case measure => simp [intOf]; omega
        · have HF : Hid (V = false) := by show _ = _; rw [HVr.out, memOk, if_pos (.inr (.inl e1))]
          have e1' : (off != x) = true := by simpa using e1
          clear HVr e1
          go_wp2
          go_ret
          exact ⟨ret_bool HF.out.symm, bI⟩
      · obtain rfl : k = n := by omega
        have hdr : ms.drop k = [] := List.drop_eq_nil_of_le (by have := Hn.out; omega)
        rw [hdr] at HVr
        have k1 : decide ((k : Int) < (k : Int)) = false := by simp
        have HF : Hid (V = (x == cnt)) := by show _ = _; rw [HVr.out, memOk]
        clear HVr hdr
        go_wp2
        go_ret
        exact ⟨ret_bool HF.out.symm, bI⟩

theorem refBunch_any (b : Bun) (ms : List Mem) (w : World) (hm : Mems w b ms) :
    Calls Tryz.prog 27 #[.agg #[.int .i64 (b).id, .int .i64 (b).ten, .int .i64 (b).knd, .int .i64 (b).sec, .int .i64 (b).cnt, .string (b).dat, .bool (b).fua, .slice (b).mA (b).mL (b).mC, .int .i64 (b).tim]] w fun e w' => e = .returned (.bool (validB b ms)) ∧ Bel w w' := by
  by_cases h : 0 ≤ b.sec ∧ b.sec < 128 ∧ 1 ≤ b.cnt ∧ b.cnt ≤ 128 - b.sec
  · cases hd : dataOk b
    · rw [not_data hd]
      exact refBunch_nodata b w h hd hm.dl
    · have : validB b ms = memOk b.cnt [] 0 ms := by simp only [validB, rangeOk, hd, Bool.and_true]; rw [decide_eq_true h, Bool.true_and]
      rw [this]
      exact refBunch_yes b ms w hm h hd
  · rw [not_head h]
    exact refBunch_no b w h
end Go.Proofs.YtpgjbocjhconoaaGreat

/- merge.Conflict and the reference's Conflict: one Bool for both. -/
namespace Go.Proofs.YtpgjbocjhconoaaGreat
open Go.RowKit Go.Maps
set_option linter.unusedSimpArgs false

set_option maxRecDepth 100000 in
set_option maxHeartbeats 4000000 in
theorem conflict_any (x y : BM) (w : World) (hx : Mems w x.b x.ms) (hy : Mems w y.b y.ms) :
    Calls Tryz.prog 64 #[.agg #[.int .i64 (x.b).id, .int .i64 (x.b).ten, .int .i64 (x.b).knd, .int .i64 (x.b).sec, .int .i64 (x.b).cnt, .string (x.b).dat, .bool (x.b).fua, .slice (x.b).mA (x.b).mL (x.b).mC, .int .i64 (x.b).tim], .agg #[.int .i64 (y.b).id, .int .i64 (y.b).ten, .int .i64 (y.b).knd, .int .i64 (y.b).sec, .int .i64 (y.b).cnt, .string (y.b).dat, .bool (y.b).fua, .slice (y.b).mA (y.b).mL (y.b).mC, .int .i64 (y.b).tim]] w fun e w' => e = .returned (.bool (confB x y)) ∧ Bel w w' := by
  obtain ⟨V, HV⟩ : ∃ V, Hid (V = confB x y) := ⟨_, rfl⟩
  rw [← HV.out]
  have H1 := Lib.hid (fun w' (h : Bel w w') => mergeValid_any x.b x.ms w' (hx.bel h))
  have H2 := Lib.hid (fun w' (h : Bel w w') => mergeValid_any y.b y.ms w' (hy.bel h))
  have HR1 := Lib.hid (fun h => validB_range (b := x.b) (ms := x.ms) h)
  have HR2 := Lib.hid (fun h => validB_range (b := y.b) (ms := y.ms) h)
  have hV := HV.out
  unfold confB BM.ok meetB at hV
  obtain ⟨⟨i1, t1, k1, s1, n1, d1, f1, a1, l1, c1, m1⟩, ms1⟩ := x
  obtain ⟨⟨i2, t2, k2, s2, n2, d2, f2, a2, l2, c2, m2⟩, ms2⟩ := y
  clear hx hy HV
  simp only at H1 H2 hV HR1 HR2 ⊢
  generalize validB ⟨i1, t1, k1, s1, n1, d1, f1, a1, l1, c1, m1⟩ ms1 = v1 at *
  generalize validB ⟨i2, t2, k2, s2, n2, d2, f2, a2, l2, c2, m2⟩ ms2 = v2 at *
  cases v1
  · have HF : Hid (V = false) := by show _ = _; rw [hV]; rfl
    clear hV HR1 HR2
    go_enter Tryz.func64, Tryz.ntmps64
    go_wp2_with fail
    refine (H1.out _ bI).mono ?_; rintro e w1 ⟨rfl, hb1⟩
    go_wp2
    go_ret
    exact ⟨ret_bool HF.out.symm, bI⟩
  · cases v2
    · have HF : Hid (V = false) := by show _ = _; rw [hV]; rfl
      clear hV HR1 HR2
      go_enter Tryz.func64, Tryz.ntmps64
      go_wp2_with fail
      refine (H1.out _ bI).mono ?_; rintro e w1 ⟨rfl, hb1⟩
      have hB := (AtF.new (w.alloc (.cells #[.int .i64 i1, .int .i64 t1, .int .i64 k1, .int .i64 s1, .int .i64 n1, .string d1, .bool f1, .slice a1 l1 c1, .int .i64 m1] 44)) 44 [.int .i64 i2, .int .i64 t2, .int .i64 k2, .int .i64 s2, .int .i64 n2, .string d2, .bool f2, .slice a2 l2 c2, .int .i64 m2]).bel hb1
      simp only [World.size_alloc] at hB
      have q0 := (hB).1.2 0 _ rfl
      have q1 := (hB).1.2 1 _ rfl
      have q2 := (hB).1.2 2 _ rfl
      have q3 := (hB).1.2 3 _ rfl
      have q4 := (hB).1.2 4 _ rfl
      have q5 := (hB).1.2 5 _ rfl
      have q6 := (hB).1.2 6 _ rfl
      have q7 := (hB).1.2 7 _ rfl
      have q8 := (hB).1.2 8 _ rfl
      go_wp2_with fail
      refine (H2.out _ bI).mono ?_; rintro e w2 ⟨rfl, hb2⟩
      go_wp2
      go_ret
      exact ⟨ret_bool HF.out.symm, bI⟩
    · obtain ⟨g1, g2, g3, g4⟩ := HR1.out rfl
      obtain ⟨g5, g6, g7, g8⟩ := HR2.out rfl
      have HF : Hid (V = decide ((k1 = 2 ∨ k2 = 2) ∧ s1 < s2 + n2 ∧ s2 < s1 + n1)) := by show _ = _; rw [hV]; rfl
      clear hV HR1 HR2
      go_enter Tryz.func64, Tryz.ntmps64
      go_wp2_with fail
      refine (H1.out _ bI).mono ?_; rintro e w1 ⟨rfl, hb1⟩
      have hA := ((AtF.new w 44 [.int .i64 i1, .int .i64 t1, .int .i64 k1, .int .i64 s1, .int .i64 n1, .string d1, .bool f1, .slice a1 l1 c1, .int .i64 m1]).alloc (.cells #[.int .i64 i2, .int .i64 t2, .int .i64 k2, .int .i64 s2, .int .i64 n2, .string d2, .bool f2, .slice a2 l2 c2, .int .i64 m2] 44)).bel hb1
      have hB := (AtF.new (w.alloc (.cells #[.int .i64 i1, .int .i64 t1, .int .i64 k1, .int .i64 s1, .int .i64 n1, .string d1, .bool f1, .slice a1 l1 c1, .int .i64 m1] 44)) 44 [.int .i64 i2, .int .i64 t2, .int .i64 k2, .int .i64 s2, .int .i64 n2, .string d2, .bool f2, .slice a2 l2 c2, .int .i64 m2]).bel hb1
      simp only [World.size_alloc] at hB
      have q0 := (hB).1.2 0 _ rfl
      have q1 := (hB).1.2 1 _ rfl
      have q2 := (hB).1.2 2 _ rfl
      have q3 := (hB).1.2 3 _ rfl
      have q4 := (hB).1.2 4 _ rfl
      have q5 := (hB).1.2 5 _ rfl
      have q6 := (hB).1.2 6 _ rfl
      have q7 := (hB).1.2 7 _ rfl
      have q8 := (hB).1.2 8 _ rfl
      go_wp2_with fail
      refine (H2.out _ bI).mono ?_; rintro e w2 ⟨rfl, hb2⟩
      have hA2 := hA.bel hb2
      have hB2 := hB.bel hb2
      clear q0 q1 q2 q3 q4 q5 q6 q7 q8 hA hB
      have p2 := hA2.1.2 2 _ rfl
      have p3 := hA2.1.2 3 _ rfl
      have p4 := hA2.1.2 4 _ rfl
      have q2 := hB2.1.2 2 _ rfl
      have q3 := hB2.1.2 3 _ rfl
      have q4 := hB2.1.2 4 _ rfl
      clear hA2 hB2
      have e1 : IntKind.i64.wrap (s2 + n2) = s2 + n2 := IntWalk.i64_in _ (by omega)
      have e2 : IntKind.i64.wrap (s1 + n1) = s1 + n1 := IntWalk.i64_in _ (by omega)
      go_wp2
      all_goals
        go_ret
        exact ⟨ret_bool (by rw [HF.out]; rw [Bool.eq_iff_iff]; first | (simp [*]; done) | (simp [*]; omega) | (simp; omega)), bI⟩
set_option maxRecDepth 100000 in
set_option maxHeartbeats 4000000 in
theorem refConflict_any (x y : BM) (w : World) (hx : Mems w x.b x.ms) (hy : Mems w y.b y.ms) :
    Calls Tryz.prog 73 #[.agg #[.int .i64 (x.b).id, .int .i64 (x.b).ten, .int .i64 (x.b).knd, .int .i64 (x.b).sec, .int .i64 (x.b).cnt, .string (x.b).dat, .bool (x.b).fua, .slice (x.b).mA (x.b).mL (x.b).mC, .int .i64 (x.b).tim], .agg #[.int .i64 (y.b).id, .int .i64 (y.b).ten, .int .i64 (y.b).knd, .int .i64 (y.b).sec, .int .i64 (y.b).cnt, .string (y.b).dat, .bool (y.b).fua, .slice (y.b).mA (y.b).mL (y.b).mC, .int .i64 (y.b).tim]] w fun e w' => e = .returned (.bool (confB x y)) ∧ Bel w w' := by
  obtain ⟨V, HV⟩ : ∃ V, Hid (V = confB x y) := ⟨_, rfl⟩
  rw [← HV.out]
  have H1 := Lib.hid (fun w' (h : Bel w w') => refBunch_any x.b x.ms w' (hx.bel h))
  have H2 := Lib.hid (fun w' (h : Bel w w') => refBunch_any y.b y.ms w' (hy.bel h))
  have HR1 := Lib.hid (fun h => validB_range (b := x.b) (ms := x.ms) h)
  have HR2 := Lib.hid (fun h => validB_range (b := y.b) (ms := y.ms) h)
  have hV := HV.out
  unfold confB BM.ok meetB at hV
  obtain ⟨⟨i1, t1, k1, s1, n1, d1, f1, a1, l1, c1, m1⟩, ms1⟩ := x
  obtain ⟨⟨i2, t2, k2, s2, n2, d2, f2, a2, l2, c2, m2⟩, ms2⟩ := y
  clear hx hy HV
  simp only at H1 H2 hV HR1 HR2 ⊢
  generalize validB ⟨i1, t1, k1, s1, n1, d1, f1, a1, l1, c1, m1⟩ ms1 = v1 at *
  generalize validB ⟨i2, t2, k2, s2, n2, d2, f2, a2, l2, c2, m2⟩ ms2 = v2 at *
  cases v1
  · have HF : Hid (V = false) := by show _ = _; rw [hV]; rfl
    clear hV HR1 HR2
    go_enter Tryz.func73, Tryz.ntmps73
    go_wp2_with fail
    refine (H1.out _ bI).mono ?_; rintro e w1 ⟨rfl, hb1⟩
    go_wp2
    go_ret
    exact ⟨ret_bool HF.out.symm, bI⟩
  · cases v2
    · have HF : Hid (V = false) := by show _ = _; rw [hV]; rfl
      clear hV HR1 HR2
      go_enter Tryz.func73, Tryz.ntmps73
      go_wp2_with fail
      refine (H1.out _ bI).mono ?_; rintro e w1 ⟨rfl, hb1⟩
      have hB := (AtF.new (w.alloc (.cells #[.int .i64 i1, .int .i64 t1, .int .i64 k1, .int .i64 s1, .int .i64 n1, .string d1, .bool f1, .slice a1 l1 c1, .int .i64 m1] 44)) 44 [.int .i64 i2, .int .i64 t2, .int .i64 k2, .int .i64 s2, .int .i64 n2, .string d2, .bool f2, .slice a2 l2 c2, .int .i64 m2]).bel hb1
      simp only [World.size_alloc] at hB
      have q0 := (hB).1.2 0 _ rfl
      have q1 := (hB).1.2 1 _ rfl
      have q2 := (hB).1.2 2 _ rfl
      have q3 := (hB).1.2 3 _ rfl
      have q4 := (hB).1.2 4 _ rfl
      have q5 := (hB).1.2 5 _ rfl
      have q6 := (hB).1.2 6 _ rfl
      have q7 := (hB).1.2 7 _ rfl
      have q8 := (hB).1.2 8 _ rfl
      go_wp2_with fail
      refine (H2.out _ bI).mono ?_; rintro e w2 ⟨rfl, hb2⟩
      go_wp2
      go_ret
      exact ⟨ret_bool HF.out.symm, bI⟩
    · obtain ⟨g1, g2, g3, g4⟩ := HR1.out rfl
      obtain ⟨g5, g6, g7, g8⟩ := HR2.out rfl
      have HF : Hid (V = decide ((k1 = 2 ∨ k2 = 2) ∧ s1 < s2 + n2 ∧ s2 < s1 + n1)) := by show _ = _; rw [hV]; rfl
      clear hV HR1 HR2
      go_enter Tryz.func73, Tryz.ntmps73
      go_wp2_with fail
      refine (H1.out _ bI).mono ?_; rintro e w1 ⟨rfl, hb1⟩
      have hA := ((AtF.new w 44 [.int .i64 i1, .int .i64 t1, .int .i64 k1, .int .i64 s1, .int .i64 n1, .string d1, .bool f1, .slice a1 l1 c1, .int .i64 m1]).alloc (.cells #[.int .i64 i2, .int .i64 t2, .int .i64 k2, .int .i64 s2, .int .i64 n2, .string d2, .bool f2, .slice a2 l2 c2, .int .i64 m2] 44)).bel hb1
      have hB := (AtF.new (w.alloc (.cells #[.int .i64 i1, .int .i64 t1, .int .i64 k1, .int .i64 s1, .int .i64 n1, .string d1, .bool f1, .slice a1 l1 c1, .int .i64 m1] 44)) 44 [.int .i64 i2, .int .i64 t2, .int .i64 k2, .int .i64 s2, .int .i64 n2, .string d2, .bool f2, .slice a2 l2 c2, .int .i64 m2]).bel hb1
      simp only [World.size_alloc] at hB
      have q0 := (hB).1.2 0 _ rfl
      have q1 := (hB).1.2 1 _ rfl
      have q2 := (hB).1.2 2 _ rfl
      have q3 := (hB).1.2 3 _ rfl
      have q4 := (hB).1.2 4 _ rfl
      have q5 := (hB).1.2 5 _ rfl
      have q6 := (hB).1.2 6 _ rfl
      have q7 := (hB).1.2 7 _ rfl
      have q8 := (hB).1.2 8 _ rfl
      go_wp2_with fail
      refine (H2.out _ bI).mono ?_; rintro e w2 ⟨rfl, hb2⟩
      have hA2 := hA.bel hb2
      have hB2 := hB.bel hb2
      clear q0 q1 q2 q3 q4 q5 q6 q7 q8 hA hB
      have p2 := hA2.1.2 2 _ rfl
      have p3 := hA2.1.2 3 _ rfl
      have p4 := hA2.1.2 4 _ rfl
      have q2 := hB2.1.2 2 _ rfl
      have q3 := hB2.1.2 3 _ rfl
      have q4 := hB2.1.2 4 _ rfl
      clear hA2 hB2
      have e1 : IntKind.i64.wrap (s2 + n2) = s2 + n2 := IntWalk.i64_in _ (by omega)
      have e2 : IntKind.i64.wrap (s1 + n1) = s1 + n1 := IntWalk.i64_in _ (by omega)
      go_wp2
      all_goals
        go_ret
        exact ⟨ret_bool (by rw [HF.out]; rw [Bool.eq_iff_iff]; first | (simp [*]; done) | (simp [*]; omega) | (simp; omega)), bI⟩
end Go.Proofs.YtpgjbocjhconoaaGreat

/- Lists of entries and of bunches, with their members. -/
namespace Go.Proofs.YtpgjbocjhconoaaGreat
open Go.RowKit Go.Maps

/-- An entry with its members. -/
structure QM where
  q : Qd
  ms : List Mem
def QM.bm (x : QM) : BM := ⟨x.q.b, x.ms⟩
def qmc (L : List QM) : List Value := qcells (L.map QM.q)
theorem qmc_len (L : List QM) : (qmc L).length = L.length * 12 := by simp [qmc, qcells_len]
structure QL (w : World) (v : Value) (L : List QM) : Prop where
  rd : Rd w v 12 L.length (qmc L)
  mem : ∀ x ∈ L, Mems w x.q.b x.ms
theorem QL.bel {w w' : World} {v : Value} {L : List QM} (h : QL w v L) (hb : Bel w w') : QL w' v L := ⟨h.rd.bel hb, fun x hx => (h.mem x hx).bel hb⟩
theorem QL.form {w : World} {v : Value} {L : List QM} (h : QL w v L) : ∃ A c, v = .slice A L.length c ∧ L.length ≤ c ∧ c ≤ maxLen := h.rd.form
/-- What is said of one entry of a slice. -/
structure QAt (w : World) (v : Value) (n : Nat) (k : Nat) (x : QM) (b o c : Nat) : Prop where
  form : v = .slice (some ⟨b, o, none⟩) n c
  lt : b < w.heap.size
  row : InRow w b (o + k * 12) x.q.cells
  mem : Mems w x.q.b x.ms
theorem QL.at {w : World} {v : Value} {L : List QM} {k : Nat} {x : QM} (h : QL w v L) (hk : L[k]? = some x) : ∃ b o c, QAt w v L.length k x b o c := by
  have h0 := (List.getElem?_eq_some_iff.1 hk).1
  obtain ⟨b, o, c, hv, hb, hc⟩ := h.rd.at (by omega)
  exact ⟨b, o, c, hv, hb, row_at (l := L.map QM.q) Qd.cells_len hc (by rw [List.getElem?_map, hk]; rfl), h.mem x (List.mem_of_getElem? hk)⟩
theorem QAt.bel {w w' : World} {v : Value} {n k : Nat} {x : QM} {b o c : Nat} (h : QAt w v n k x b o c) (hb : Bel w w') : QAt w' v n k x b o c :=
  ⟨h.form, Nat.lt_of_lt_of_le h.lt hb.size, h.row.bel hb h.lt, h.mem.bel hb⟩
/-- Two entries of one slice lie in one block. -/
theorem QL.at2 {w : World} {v : Value} {L : List QM} {k j : Nat} {x y : QM} (h : QL w v L) (hk : L[k]? = some x) (hj : L[j]? = some y) : ∃ b o c, QAt w v L.length k x b o c ∧ QAt w v L.length j y b o c := by
  obtain ⟨b, o, c, h1⟩ := h.at hk
  obtain ⟨b', o', c', h2⟩ := h.at hj
  obtain ⟨e1, e2, e3⟩ : b = b' ∧ o = o' ∧ c = c' := by have := h1.form.symm.trans h2.form; simpa [and_assoc] using this
  subst e1 e2 e3
  exact ⟨b, o, c, h1, h2⟩

theorem Bun.cells_len (b : Bun) : b.cells.length = 9 := rfl
def bmc (L : List BM) : List Value := L.flatMap fun x => x.b.cells
theorem bmc_len (L : List BM) : (bmc L).length = L.length * 9 := flat_len (fun x => x.b.cells_len) L
structure BL (w : World) (v : Value) (L : List BM) : Prop where
  rd : Rd w v 9 L.length (bmc L)
  mem : ∀ x ∈ L, Mems w x.b x.ms
theorem BL.bel {w w' : World} {v : Value} {L : List BM} (h : BL w v L) (hb : Bel w w') : BL w' v L := ⟨h.rd.bel hb, fun x hx => (h.mem x hx).bel hb⟩
theorem BL.form {w : World} {v : Value} {L : List BM} (h : BL w v L) : ∃ A c, v = .slice A L.length c ∧ L.length ≤ c ∧ c ≤ maxLen := h.rd.form
theorem BL.nil (w : World) : BL w (.slice none 0 0) [] := ⟨Rd.nil w 9, fun x hx => by cases hx⟩
structure BAt (w : World) (v : Value) (n : Nat) (k : Nat) (x : BM) (b o c : Nat) : Prop where
  form : v = .slice (some ⟨b, o, none⟩) n c
  lt : b < w.heap.size
  row : InRow w b (o + k * 9) x.b.cells
  mem : Mems w x.b x.ms
theorem BL.at {w : World} {v : Value} {L : List BM} {k : Nat} {x : BM} (h : BL w v L) (hk : L[k]? = some x) : ∃ b o c, BAt w v L.length k x b o c := by
  have h0 := (List.getElem?_eq_some_iff.1 hk).1
  obtain ⟨b, o, c, hv, hb, hc⟩ := h.rd.at (by omega)
  exact ⟨b, o, c, hv, hb, row_at (f := fun x : BM => x.b.cells) (fun x => x.b.cells_len) hc hk, h.mem x (List.mem_of_getElem? hk)⟩
theorem BAt.bel {w w' : World} {v : Value} {n k : Nat} {x : BM} {b o c : Nat} (h : BAt w v n k x b o c) (hb : Bel w w') : BAt w' v n k x b o c :=
  ⟨h.form, Nat.lt_of_lt_of_le h.lt hb.size, h.row.bel hb h.lt, h.mem.bel hb⟩

/-- Whether entry k of L has to wait. -/
def blkN (L : List QM) (k : Nat) (B : List BM) : Bool :=
  match L[k]? with
  | none => true
  | some y => (L.take k).any (fun x => confB x.bm y.bm) || B.any fun x => confB x y.bm
def blk (L : List QM) (i : Int) (B : List BM) : Bool := if 0 ≤ i then blkN L i.toNat B else true
end Go.Proofs.YtpgjbocjhconoaaGreat

/- A row of bunches of the call's own: one of its bunches is stored over; copies.Bunch. -/
namespace Go.Proofs.YtpgjbocjhconoaaGreat
open Go.RowKit Go.Maps
set_option linter.unusedSimpArgs false

/-- The cells vs laid over a list from place i on. -/
def setL : List Value → Nat → List Value → List Value
  | xs, _, [] => xs
  | xs, i, v :: vs => setL (xs.set i v) (i + 1) vs
theorem setL_mid : ∀ (vs mid pre post : List Value), mid.length = vs.length → setL (pre ++ (mid ++ post)) pre.length vs = pre ++ (vs ++ post)
  | [], mid, pre, post, h => by
    obtain rfl : mid = [] := List.length_eq_zero_iff.1 (by simpa using h)
    rfl
  | v :: vs, [], pre, post, h => by simp at h
  | v :: vs, m :: mid, pre, post, h => by
    have e : (pre ++ (m :: mid ++ post)).set pre.length v = (pre ++ [v]) ++ (mid ++ post) := by
      rw [List.set_append_right _ _ (Nat.le_refl _), Nat.sub_self]
      simp
    have ih := setL_mid vs mid (pre ++ [v]) post (by simpa using h)
    unfold setL
    rw [e, show pre.length + 1 = (pre ++ [v]).length by simp, ih]
    simp
theorem own_setRow {base : Nat} {e : TypeId} {size g n cap : Nat} : ∀ (vs : List Value) {xs : List Value} {w : World} {i : Nat}, w.ownsRow base e size (.slice (some ⟨g, 0, none⟩) n cap) n xs → (setRow w g i vs).ownsRow base e size (.slice (some ⟨g, 0, none⟩) n cap) n (setL xs i vs)
  | [], _, _, _, h => h
  | v :: vs, _, _, i, h => own_setRow vs (h.stored i v).1
/-- A row of bunches of the call's own, whose members lie outside of it. -/
structure BO (w : World) (base : Nat) (v : Value) (L : List BM) : Prop where
  own : w.ownsRow base 44 9 v L.length (bmc L)
  mem : ∀ x ∈ L, Mems w x.b x.ms
  sep : ∀ x ∈ L, 0 < x.ms.length → ∀ k, (Value.slice x.b.mA x.b.mL x.b.mC).ownBlock = some k → v.ownBlock ≠ some k
theorem Rd.empty {w : World} {v : Value} {size n : Nat} {xs : List Value} (h : Rd w v size n xs) (hn : ¬ 0 < n) (w' : World) : Rd w' v size n xs := by
  obtain ⟨h1, A, c, hv, h2, h3, _⟩ := h
  exact ⟨h1, A, c, hv, h2, h3, fun h => absurd h hn⟩
theorem BO.bl {w : World} {base : Nat} {v : Value} {L : List BM} (h : BO w base v L) : BL w v L := ⟨Rd.own h.own, h.mem⟩
set_option maxRecDepth 100000 in
set_option maxHeartbeats 4000000 in
theorem copyBunch_any (u : Bu) (A : Option Addr) (c : Nat) (w : World) (hx : Mems w (u.at A c) u.ms) (hn : u.ms.length ≤ 1000) :
    Calls Tryz.prog 26 #[.agg #[.int .i64 ((Bu.at u A c)).id, .int .i64 ((Bu.at u A c)).ten, .int .i64 ((Bu.at u A c)).knd, .int .i64 ((Bu.at u A c)).sec, .int .i64 ((Bu.at u A c)).cnt, .string ((Bu.at u A c)).dat, .bool ((Bu.at u A c)).fua, .slice ((Bu.at u A c)).mA ((Bu.at u A c)).mL ((Bu.at u A c)).mC, .int .i64 ((Bu.at u A c)).tim]] w fun e w' => ∃ A' c', e = .returned (.agg #[.int .i64 ((Bu.at u A' c')).id, .int .i64 ((Bu.at u A' c')).ten, .int .i64 ((Bu.at u A' c')).knd, .int .i64 ((Bu.at u A' c')).sec, .int .i64 ((Bu.at u A' c')).cnt, .string ((Bu.at u A' c')).dat, .bool ((Bu.at u A' c')).fua, .slice ((Bu.at u A' c')).mA ((Bu.at u A' c')).mL ((Bu.at u A' c')).mC, .int .i64 ((Bu.at u A' c')).tim]) ∧ Zb w' w.heap.size u A' c' ∧ Bel w w' := by
  have HC := Lib.hid (fun w' (h : Bel w w') => cloneMem_any _ _ _ w' (hx.rd.bel h) (flat_one (f := Mem.cells) (fun m v hv => by simp [Mem.cells] at hv; rcases hv with rfl | rfl | rfl <;> rfl) u.ms) hn)
  have HM := Lib.hid (And.intro hx.ids hx.dl)
  obtain ⟨i1, t1, k1, s1, n1, d1, f1, ms, m1⟩ := u
  simp only [Bu.at] at HC HM ⊢
  obtain ⟨n, Hn⟩ : ∃ n, Hid (n = ms.length) := ⟨_, rfl⟩
  rw [← Hn.out] at HC ⊢
  clear hx hn
  have hA := (AtF.new_at (w := w) rfl 44 [.int .i64 i1, .int .i64 t1, .int .i64 k1, .int .i64 s1, .int .i64 n1, .string d1, .bool f1, .slice A n c, .int .i64 m1]).alloc (.cells [.int .i64 0, .int .i64 0, .int .i64 0, .int .i64 0, .int .i64 0, .string ⟨#[]⟩, .bool false, .slice none 0 0, .int .i64 0].toArray 44)
  have hR := AtF.new_at (w := w.alloc (.cells [.int .i64 i1, .int .i64 t1, .int .i64 k1, .int .i64 s1, .int .i64 n1, .string d1, .bool f1, .slice A n c, .int .i64 m1].toArray 44)) (g := w.heap.size + 1) (by simp) 44 [.int .i64 0, .int .i64 0, .int .i64 0, .int .i64 0, .int .i64 0, .string ⟨#[]⟩, .bool false, .slice none 0 0, .int .i64 0]
  have hbw : Bel w ((w.alloc (.cells [.int .i64 i1, .int .i64 t1, .int .i64 k1, .int .i64 s1, .int .i64 n1, .string d1, .bool f1, .slice A n c, .int .i64 m1].toArray 44)).alloc (.cells [.int .i64 0, .int .i64 0, .int .i64 0, .int .i64 0, .int .i64 0, .string ⟨#[]⟩, .bool false, .slice none 0 0, .int .i64 0].toArray 44)) := bI
  simp only [List.toArray] at hA hR hbw
  go_enter Tryz.func26, Tryz.ntmps26
  go_wp2_with fail
  refine (HC.out _ hbw).mono ?_; rintro e w1 ⟨v', rfl, hown, hb1⟩
  obtain ⟨A', c', rfl⟩ := own_slice hown
  simp only [World.size_alloc] at hown
  replace hA := hA.bel hb1
  replace hR := hR.bel hb1
  replace hbw := hbw.trans hb1
  have p0 := (hA).1.2 0 _ rfl
  have p1 := (hA).1.2 1 _ rfl
  have p2 := (hA).1.2 2 _ rfl
  have p3 := (hA).1.2 3 _ rfl
  have p4 := (hA).1.2 4 _ rfl
  have p5 := (hA).1.2 5 _ rfl
  have p6 := (hA).1.2 6 _ rfl
  have p7 := (hA).1.2 7 _ rfl
  have p8 := (hA).1.2 8 _ rfl
  have r0 := (hR).1.2 0 _ rfl
  have r1 := (hR).1.2 1 _ rfl
  have r2 := (hR).1.2 2 _ rfl
  have r3 := (hR).1.2 3 _ rfl
  have r4 := (hR).1.2 4 _ rfl
  have r5 := (hR).1.2 5 _ rfl
  have r6 := (hR).1.2 6 _ rfl
  have r7 := (hR).1.2 7 _ rfl
  have r8 := (hR).1.2 8 _ rfl
  have pf := hA.2
  have pl := hA.1.1
  have rf := hR.2
  have rl := hR.1.1
  have hR2 := (hR.other (C := w.heap.size) (by omega) 7 (.slice A' n c')).setRow [.int .i64 i1, .int .i64 t1, .int .i64 k1, .int .i64 s1, .int .i64 n1, .string d1, .bool f1, .slice A' n c', .int .i64 m1] rfl
  have hO := setRow_own (B := w.heap.size + 1) (i := 0) [.int .i64 i1, .int .i64 t1, .int .i64 k1, .int .i64 s1, .int .i64 n1, .string d1, .bool f1, .slice A' n c', .int .i64 m1] (own_far hown (p := ⟨w.heap.size, 7, none⟩) (own_ne hown (.inl (by show w.heap.size < _; omega))) (.slice A' n c')) (own_ne hown (.inl (by omega)))
  have hbz := Bel.setRow (B := w.heap.size + 1) (i := 0) [.int .i64 i1, .int .i64 t1, .int .i64 k1, .int .i64 s1, .int .i64 n1, .string d1, .bool f1, .slice A' n c', .int .i64 m1] (hbw.setNew (p := ⟨w.heap.size, 7, none⟩) (Nat.le_refl _) (.slice A' n c')) (by omega)
  have HZ : Hid (Zb (setRow (w1.setCell ⟨w.heap.size, 7, none⟩ (.slice A' n c')) (w.heap.size + 1) 0 [.int .i64 i1, .int .i64 t1, .int .i64 k1, .int .i64 s1, .int .i64 n1, .string d1, .bool f1, .slice A' n c', .int .i64 m1]) w.heap.size ⟨i1, t1, k1, s1, n1, d1, f1, ms, m1⟩ A' c') := Lib.hid ⟨⟨rfl, by show Rd _ (.slice A' ms.length c') 3 ms.length (mcells ms); rw [← Hn.out]; exact Rd.own hO, HM.out.1, HM.out.2⟩, fun k hk => by rw [← Hn.out] at hk; have := (hO.lt k hk).1; omega⟩
  clear hO
  go_wp2
  clear r0 r1 r2 r3 r4 r5 r6 r7 r8
  have r0 := (hR2).1.2 0 _ rfl
  have r1 := (hR2).1.2 1 _ rfl
  have r2 := (hR2).1.2 2 _ rfl
  have r3 := (hR2).1.2 3 _ rfl
  have r4 := (hR2).1.2 4 _ rfl
  have r5 := (hR2).1.2 5 _ rfl
  have r6 := (hR2).1.2 6 _ rfl
  have r7 := (hR2).1.2 7 _ rfl
  have r8 := (hR2).1.2 8 _ rfl
  exact bodyPost_ret (v := .agg #[.int .i64 i1, .int .i64 t1, .int .i64 k1, .int .i64 s1, .int .i64 n1, .string d1, .bool f1, .slice A' n c', .int .i64 m1]) (by simp only [setRow] at r0 r1 r2 r3 r4 r5 r6 r7 r8; simp [results, Tryz.results26, go_sem, r0, r1, r2, r3, r4, r5, r6, r7, r8]) rfl ⟨A', c', rfl, HZ.out, hbz⟩
end Go.Proofs.YtpgjbocjhconoaaGreat

/- copies.Each over bunches, copies.Plug. -/
namespace Go.Proofs.YtpgjbocjhconoaaGreat
open Go.RowKit Go.Maps
set_option linter.unusedSimpArgs false

theorem Tryz.infoBunchP : (Tryz.prog.info? 44).map (fun i => (i.zero, i.size, i.bytes)) = some (some (.agg #[.int .i64 0, .int .i64 0, .int .i64 0, .int .i64 0, .int .i64 0, .string ⟨#[]⟩, .bool false, .slice none 0 0, .int .i64 0]), 9, 96) := by kernel_rfl
theorem bcells_oneP (b : Bun) : ∀ u ∈ b.cells, u.oneCell' = true := fun u hu => by
  simp only [Bun.cells, List.mem_cons, List.not_mem_nil, or_false] at hu
  rcases hu with rfl | rfl | rfl | rfl | rfl | rfl | rfl | rfl | rfl <;> rfl
/-- The first i have their members above base. -/
def Frh (base : Nat) (L : List BM) (i : Nat) : Prop := ∀ j x, j < i → L[j]? = some x → 0 < x.ms.length → ∀ k, (Value.slice x.b.mA x.b.mL x.b.mC).ownBlock = some k → base ≤ k
/-- A row of bunches, it and its members of the call's own. -/
structure BN (w : World) (base : Nat) (v : Value) (L : List BM) : Prop where
  bo : BO w base v L
  fr : Frh base L L.length
end Go.Proofs.YtpgjbocjhconoaaGreat

/- A row of entries, it and its members of the call's own; copies.queued, copies.Each over entries. -/
namespace Go.Proofs.YtpgjbocjhconoaaGreat
open Go.RowKit Go.Maps
set_option linter.unusedSimpArgs false

/-- What an entry is, wherever its members lie. -/
structure Qu where
  u : Bu
  due : Int
  sta : Int
  tri : Int
def QM.qu (x : QM) : Qu := ⟨x.bm.bu, x.q.due, x.q.sta, x.q.tri⟩
theorem qmc_set {L : List QM} {k : Nat} {x y : QM} (h : L[k]? = some x) : setL (qmc L) (k * 12) y.q.cells = qmc (L.set k y) := by
  obtain ⟨hk, hx⟩ := List.getElem?_eq_some_iff.1 h
  have e1 : L = L.take k ++ (x :: L.drop (k + 1)) := by
    rw [← hx, ← List.drop_eq_getElem_cons hk, List.take_append_drop]
  have e2 : L.set k y = L.take k ++ (y :: L.drop (k + 1)) := by
    rw [List.set_eq_take_append_cons_drop, if_pos hk]
  have e3 : qmc L = qmc (L.take k) ++ (x.q.cells ++ qmc (L.drop (k + 1))) := by
    conv => lhs; rw [e1]
    simp [qmc, qcells]
  have e4 : qmc (L.set k y) = qmc (L.take k) ++ (y.q.cells ++ qmc (L.drop (k + 1))) := by rw [e2]; simp [qmc, qcells]
  have hl : (qmc (L.take k)).length = k * 12 := by rw [qmc_len, List.length_take, Nat.min_eq_left (by omega)]
  rw [e3, e4, ← hl]
  exact setL_mid y.q.cells x.q.cells _ _ rfl

/-- A row of bunches of the call's own, whose members lie outside of it. -/
structure QO (w : World) (base : Nat) (v : Value) (L : List QM) : Prop where
  own : w.ownsRow base 67 12 v L.length (qmc L)
  mem : ∀ x ∈ L, Mems w x.q.b x.ms
  sep : ∀ x ∈ L, 0 < x.ms.length → ∀ k, (Value.slice x.q.b.mA x.q.b.mL x.q.b.mC).ownBlock = some k → v.ownBlock ≠ some k
theorem QO.ql {w : World} {base : Nat} {v : Value} {L : List QM} (h : QO w base v L) : QL w v L := ⟨Rd.own h.own, h.mem⟩
theorem QO.keep {w w' : World} {base : Nat} {v : Value} {L : List QM} (h : QO w base v L) (hb : Bel w w') : QO w' base v L := ⟨own_keep h.own hb, fun x hx => (h.mem x hx).bel hb, h.sep⟩
theorem QO.nil (w : World) (base : Nat) : QO w base (.slice none 0 0) [] := ⟨⟨rfl, Or.inl ⟨rfl, rfl⟩⟩, (fun x hx => by cases hx), (fun x hx => by cases hx)⟩
/-- Element k stored over. -/
theorem QO.set {w : World} {base g cap : Nat} {L : List QM} {k : Nat} {x y : QM} (h : QO w base (.slice (some ⟨g, 0, none⟩) L.length cap) L) (hk : L[k]? = some x) (hy : Mems w y.q.b y.ms) (hs : 0 < y.ms.length → ∀ q, (Value.slice y.q.b.mA y.q.b.mL y.q.b.mC).ownBlock = some q → q ≠ g) :
    QO (setRow w g (k * 12) y.q.cells) base (.slice (some ⟨g, 0, none⟩) (L.set k y).length cap) (L.set k y) := by
  have h1 := own_setRow y.q.cells (i := k * 12) h.own
  rw [qmc_set hk] at h1
  have hm : ∀ z ∈ L.set k y, (Mems w z.q.b z.ms) ∧ (0 < z.ms.length → ∀ q, (Value.slice z.q.b.mA z.q.b.mL z.q.b.mC).ownBlock = some q → q ≠ g) := by
    intro z hz
    rcases List.mem_or_eq_of_mem_set hz with hz | rfl
    · exact ⟨h.mem z hz, fun h0 q hq e => h.sep z hz h0 q hq (by rw [e]; rfl)⟩
    · exact ⟨hy, hs⟩
  refine ⟨by rw [List.length_set]; exact h1, fun z hz => ?_, fun z hz h0 q hq e => ?_⟩
  · obtain ⟨g1, g2⟩ := hm z hz
    refine ⟨g1.len, ?_, g1.ids, g1.dl⟩
    by_cases h0 : 0 < z.ms.length
    · exact g1.rd.setRow _ (fun e => g2 h0 _ e rfl)
    · exact g1.rd.empty h0 _
  · have : some g = some q := e
    exact (hm z hz).2 h0 q hq (by injection this with h; exact h.symm)

/-- The list L', of which the first i are copies of L's, and the others L's own. -/
structure CpQ (L L' : List QM) : Prop where
  len : L'.length = L.length
  bu : L'.map QM.qu = L.map QM.qu
theorem CpQ.refl (L : List QM) : CpQ L L := ⟨rfl, rfl⟩
theorem CpQ.set {L L' : List QM} (h : CpQ L L') {k : Nat} {x y : QM} (hx : L'[k]? = some x) (hy : y.qu = x.qu) : CpQ L (L'.set k y) := by
  refine ⟨by rw [List.length_set]; exact h.len, ?_⟩
  rw [List.map_set, hy, ← h.bu]
  obtain ⟨h1, rfl⟩ := List.getElem?_eq_some_iff.1 hx
  apply List.ext_getElem?
  intro i
  rw [List.getElem?_set]
  split
  · rename_i e; subst e
    rw [List.length_map]
    split
    · rw [List.getElem?_map, List.getElem?_eq_getElem h1]; rfl
    · rename_i hn; exact absurd h1 hn
  · rfl
/-- The first i have their members above base. -/
def FrhQ (base : Nat) (L : List QM) (i : Nat) : Prop := ∀ j x, j < i → L[j]? = some x → 0 < x.ms.length → ∀ k, (Value.slice x.q.b.mA x.q.b.mL x.q.b.mC).ownBlock = some k → base ≤ k
theorem FrhQ.set {base : Nat} {L : List QM} {i : Nat} {y : QM} (h : FrhQ base L i) (hy : ∀ k, (Value.slice y.q.b.mA y.q.b.mL y.q.b.mC).ownBlock = some k → base ≤ k) : FrhQ base (L.set i y) (i + 1) := by
  intro j x hj hx h0 k hk
  rw [List.getElem?_set] at hx
  split at hx
  · split at hx
    · cases hx; exact hy k hk
    · cases hx
  · exact h j x (by omega) hx h0 k hk
/-- A row of bunches, it and its members of the call's own. -/
structure QN (w : World) (base : Nat) (v : Value) (L : List QM) : Prop where
  bo : QO w base v L
  fr : FrhQ base L L.length
theorem QN.keep {w w' : World} {base : Nat} {v : Value} {L : List QM} (h : QN w base v L) (hb : Bel w w') : QN w' base v L := ⟨h.bo.keep hb, h.fr⟩
theorem QN.mono {w : World} {base base' : Nat} {v : Value} {L : List QM} (h : QN w base v L) (hb : base' ≤ base) : QN w base' v L :=
  ⟨⟨own_mono h.bo.own hb, h.bo.mem, h.bo.sep⟩, fun j x hj hx h0 k hk => Nat.le_trans hb (h.fr j x hj hx h0 k hk)⟩
theorem QN.far {w : World} {base : Nat} {v : Value} {L : List QM} (h : QN w base v L) {p : Addr} (hp : p.block < base) (u : Value) : QN (w.setCell p u) base v L := by
  refine ⟨⟨own_far h.bo.own (fun e => ?_) u, fun x hx => ?_, h.bo.sep⟩, h.fr⟩
  · have := (h.bo.own.lt _ e).1; omega
  · have hm := h.bo.mem x hx
    refine ⟨hm.len, ?_, hm.ids, hm.dl⟩
    by_cases h0 : 0 < x.ms.length
    · obtain ⟨j, hj⟩ := List.getElem?_of_mem hx
      exact hm.rd.far (fun e => by have := h.fr j x (List.getElem?_eq_some_iff.1 hj).1 hj h0 _ e; omega) u
    · exact hm.rd.empty h0 _
theorem qmc_snoc (L : List QM) (x : QM) : qmc (L ++ [x]) = qmc L ++ x.q.cells := by simp [qmc, qcells]
/-- Behind an append of one bunch. -/
theorem QN.snoc {w1 w3 : World} {base wz : Nat} {v v' : Value} {L : List QM} {x : QM} {o : Obj} (h : QN w1 base v L) (hm : Mems w1 x.q.b x.ms) (hx : ∀ k, (Value.slice x.q.b.mA x.q.b.mL x.q.b.mC).ownBlock = some k → wz ≤ k) (hb : base ≤ wz) (hv : ∀ k, v.ownBlock = some k → k < wz)
    (hown : w3.ownsRow base 67 12 v' (L.length + 1) (qmc L ++ x.q.cells)) (hg : (w1.alloc o).grownBy w3 v.ownBlock) (hl : v'.ownBlock = v.ownBlock ∨ v'.ownBlock = some (w1.alloc o).heap.size) : QN w3 base v' (L ++ [x]) := by
  have key : ∀ y : QM, Mems w1 y.q.b y.ms → (0 < y.ms.length → ∀ k, (Value.slice y.q.b.mA y.q.b.mL y.q.b.mC).ownBlock = some k → v.ownBlock ≠ some k) → Mems w3 y.q.b y.ms ∧ (0 < y.ms.length → ∀ k, (Value.slice y.q.b.mA y.q.b.mL y.q.b.mC).ownBlock = some k → v'.ownBlock ≠ some k) := by
    intro y hy hs
    refine ⟨⟨hy.len, ?_, hy.ids, hy.dl⟩, fun h0 k hk => ?_⟩
    · by_cases h0 : 0 < y.ms.length
      · exact (hy.rd.alloc _).grown hg (fun b hb' => hs h0 b hb')
      · exact hy.rd.empty h0 _
    · rcases hl with e | e
      · rw [e]; exact hs h0 k hk
      · rw [e]
        intro e2
        have h3 := hy.rd.own_lt h0 (k := k) hk
        simp at e2; omega
  have all : ∀ y ∈ L ++ [x], Mems w3 y.q.b y.ms ∧ (0 < y.ms.length → ∀ k, (Value.slice y.q.b.mA y.q.b.mL y.q.b.mC).ownBlock = some k → v'.ownBlock ≠ some k) := by
    intro y hy
    rw [List.mem_append, List.mem_singleton] at hy
    rcases hy with hy | rfl
    · exact key y (h.bo.mem y hy) (h.bo.sep y hy)
    · exact key y hm (fun _ k hk e => by have h1 := hx k hk; have h2 := hv k e; omega)
  refine ⟨⟨by rw [List.length_append, qmc_snoc]; exact hown, fun y hy => (all y hy).1, fun y hy => (all y hy).2⟩, fun j y hj hy h0 k hk => ?_⟩
  rw [List.getElem?_append] at hy
  split at hy
  · rename_i hlt; exact h.fr j y hlt hy h0 k hk
  · have : y = x := by
      have := List.mem_of_getElem? hy
      simpa using this
    subst this
    exact Nat.le_trans hb (hx k hk)
end Go.Proofs.YtpgjbocjhconoaaGreat

/- dock.Limits; both Fits are the same. -/
namespace Go.Proofs.YtpgjbocjhconoaaGreat
open Go.RowKit
set_option linter.unusedSimpArgs false

theorem ediv_shift {B s c : Int} (hB : 0 < B) : (s / B = (s + c - 1) / B) ↔ (0 ≤ s % B + c - 1 ∧ s % B + c - 1 < B) := by
  have h1 := Int.mul_ediv_add_emod s B
  have h2 := Int.emod_nonneg s (show B ≠ 0 by omega)
  have h3 := Int.emod_lt_of_pos s hB
  have h4 : s + c - 1 = (s % B + c - 1) + B * (s / B) := by omega
  rw [h4, Int.add_mul_ediv_left _ _ (show B ≠ 0 by omega)]
  constructor
  · intro h
    have h5 : (s % B + c - 1) / B = 0 := by omega
    have h6 := Int.mul_ediv_add_emod (s % B + c - 1) B
    have h7 := Int.emod_nonneg (s % B + c - 1) (show B ≠ 0 by omega)
    have h8 := Int.emod_lt_of_pos (s % B + c - 1) hB
    rw [h5] at h6
    omega
  · rintro ⟨h5, h6⟩
    rw [Int.ediv_eq_zero_of_lt h5 h6]
    omega

theorem rfits_eq (M B s c : Int) : rfits M B s c = fits M B s c := by
  unfold rfits fits
  cases h : limOk M B
  · simp
  · obtain ⟨a1, a2, a3, a4⟩ : 1 ≤ M ∧ M ≤ 128 ∧ 0 ≤ B ∧ B ≤ 128 := by simpa [limOk] using h
    rw [Bool.eq_iff_iff]
    simp only [Bool.true_and, Bool.and_eq_true, decide_eq_true_eq]
    unfold room
    by_cases h0 : B = 0
    · simp [h0]
    · rw [if_neg h0, ediv_shift (by omega)]
      have h2 := Int.emod_nonneg s h0
      have h3 := Int.emod_lt_of_pos s (show 0 < B by omega)
      simp only [h0, false_or]
      omega

def bound (n : Int) : Int := [0, 0, 2, 4, 8].getD (rnd (n / 16) 5).toNat 0

set_option maxHeartbeats 1000000 in
theorem limits_any (n : Int) (w : World) :
    Calls Tryz.prog 6 #[.int .i64 n] w fun e w' => e = .returned (.agg #[.int .i64 (1 + rnd n 6), .int .i64 (bound n)]) ∧ Bel w w' := by
  have l1 := rnd_lo n 6
  have l2 := rnd_hi n 6 (by omega)
  have l3 := rnd_lo (n / 16) 5
  have l4 := rnd_hi (n / 16) 5 (by omega)
  have h5 : rnd (n / 16) 5 = 0 ∨ rnd (n / 16) 5 = 1 ∨ rnd (n / 16) 5 = 2 ∨ rnd (n / 16) 5 = 3 ∨ rnd (n / 16) 5 = 4 := by omega
  clear l3 l4
  rcases h5 with h5 | h5 | h5 | h5 | h5
  all_goals
    have HR := Lib.hid h5
    clear h5
    go_enter Tryz.func6, Tryz.ntmps6
    go_wp2_with fail
    refine (round_any _ _ _ (by omega)).mono ?_; rintro e w1 ⟨rfl, rfl⟩
    go_wp2_with fail
    refine (round_any _ _ _ (by omega)).mono ?_; rw [HR.out]; rintro e w1 ⟨rfl, rfl⟩
    go_wp2
    exact bodyPost_ret (v := .agg #[.int .i64 (1 + rnd n 6), .int .i64 (bound n)]) (by simp [results, Tryz.results6, go_sem, bound, HR.out]) rfl ⟨rfl, bI⟩
end Go.Proofs.YtpgjbocjhconoaaGreat
