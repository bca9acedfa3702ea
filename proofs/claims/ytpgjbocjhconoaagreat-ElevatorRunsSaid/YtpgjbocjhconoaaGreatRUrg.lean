/- The reference's Urgent. -/
import Derived.Test.YtpgjbocjhconoaaGreatRBlk
import Derived.Test.YtpgjbocjhconoaaGreatK6
import Derived.Test.YtpgjbocjhconoaaGreatK1
import Derived.Laws.OwnMore
namespace Go.Proofs.YtpgjbocjhconoaaGreat
open Go.RowKit Go.Maps
set_option linter.unusedSimpArgs false

theorem Tryz.infoBoolU : (Tryz.prog.info? 4).map (fun i => (i.zero, i.size, i.bytes)) = some (some (.bool false), 1, 1) := by kernel_rfl
/-- Which entries wait, behind d steps. -/
def wsL (L : List QM) (i n d : Nat) : List Bool := (List.range n).map fun j => (chn L i d).contains j
theorem wsL_len (L : List QM) (i n d : Nat) : (wsL L i n d).length = n := by simp [wsL]
theorem wsL_at {L : List QM} {i n d j : Nat} (h : j < n) : (wsL L i n d)[j]? = some ((chn L i d).contains j) := by simp [wsL, h]
def wsF (L : List QM) (i d j : Nat) : Bool := (List.range j).any fun t => (chn L i d).contains t && confAt L t (i + 1 + d)
theorem wsF_succ (L : List QM) (i d j : Nat) : wsF L i d (j + 1) = (wsF L i d j || ((chn L i d).contains j && confAt L j (i + 1 + d))) := by
  unfold wsF
  rw [List.range_succ, List.any_append]
  simp
theorem wsF_low (L : List QM) (i d : Nat) : wsF L i d i = false := by
  unfold wsF
  rw [List.any_eq_false]
  intro t ht
  rw [List.mem_range] at ht
  have : (chn L i d).contains t = false := by
    rw [← Bool.not_eq_true, List.contains_iff_mem]
    intro hm
    have := chn_bd L i d t hm
    omega
  rw [this]; simp
theorem wsF_all (L : List QM) (i d : Nat) : wsF L i d (i + 1 + d) = (chn L i d).any fun t => confAt L t (i + 1 + d) := by
  rw [Bool.eq_iff_iff]
  unfold wsF
  simp only [List.any_eq_true, List.mem_range, Bool.and_eq_true, List.contains_iff_mem]
  constructor
  · rintro ⟨t, _, h1, h2⟩; exact ⟨t, h1, h2⟩
  · rintro ⟨t, h1, h2⟩; exact ⟨t, (chn_bd L i d t h1).2, h1, h2⟩
theorem wsL_step (L : List QM) (i n d : Nat) : wsL L i n (d + 1) = if wsF L i d (i + 1 + d) then (wsL L i n d).set (i + 1 + d) true else wsL L i n d := by
  rw [wsF_all]
  apply List.ext_getElem?
  intro j
  by_cases hj : j < n
  · rw [wsL_at hj]
    by_cases ha : (chn L i d).any (fun t => confAt L t (i + 1 + d)) = true
    · rw [if_pos ha, chn, if_pos ha]
      by_cases e : i + 1 + d = j
      · subst e
        rw [List.getElem?_set_self (by rw [wsL_len]; exact hj)]
        simp
      · rw [List.getElem?_set_ne e, wsL_at hj]
        congr 1
        rw [Bool.eq_iff_iff, List.contains_iff_mem, List.contains_iff_mem, List.mem_append, List.mem_singleton]
        constructor
        · rintro (h1 | h1)
          · exact h1
          · exact absurd h1.symm e
        · exact .inl
    · rw [if_neg ha, wsL_at hj, chn, if_neg ha]
  · have h1 : (wsL L i n (d + 1))[j]? = none := List.getElem?_eq_none (by rw [wsL_len]; omega)
    rw [h1]
    symm
    split
    · exact List.getElem?_eq_none (by rw [List.length_set, wsL_len]; omega)
    · exact List.getElem?_eq_none (by rw [wsL_len]; omega)
theorem wsL_zero (L : List QM) (i n : Nat) : wsL L i n 0 = (List.replicate n false).set i true := by
  apply List.ext_getElem?
  intro j
  by_cases hj : j < n
  · rw [wsL_at hj]
    by_cases e : i = j
    · subst e
      rw [List.getElem?_set_self (by simpa using hj)]
      simp [chn]
    · rw [List.getElem?_set_ne e, List.getElem?_replicate, if_pos hj]
      simp [chn]; omega
  · rw [List.getElem?_eq_none (by rw [wsL_len]; omega), List.getElem?_eq_none (by simp; omega)]
theorem bcells_setU (l : List Bool) (k : Nat) (b : Bool) : bcells (l.set k b) = (bcells l).set k (.bool b) := by simp [bcells, List.map_set]

set_option maxRecDepth 100000 in
set_option maxHeartbeats 8000000 in
theorem refUrgent_any (L : List QM) (i : Int) (v : Value) (w : World) (hv : QL w v L) (hL : L.length ≤ 1000) :
    Calls Tryz.prog 83 #[v, .int .i64 i] w fun e w' => e = .returned (.int .i64 (urg L i)) ∧ Bel w w' := by
  obtain ⟨i0, hi0, hz0, hz1, hz2⟩ := info_parts Tryz.infoBoolU
  obtain ⟨A, c, rfl, hc1, hc2⟩ := hv.form
  obtain ⟨n, Hn⟩ : ∃ n, Hid (n = L.length) := ⟨_, rfl⟩
  obtain ⟨V, HV⟩ : ∃ V, Hid (V = urg L i) := ⟨_, rfl⟩
  rw [← HV.out]
  rw [← Hn.out] at hc1 hL ⊢
  unfold maxLen at hc2
  by_cases hi : 0 ≤ i ∧ i < (n : Int)
  · obtain ⟨k, rfl⟩ : ∃ k : Nat, i = (k : Int) := ⟨i.toNat, by omega⟩
    have hkn : k < n := by omega
    have hkn2 : (k : Int) < (n : Int) := by omega
    obtain ⟨y, hy⟩ : ∃ y, L[k]? = some y := ⟨L[k]'(by have := Hn.out; omega), List.getElem?_eq_getElem _⟩
    have HVk : Hid (V = lst L k (n - (k + 1))) := by
      show _ = _
      rw [HV.out, urg, if_pos (by have := Hn.out; omega), Int.toNat_natCast, urgN, Hn.out]
    have HAT := Lib.hid (fun j m x z (hj : L[j]? = some x) (hm : L[m]? = some z) => hv.at2 hj hm)
    have HDU : Hid (y.q.due = lst L k 0) := by show _ = _; rw [lst, dueAt, hy]
    obtain ⟨b, o, c9, hY⟩ := hv.at hy
    rw [← Hn.out] at HAT hY
    have hf := hY.form
    simp only [Value.slice.injEq] at hf
    obtain ⟨rfl, _, rfl⟩ := hf
    obtain ⟨wm, hmk, hown, hgr⟩ := run_makeSlice_full (P := Tryz.prog) (w := w) w.heap.size 77 4 i0 (.bool false) 1 Tryz.underlying77 hi0 hz0 hz1 .i64 .i64 n (by omega) (by rw [hz2]; omega) (by unfold maxLen; omega) (Nat.le_refl _)
    have hbm : Bel w wm := Below.grown (Below.refl _ w) hgr (Nat.le_refl _) (fun _ h => by cases h)
    have hY := hY.bel hbm
    have p9 := hY.row.cell 9 rfl
    have hwB : w.heap.size < wm.heap.size := (hown.lt w.heap.size rfl).2
    rw [show (madeCells (Value.bool false).cells (n * 1)).toList = bcells (List.replicate n false) from by rw [Nat.mul_one]; show (madeCells #[Value.bool false] n).toList = _; rw [toList_madeCells_one]; simp [bcells]] at hown
    have cw := hown.cellAt k (by omega)
    rw [bcells_at (b := false) (by simp [hkn])] at cw
    have cf := hown.frozenAt k
    have hst := (hown.stored k (.bool true)).1
    rw [← bcells_setU, ← wsL_zero L k n] at hst
    have HST := Lib.hid hst
    have hbl : b ≠ w.heap.size := by
      obtain ⟨b9, o9, c99, hX, _⟩ := HAT.out k k y y hy hy
      have hf := hX.form
      simp only [Value.slice.injEq, Option.some.injEq, Addr.mk.injEq] at hf
      have := hX.lt
      omega
    clear hi HV hv hY hy hgr hst hown
    go_enter Tryz.func83, Tryz.ntmps83
    go_wp2
    clear hmk p9 cw cf
    have hb0 : Bel w (wm.setCell ⟨w.heap.size, k, none⟩ (.bool true)) := hbm.setNew (Nat.le_refl _) _
    generalize wm.setCell ⟨w.heap.size, k, none⟩ (.bool true) = W0 at *
    clear hbm hwB
    obtain ⟨ws0, Hws0⟩ : ∃ ws, Hid (ws = wsL L k n 0) := ⟨_, rfl⟩
    have HST2 := HST.out
    rw [← Hws0.out] at HST2
    clear HST
    go_loopw [6, 7] (fun lv xv wr => ∃ (x : Nat) (z : Int) (ws : List Bool), xv = .int .i64 x ∧ k < x ∧ x ≤ n ∧ lv = .int .i64 z ∧ Hid (z = lst L k (x - (k + 1))) ∧ Hid (ws = wsL L k n (x - (k + 1))) ∧ wr.ownsRow w.heap.size 4 1 (.slice (some ⟨w.heap.size, 0, none⟩) n n) n (bcells ws) ∧ Bel w wr) (fun _ xv _ => n - (intOf xv).toNat)
    case atStart => exact ⟨k + 1, y.q.due, ws0, by go_num, by omega, by omega, rfl, by rw [Nat.sub_self]; exact HDU, by rw [Nat.sub_self]; exact Hws0, HST2, hb0⟩
    case round =>
      obtain ⟨x, z, ws, rfl, x1, x2, rfl, HZ, HWS, hown, hbr⟩ := hrel
      obtain ⟨W, rfl⟩ : ∃ W, W = wr := ⟨_, rfl⟩
      clear HST2 hb0
      by_cases hxn : x < n
      · obtain ⟨zz, hzz⟩ : ∃ y, L[x]? = some y := ⟨L[x]'(by have := Hn.out; omega), List.getElem?_eq_getElem _⟩
        have x3 : (x : Int) < (n : Int) := by omega
        have hsucc : x + 1 - (k + 1) = (x - (k + 1)) + 1 := by omega
        have hxe : k + 1 + (x - (k + 1)) = x := by omega
        have HXE := Lib.hid hxe
        obtain ⟨d, Hd⟩ : ∃ d, Hid (d = x - (k + 1)) := ⟨_, rfl⟩
        have hdx : k + 1 + d = x := by have := Hd.out; omega
        have HF0 := Lib.hid (show wsF L k d k = false from wsF_low L k d)
        have HFA := Lib.hid (show wsF L k d x = (chn L k d).any fun t => confAt L t x from by have := wsF_all L k d; rwa [hdx] at this)
        have HS1 := Lib.hid (show lst L k (x + 1 - (k + 1)) = if wsF L k d x then min z (dueAt L x) else z by rw [HFA.out, hsucc, lst, hxe, HZ.out, Hd.out])
        have HS2 := Lib.hid (show wsL L k n (x + 1 - (k + 1)) = if wsF L k d x then ws.set x true else ws by have := wsL_step L k n d; rw [hdx] at this; rw [hsucc, ← Hd.out, this, HWS.out, Hd.out])
        have HFS := Lib.hid (fun j => show wsF L k d (j + 1) = (wsF L k d j || ((chn L k d).contains j && confAt L j x)) from by have := wsF_succ L k d j; rwa [hdx] at this)
        have HWA := Lib.hid (fun j (h : j < n) => show ws[j]? = some ((chn L k d).contains j) from by rw [HWS.out, ← Hd.out]; exact wsL_at h)
        have HWX := Lib.hid (show ws[x]? = some false from by
          rw [HWA.out x hxn]
          congr 1
          rw [← Bool.not_eq_true, List.contains_iff_mem]
          intro hm
          have := chn_bd L k d x hm
          omega)
        have HDX := Lib.hid (show dueAt L x = zz.q.due by rw [dueAt, hzz])
        have HZZ := Lib.hid hzz
        have HLW := Lib.hid (show ws.length = n by rw [HWS.out, wsL_len])
        clear hzz hsucc hxe hdx
        go_wp2
        go_loopw [8] (fun jv wq => ∃ (j : Nat) (f : Bool), jv = .int .i64 j ∧ k ≤ j ∧ j ≤ x ∧ Hid (f = wsF L k d j) ∧ wq.ownsRow w.heap.size 4 1 (.slice (some ⟨w.heap.size, 0, none⟩) n n) n (bcells (if f then ws.set x true else ws)) ∧ Bel w wq) (fun jv _ => x - (intOf jv).toNat)
        case atStart => exact ⟨k, false, rfl, by omega, by omega, HF0.out.symm, hown, hbr⟩
        case round =>
          obtain ⟨j, f, rfl, j0, j1, HFJ, howq, hbq⟩ := hrel
          by_cases hjx : j < x
          · obtain ⟨xx, hxx⟩ : ∃ y, L[j]? = some y := ⟨L[j]'(by have := Hn.out; omega), List.getElem?_eq_getElem _⟩
            obtain ⟨b9, o9, c99, hX, hY⟩ := HAT.out j x xx zz hxx HZZ.out
            have hf := hX.form
            simp only [Value.slice.injEq, Option.some.injEq, Addr.mk.injEq] at hf
            obtain ⟨⟨rfl, rfl, _⟩, _, rfl⟩ := hf
            have hX := hX.bel hbq
            have hY := hY.bel hbq
            have hcfE : confAt L j x = confB xx.bm zz.bm := by unfold confAt; rw [hxx, HZZ.out]
            obtain ⟨g, Hg⟩ : ∃ g, Hid (g = (chn L k d).contains j) := ⟨_, rfl⟩
            have HFS2 := Lib.hid (show wsF L k d (j + 1) = (f || (g && confB xx.bm zz.bm)) by rw [HFS.out j, HFJ.out, Hg.out, hcfE])
            have jx : (j : Int) < (x : Int) := by omega
            have jn : (j : Int) < (n : Int) := by omega
            have cj := howq.cellAt j (by omega)
            rw [bcells_at (b := g) (by
              rw [Hg.out, ← HWA.out j (by omega)]
              cases f
              · rfl
              · simp only [if_true]; rw [List.getElem?_set_ne (by omega)])] at cj
            have cx := howq.cellAt x (by omega)
            obtain ⟨bx, hbx⟩ : ∃ bx, (if f then ws.set x true else ws)[x]? = some bx := ⟨_, List.getElem?_eq_getElem (by cases f <;> simp [HLW.out] <;> exact hxn)⟩
            rw [bcells_at hbx] at cx
            have cfx := howq.frozenAt x
            have hst := (howq.stored x (.bool true)).1
            rw [← bcells_setU, show (if f then ws.set x true else ws).set x true = ws.set x true by cases f <;> simp] at hst
            have HST := Lib.hid hst
            have HOQ := Lib.hid howq
            clear hxx hcfE hst hbx howq
            go_wp2_with fail
            have rgj := fun d os => cell_regrown cj d os
            have p0 := (hX.row).cell 0 rfl
            have p1 := (hX.row).cell 1 rfl
            have p2 := (hX.row).cell 2 rfl
            have p3 := (hX.row).cell 3 rfl
            have p4 := (hX.row).cell 4 rfl
            have p5 := (hX.row).cell 5 rfl
            have p6 := (hX.row).cell 6 rfl
            have p7 := (hX.row).cell 7 rfl
            have p8 := (hX.row).cell 8 rfl
            rw [Nat.add_zero] at p0
            have q0 := (hY.row).cell 0 rfl
            have q1 := (hY.row).cell 1 rfl
            have q2 := (hY.row).cell 2 rfl
            have q3 := (hY.row).cell 3 rfl
            have q4 := (hY.row).cell 4 rfl
            have q5 := (hY.row).cell 5 rfl
            have q6 := (hY.row).cell 6 rfl
            have q7 := (hY.row).cell 7 rfl
            have q8 := (hY.row).cell 8 rfl
            rw [Nat.add_zero] at q0
            have hmX := hX.mem
            have hmY := hY.mem
            have r0 := fun d os => cell_regrown p0 d os
            have r1 := fun d os => cell_regrown p1 d os
            have r2 := fun d os => cell_regrown p2 d os
            have r3 := fun d os => cell_regrown p3 d os
            have r4 := fun d os => cell_regrown p4 d os
            have r5 := fun d os => cell_regrown p5 d os
            have r6 := fun d os => cell_regrown p6 d os
            have r7 := fun d os => cell_regrown p7 d os
            have r8 := fun d os => cell_regrown p8 d os
            have s0 := fun d os => cell_regrown q0 d os
            have s1 := fun d os => cell_regrown q1 d os
            have s2 := fun d os => cell_regrown q2 d os
            have s3 := fun d os => cell_regrown q3 d os
            have s4 := fun d os => cell_regrown q4 d os
            have s5 := fun d os => cell_regrown q5 d os
            have s6 := fun d os => cell_regrown q6 d os
            have s7 := fun d os => cell_regrown q7 d os
            have s8 := fun d os => cell_regrown q8 d os
            cases g
            · skip
              refine wp_region_lex [15] 17 (by kernel_rfl) (by kernel_rfl) ?_
              simp only [List.take_succ_cons, List.take_zero, List.drop_succ_cons, List.drop_zero]
              with_reducible refine lex_seg 15 _ _ _ _ (by kernel_rfl) ?_
              simp only [List.take_succ_cons, List.take_zero, List.drop_succ_cons, List.drop_zero]
              try simp only [Act.put, List.setIfInBounds_toArray, List.set_cons_succ, List.set_cons_zero]
              repeat (go_big_quiet_step (fail))
              with_reducible refine wpQuiet_nil ?_
              with_reducible refine lex_skip (by kernel_rfl) ?_
              try simp only [Act.put, List.setIfInBounds_toArray, List.set_cons_succ, List.set_cons_zero]
              with_reducible refine lex_seg 1 _ _ _ _ (by kernel_rfl) ?_
              simp only [List.take_succ_cons, List.take_zero, List.drop_succ_cons, List.drop_zero]
              try simp only [Act.put, List.setIfInBounds_toArray, List.set_cons_succ, List.set_cons_zero]
              repeat (go_big_quiet_step (fail))
              with_reducible refine wpQuiet_nil ?_
              with_reducible refine lex_nil ?_
              clear r0 r1 r2 r3 r4 r5 r6 r7 r8
              clear s0 s1 s2 s3 s4 s5 s6 s7 s8
              clear p0 p1 p2 p3 p4 p5 p6 p7 p8
              clear q0 q1 q2 q3 q4 q5 q6 q7 q8
              clear rgj cj cx cfx
              have HF2 : Hid (f = wsF L k d (j + 1)) := by show _ = _; rw [HFS2.out]; simp
              go_wp2
              go_roundw
              case rel => exact ⟨j + 1, f, by go_num, by omega, by omega, HF2, own_keep HOQ.out (Bel.drew (Bel.refl _)), hbq.drew⟩
              case measure => simp [intOf]; omega
            · skip
              refine wp_region_lex [15] 17 (by kernel_rfl) (by kernel_rfl) ?_
              simp only [List.take_succ_cons, List.take_zero, List.drop_succ_cons, List.drop_zero]
              with_reducible refine lex_seg 15 _ _ _ _ (by kernel_rfl) ?_
              simp only [List.take_succ_cons, List.take_zero, List.drop_succ_cons, List.drop_zero]
              try simp only [Act.put, List.setIfInBounds_toArray, List.set_cons_succ, List.set_cons_zero]
              repeat (go_big_quiet_step (fail))
              with_reducible refine wpQuiet_nil ?_
              refine lex_call 73 rfl rfl (by simp [go_sem]; rfl) ?_
              refine (refConflict_any ⟨xx.q.b, xx.ms⟩ ⟨zz.q.b, zz.ms⟩ _ (hmX.bel bI) (hmY.bel bI)).mono ?_; rintro e w1 ⟨rfl, hb1⟩
              refine ⟨_, rfl, hb1, ?_⟩
              with_reducible refine lex_seg 1 _ _ _ _ (by kernel_rfl) ?_
              simp only [List.take_succ_cons, List.take_zero, List.drop_succ_cons, List.drop_zero]
              try simp only [Act.put, List.setIfInBounds_toArray, List.set_cons_succ, List.set_cons_zero]
              repeat (go_big_quiet_step (fail))
              with_reducible refine wpQuiet_nil ?_
              with_reducible refine lex_nil ?_
              clear r0 r1 r2 r3 r4 r5 r6 r7 r8
              clear s0 s1 s2 s3 s4 s5 s6 s7 s8
              clear p0 p1 p2 p3 p4 p5 p6 p7 p8
              clear q0 q1 q2 q3 q4 q5 q6 q7 q8
              clear rgj cj
              have hb1w : Bel wr w1 := bI
              cases hcf : confB xx.bm zz.bm
              · have e9 : confB ⟨xx.q.b, xx.ms⟩ ⟨zz.q.b, zz.ms⟩ = false := hcf
                rw [e9]
                have HF2 : Hid (f = wsF L k d (j + 1)) := by show _ = _; rw [HFS2.out, hcf]; simp
                clear e9 hcf cx cfx
                go_wp2
                go_roundw
                case rel => exact ⟨j + 1, f, by go_num, by omega, by omega, HF2, own_keep HOQ.out hb1w, hbq.trans hb1w⟩
                case measure => simp [intOf]; omega
              · have e9 : confB ⟨xx.q.b, xx.ms⟩ ⟨zz.q.b, zz.ms⟩ = true := hcf
                rw [e9]
                have HF2 : Hid (true = wsF L k d (j + 1)) := by show _ = _; rw [HFS2.out, hcf]; simp
                have how1 := own_keep HOQ.out hb1w
                have hws := (how1.lt w.heap.size rfl).2
                have hwr := (HOQ.out.lt w.heap.size rfl).2
                have cx1 := (hb1w.cellAt w.heap.size x hwr).trans cx
                have cf1 := how1.frozenAt x
                have hst := (how1.stored x (.bool true)).1
                rw [← bcells_setU, show (if f then ws.set x true else ws).set x true = ws.set x true by cases f <;> simp] at hst
                have HST := Lib.hid hst
                clear e9 hcf cx cfx hst how1
                go_wp2
                go_roundw
                case rel => exact ⟨j + 1, true, by go_num, by omega, by omega, HF2, HST.out, (hbq.trans hb1w).setNew (Nat.le_refl _) _⟩
                case measure => simp [intOf]; omega
          · obtain rfl : j = x := by omega
            have jx : decide ((j : Int) < (j : Int)) = false := by simp
            obtain ⟨b9, o9, c99, hX, hY⟩ := HAT.out j j zz zz HZZ.out HZZ.out
            have hf := hX.form
            simp only [Value.slice.injEq, Option.some.injEq, Addr.mk.injEq] at hf
            obtain ⟨⟨rfl, rfl, _⟩, _, rfl⟩ := hf
            have hX := hX.bel hbq
            have p9 := hX.row.cell 9 rfl
            have cx := howq.cellAt j (by omega)
            rw [bcells_at (b := f) (by
              cases f
              · exact HWX.out
              · simp only [if_true]; rw [List.getElem?_set_self (by rw [HLW.out]; exact hxn)])] at cx
            have HS1' := HS1.out
            have HS2' := HS2.out
            rw [← HFJ.out] at HS1' HS2'
            have H1 := Lib.hid HS1'
            have H2 := Lib.hid HS2'
            have HOQ := Lib.hid howq
            clear HS1' HS2' howq hX hY
            cases f
            · go_wp2
              go_roundw
              case rel => exact ⟨j + 1, z, ws, by go_num, by omega, by omega, rfl, H1.out.symm, H2.out.symm, HOQ.out, hbq⟩
              case measure => simp [intOf]; omega
            · obtain ⟨z', Hz'⟩ : ∃ z', Hid (z' = min z zz.q.due) := ⟨_, rfl⟩
              have hmin : (if zz.q.due < z then zz.q.due else z) = z' := by rw [Hz'.out]; split <;> omega
              have HZ2 : Hid (z' = lst L k (j + 1 - (k + 1))) := by show _ = _; rw [H1.out, HDX.out, Hz'.out]; rfl
              go_wp2
              go_roundw
              case rel => exact ⟨j + 1, z', ws.set j true, by go_num, by omega, by omega, rfl, HZ2, H2.out.symm, HOQ.out, hbq⟩
              case measure => simp [intOf]; omega
      · obtain rfl : x = n := by omega
        have x3 : decide ((x : Int) < (x : Int)) = false := by simp
        have HF : Hid (V = z) := by show _ = _; rw [HVk.out, HZ.out]
        go_wp2
        go_ret
        exact ⟨ret_int HF.out.symm, bI⟩
  · have HF : Hid (V = 0) := by show _ = _; rw [HV.out, urg, if_neg (by have := Hn.out; omega)]
    clear HV hv
    by_cases h0 : i < 0
    · clear hi
      go_enter Tryz.func83, Tryz.ntmps83
      go_wp2
      go_ret
      exact ⟨ret_int HF.out.symm, bI⟩
    · have h1 : (n : Int) ≤ i := by omega
      clear hi
      go_enter Tryz.func83, Tryz.ntmps83
      go_wp2
      go_ret
      exact ⟨ret_int HF.out.symm, bI⟩
end Go.Proofs.YtpgjbocjhconoaaGreat
