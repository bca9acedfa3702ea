/- deadline.Urgent. -/
import Derived.Test.YtdffpnogfinehaaUrgP
namespace Go.Proofs.Ytdffpnogfinehaa
open Go.RowKit Go.Maps
set_option linter.unusedSimpArgs false

theorem Try.infoInt : (Try.prog.info? 3).map (fun i => (i.zero, i.size, i.bytes)) = some (some (.int .i64 0), 1, 8) := by kernel_rfl
theorem own_made1 (w : World) (base : Nat) (hb : base ≤ w.heap.size) (t : TypeId) (u : Value) : (w.alloc (.cells #[u] t)).ownsRow base t 1 (.slice (some ⟨w.heap.size, 0, none⟩) 1 1) 1 [u] :=
  ⟨by simp, .inr ⟨w.heap.size, 1, #[u], rfl, hb, heap_alloc_new w _, Nat.le_refl _, by unfold maxLen; omega, by simp, by simp⟩⟩

set_option maxRecDepth 100000 in
set_option maxHeartbeats 8000000 in
theorem dlUrgent_any (L : List QM) (i : Int) (v : Value) (w : World) (hv : QL w v L) (hL : L.length ≤ 1000) :
    Calls Try.prog 16 #[v, .int .i64 i] w fun e w' => e = .returned (.int .i64 (urg L i)) ∧ Bel w w' := by
  obtain ⟨i0, hi0, hz0, hz1, hz2⟩ := info_parts Try.infoInt
  obtain ⟨A, c, rfl, hc1, hc2⟩ := hv.form
  obtain ⟨n, Hn⟩ : ∃ n, Hid (n = L.length) := ⟨_, rfl⟩
  obtain ⟨V, HV⟩ : ∃ V, Hid (V = urg L i) := ⟨_, rfl⟩
  rw [← HV.out]
  rw [← Hn.out] at hc1 hL ⊢
  unfold maxLen at hc2
  by_cases hi : 0 ≤ i ∧ i < (n : Int)
  · obtain ⟨k, rfl⟩ : ∃ k : Nat, i = (k : Int) := ⟨i.toNat, by omega⟩
    have hkn : k < n := by omega
    have hkn2 : (k : Int) < (n : Int) := by omega
    have hd : decide (0 ≤ (k : Int) ∧ (k : Int) < (n : Int)) = true := by simpa using hi
    obtain ⟨y, hy⟩ : ∃ y, L[k]? = some y := ⟨L[k]'(by have := Hn.out; omega), List.getElem?_eq_getElem _⟩
    have HVk : Hid (V = lst L k (n - (k + 1))) := by
      show _ = _
      rw [HV.out, urg, if_pos (by have := Hn.out; omega), Int.toNat_natCast, urgN, Hn.out]
    have HAT := Lib.hid (fun j m x z (hj : L[j]? = some x) (hm : L[m]? = some z) => hv.at2 hj hm)
    have HDU : Hid (y.q.due = lst L k 0) := by show _ = _; rw [lst, dueAt, hy]
    obtain ⟨b, o, c9, hY⟩ := hv.at hy
    rw [← Hn.out] at HAT hY
    have hf := hY.form
    simp only [Value.slice.injEq] at hf
    obtain ⟨rfl, _, rfl⟩ := hf
    have p9 := hY.row.cell 9 rfl
    have HD := Lib.hid hd
    clear hi hd HV hv hY hy
    go_enter Try.func16, Try.ntmps16
    go_wp2_with fail
    refine (dlHas_any _ n c _ _).mono ?_; rw [HD.out]; rintro e w1 ⟨rfl, rfl⟩
    go_wp2
    have hown0 := own_made1 w w.heap.size (Nat.le_refl _) 3 (.int .i64 (k : Int))
    have hb0 : Bel w (w.alloc (.cells #[.int .i64 (k : Int)] 3)) := (Bel.refl w).alloc _
    generalize w.alloc (.cells #[.int .i64 (k : Int)] 3) = W0 at *
    clear p9
    go_loopw [5, 6, 7] (fun lv cv xv wr => ∃ (x : Nat) (z : Int) (l : List Nat), xv = .int .i64 x ∧ k < x ∧ x ≤ n ∧ lv = .int .i64 z ∧ Hid (z = lst L k (x - (k + 1))) ∧ Hid (l = chn L k (x - (k + 1))) ∧ l.length ≤ x - k ∧ wr.ownsRow w.heap.size 3 1 cv l.length (ncells l) ∧ Bel w wr) (fun _ _ xv _ => n - (intOf xv).toNat)
    case atStart => exact ⟨k + 1, y.q.due, [k], by go_num, by omega, by omega, rfl, by rw [Nat.sub_self]; exact HDU, by simp [Hid, chn], by simp, hown0, hb0⟩
    case round =>
      obtain ⟨x, z, l, rfl, x1, x2, rfl, HZ, HCH, hl, hown, hbr⟩ := hrel
      obtain ⟨W, rfl⟩ : ∃ W, W = wr := ⟨_, rfl⟩
      clear hown0 hb0
      obtain ⟨A', c', rfl⟩ := own_slice hown
      by_cases hxn : x < n
      · obtain ⟨zz, hzz⟩ : ∃ y, L[x]? = some y := ⟨L[x]'(by have := Hn.out; omega), List.getElem?_eq_getElem _⟩
        have x3 : (x : Int) < (n : Int) := by omega
        have hsucc : x + 1 - (k + 1) = (x - (k + 1)) + 1 := by omega
        have hxe : k + 1 + (x - (k + 1)) = x := by omega
        have HS1 := Lib.hid (show lst L k (x + 1 - (k + 1)) = if l.any (fun n => confAt L n x) then min z (dueAt L x) else z by rw [hsucc, lst, hxe, ← HCH.out, ← HZ.out])
        have HS2 := Lib.hid (show chn L k (x + 1 - (k + 1)) = if l.any (fun n => confAt L n x) then l ++ [x] else l by rw [hsucc, chn, hxe, ← HCH.out])
        have HDX := Lib.hid (show dueAt L x = zz.q.due by rw [dueAt, hzz])
        have HBD := Lib.hid (fun j (h : j ∈ l) => chn_bd L k (x - (k + 1)) j (by rw [← HCH.out]; exact h))
        have HZZ := Lib.hid hzz
        clear hzz hsucc hxe
        obtain ⟨m, Hm⟩ : ∃ m, Hid (m = l.length) := ⟨_, rfl⟩
        rw [← Hm.out] at hl hown ⊢
        go_wp2
        go_loopw [5, 6, 31] (fun lv cv jv wq => ∃ j : Nat, jv = .int .i64 j ∧ lv = .int .i64 z ∧ cv = .slice A' m c' ∧ j ≤ m ∧ Hid ((l.take j).any (fun n => confAt L n x) = false) ∧ Bel W wq) (fun _ _ jv _ => m - (intOf jv).toNat)
        case atStart => exact ⟨0, rfl, rfl, rfl, by omega, by simp [Hid], Bel.refl _⟩
        case round =>
          obtain ⟨j, rfl, rfl, rfl, j1, HA, hbq⟩ := hrel
          have howq := own_keep hown hbq
          by_cases hjm : j < m
          · obtain ⟨e, he⟩ : ∃ e, l[j]? = some e := ⟨l[j]'(by have := Hm.out; omega), List.getElem?_eq_getElem _⟩
            obtain ⟨e1, e2⟩ := HBD.out e (List.mem_of_getElem? he)
            obtain ⟨xx, hxx⟩ : ∃ y, L[e]? = some y := ⟨L[e]'(by have := Hn.out; omega), List.getElem?_eq_getElem _⟩
            obtain ⟨b9, o9, c99, hX, hY⟩ := HAT.out e x xx zz hxx HZZ.out
            have hf := hX.form
            simp only [Value.slice.injEq, Option.some.injEq, Addr.mk.injEq] at hf
            obtain ⟨⟨rfl, rfl, _⟩, _, rfl⟩ := hf
            obtain ⟨b', o', c9', hv', hlb', hcell'⟩ := (Rd.own howq).at (by omega)
            cases hv'
            have m0 := hcell' _ _ (ncells_at he)
            have HA2 := Lib.hid (any_take_succ (p := fun n => confAt L n x) he)
            have hcfE : confAt L e x = confB xx.bm zz.bm := by unfold confAt; rw [hxx, HZZ.out]
            have HCF := Lib.hid hcfE
            have HE := Lib.hid he
            have hbw := hbr.trans hbq
            have HQ9 := Lib.hid (hY.row.cell 9 rfl)
            have hYl := hY.lt
            have hX := hX.bel hbw
            have hY := hY.bel hbw
            have jm : (j : Int) < (m : Int) := by omega
            have en : (e : Int) < (n : Int) := by omega
            clear hcell' he hxx hcfE
            go_wp2_with fail
            clear m0
            have p0 := (hX.row).cell 0 rfl
            have p1 := (hX.row).cell 1 rfl
            have p2 := (hX.row).cell 2 rfl
            have p3 := (hX.row).cell 3 rfl
            have p4 := (hX.row).cell 4 rfl
            have p5 := (hX.row).cell 5 rfl
            have p6 := (hX.row).cell 6 rfl
            have p7 := (hX.row).cell 7 rfl
            have p8 := (hX.row).cell 8 rfl
            rw [Nat.add_zero] at p0
            have q0 := (hY.row).cell 0 rfl
            have q1 := (hY.row).cell 1 rfl
            have q2 := (hY.row).cell 2 rfl
            have q3 := (hY.row).cell 3 rfl
            have q4 := (hY.row).cell 4 rfl
            have q5 := (hY.row).cell 5 rfl
            have q6 := (hY.row).cell 6 rfl
            have q7 := (hY.row).cell 7 rfl
            have q8 := (hY.row).cell 8 rfl
            rw [Nat.add_zero] at q0
            have hmX := hX.mem
            have hmY := hY.mem
            have r0 := fun d os => cell_regrown p0 d os
            have r1 := fun d os => cell_regrown p1 d os
            have r2 := fun d os => cell_regrown p2 d os
            have r3 := fun d os => cell_regrown p3 d os
            have r4 := fun d os => cell_regrown p4 d os
            have r5 := fun d os => cell_regrown p5 d os
            have r6 := fun d os => cell_regrown p6 d os
            have r7 := fun d os => cell_regrown p7 d os
            have r8 := fun d os => cell_regrown p8 d os
            have s0 := fun d os => cell_regrown q0 d os
            have s1 := fun d os => cell_regrown q1 d os
            have s2 := fun d os => cell_regrown q2 d os
            have s3 := fun d os => cell_regrown q3 d os
            have s4 := fun d os => cell_regrown q4 d os
            have s5 := fun d os => cell_regrown q5 d os
            have s6 := fun d os => cell_regrown q6 d os
            have s7 := fun d os => cell_regrown q7 d os
            have s8 := fun d os => cell_regrown q8 d os
            refine wp_region_lex [10] 11 (by kernel_rfl) (by kernel_rfl) ?_
            simp only [List.take_succ_cons, List.take_zero, List.drop_succ_cons, List.drop_zero]
            with_reducible refine lex_seg 10 _ _ _ _ (by kernel_rfl) ?_
            simp only [List.take_succ_cons, List.take_zero, List.drop_succ_cons, List.drop_zero]
            try simp only [Act.put, List.setIfInBounds_toArray, List.set_cons_succ, List.set_cons_zero]
            repeat (go_big_quiet_step (fail))
            with_reducible refine wpQuiet_nil ?_
            refine lex_call 35 rfl rfl (by simp [go_sem]; rfl) ?_
            refine (conflict_any ⟨xx.q.b, xx.ms⟩ ⟨zz.q.b, zz.ms⟩ _ (hmX.bel (by repeat (first | (with_reducible exact Bel.refl _) | (with_reducible assumption) | (with_reducible refine Bel.drewN ?_ _) | (with_reducible refine Bel.drew ?_) | (with_reducible refine Bel.alloc ?_ _) | (with_reducible refine Bel.setNew ?_ ?_ _) | (with_reducible refine Bel.trans ?_ (by assumption)) | (focus (simp; done)) | (focus (simp; omega))))) (hmY.bel (by repeat (first | (with_reducible exact Bel.refl _) | (with_reducible assumption) | (with_reducible refine Bel.drewN ?_ _) | (with_reducible refine Bel.drew ?_) | (with_reducible refine Bel.alloc ?_ _) | (with_reducible refine Bel.setNew ?_ ?_ _) | (with_reducible refine Bel.trans ?_ (by assumption)) | (focus (simp; done)) | (focus (simp; omega)))))).mono ?_; rintro e w1 ⟨rfl, hb1⟩
            refine ⟨_, rfl, hb1, ?_⟩
            with_reducible refine lex_nil ?_
            clear r0 r1 r2 r3 r4 r5 r6 r7 r8
            clear s0 s1 s2 s3 s4 s5 s6 s7 s8
            clear p0 p1 p2 p3 p4 p5 p6 p7 p8
            clear q0 q1 q2 q3 q4 q5 q6 q7 q8
            have hb1w : Bel wr w1 := (by repeat (first | (with_reducible exact Bel.refl _) | (with_reducible assumption) | (with_reducible refine Bel.drewN ?_ _) | (with_reducible refine Bel.drew ?_) | (with_reducible refine Bel.alloc ?_ _) | (with_reducible refine Bel.setNew ?_ ?_ _) | (with_reducible refine Bel.trans ?_ (by assumption)) | (focus (simp; done)) | (focus (simp; omega))))
            cases hcf : confB xx.bm zz.bm
            · have e9 : confB ⟨xx.q.b, xx.ms⟩ ⟨zz.q.b, zz.ms⟩ = false := hcf
              rw [e9]
              have HA3 : Hid ((l.take (j + 1)).any (fun n => confAt L n x) = false) := by show _ = _; rw [HA2.out, HA.out, HCF.out, hcf]; rfl
              clear e9 hcf
              go_wp2
              go_roundw
              case rel => exact ⟨j + 1, by go_num, rfl, rfl, by omega, HA3, hbq.trans hb1w⟩
              case measure => simp [intOf]; omega
            · have e9 : confB ⟨xx.q.b, xx.ms⟩ ⟨zz.q.b, zz.ms⟩ = true := hcf
              rw [e9]
              have hany : l.any (fun n => confAt L n x) = true := List.any_eq_true.2 ⟨e, List.mem_of_getElem? HE.out, by rw [HCF.out]; exact hcf⟩
              obtain ⟨z', Hz'⟩ : ∃ z', Hid (z' = min z zz.q.due) := ⟨_, rfl⟩
              have HZ2 : Hid (z' = lst L k (x + 1 - (k + 1))) := by show _ = _; rw [HS1.out, if_pos hany, HDX.out, Hz'.out]
              have HC2 : Hid (l ++ [x] = chn L k (x + 1 - (k + 1))) := by show _ = _; rw [HS2.out, if_pos hany]
              have hmin : (if zz.q.due < z then zz.q.due else z) = z' := by rw [Hz'.out]; split <;> omega
              have how1 := own_keep howq hb1w
              have hY1 := hY.bel hb1w
              have hwl := (hbw.trans hb1w).size
              have q90 := HQ9.out
              have hY9 := hY1.row.cell 9 rfl
              clear e9 hcf hany
              go_wp2_with (at_builtin; go_must (refine wpList_append_own_at _ rfl _ _ 22 rfl w.heap.size 3 i0 _ 1 8 Try.underlying22 hi0 hz0 hz1 hz2 rfl (by omega) (.slice (some ⟨b', o', none⟩) m c') _ _ rfl (how1.alloc _) ⟨w1.heap.size, 0, none⟩ 1 1 [.int .i64 (x : Int)] rfl rfl (World.news_of_block (cs := #[.int .i64 (x : Int)]) (t := 3) (fr := (0, 0)) (heap_alloc_new w1 _)) (by simp [Value.oneCell']) (by unfold maxLen; omega) (by omega) (by simp; omega) ?_); intro v' w3 hown' hg' _ _; obtain ⟨gn, cn, hvn, _, _⟩ := hown'.form (by omega); subst hvn; have hb3 : Bel w w3 := bel_own (((hbw.trans hb1w)).alloc _) (how1.alloc _) hg' (Nat.le_refl _); have p9 : w3.cell? ⟨b, o + x * 12 + 9, none⟩ = some (.int .i64 zz.q.due) := (hb3.cellAt b _ hYl).trans q90)
              go_roundw
              case rel =>
                have hk2 : (l ++ [x]).length = m + 1 := by rw [List.length_append, ← Hm.out]; rfl
                exact ⟨x + 1, z', l ++ [x], by go_num, by omega, by omega, rfl, HZ2, HC2, by omega, by rw [hk2, show ncells (l ++ [x]) = ncells l ++ [.int .i64 (x : Int)] by simp [ncells]]; exact hown', hb3⟩
              case measure => simp [intOf]; omega
          · obtain rfl : j = m := by omega
            have hany : l.any (fun n => confAt L n x) = false := by rw [← HA.out, List.take_of_length_le (by have := Hm.out; omega)]
            have HZ2 : Hid (z = lst L k (x + 1 - (k + 1))) := by show _ = _; rw [HS1.out, hany]; rfl
            have HC2 : Hid (l = chn L k (x + 1 - (k + 1))) := by show _ = _; rw [HS2.out, hany]; rfl
            have hk2 := Hm.out
            have HLE : Hid (l.length = j) := hk2.symm
            have jm : decide ((j : Int) < (j : Int)) = false := by simp
            have HN := Lib.hid hk2
            clear hany hk2
            go_wp2
            go_roundw
            case rel => exact ⟨x + 1, z, l, by go_num, by omega, by omega, rfl, HZ2, HC2, by have := HLE.out; omega, by rw [HLE.out]; exact howq, hbr.trans hbq⟩
            case measure => simp [intOf]; omega
      · obtain rfl : x = n := by omega
        have x3 : decide ((x : Int) < (x : Int)) = false := by simp
        have HF : Hid (V = z) := by show _ = _; rw [HVk.out, HZ.out]
        go_wp2
        go_ret
        exact ⟨ret_int HF.out.symm, (by repeat (first | (with_reducible exact Bel.refl _) | (with_reducible assumption) | (with_reducible refine Bel.drewN ?_ _) | (with_reducible refine Bel.drew ?_) | (with_reducible refine Bel.alloc ?_ _) | (with_reducible refine Bel.setNew ?_ ?_ _) | (with_reducible refine Bel.trans ?_ (by assumption)) | (focus (simp; done)) | (focus (simp; omega))))⟩
  · have hd : decide (0 ≤ i ∧ i < (n : Int)) = false := by simpa using hi
    have HF : Hid (V = 0) := by show _ = _; rw [HV.out, urg, if_neg (by have := Hn.out; omega)]
    have HD := Lib.hid hd
    clear hd HV hi hv
    go_enter Try.func16, Try.ntmps16
    go_wp2_with fail
    refine (dlHas_any A n c _ _).mono ?_; rw [HD.out]; rintro e w1 ⟨rfl, rfl⟩
    go_wp2
    go_ret
    exact ⟨ret_int HF.out.symm, (by repeat (first | (with_reducible exact Bel.refl _) | (with_reducible assumption) | (with_reducible refine Bel.drewN ?_ _) | (with_reducible refine Bel.drew ?_) | (with_reducible refine Bel.alloc ?_ _) | (with_reducible refine Bel.setNew ?_ ?_ _) | (with_reducible refine Bel.trans ?_ (by assumption)) | (focus (simp; done)) | (focus (simp; omega))))⟩
end Go.Proofs.Ytdffpnogfinehaa
