/- The walk of DeadlineBound. -/
import Derived.Test.YtdffpnogfinehaaDlBl
import Derived.Test.YtdffpnogfinehaaQd
import Derived.Test.YtdffpnogfinehaaAwk
namespace Go.Proofs.Ytdffpnogfinehaa
open Go.RowKit Go.Maps
set_option linter.unusedSimpArgs false

def cntS (L0 : List QM) (k : Nat) (due : Int) (i : Nat) : Nat := ((List.range i).filter (inS L0 k due)).length
theorem cntS_succ (L0 : List QM) (k : Nat) (due : Int) (i : Nat) : cntS L0 k due (i + 1) = cntS L0 k due i + if inS L0 k due i then 1 else 0 := by
  unfold cntS
  rw [List.range_succ, List.filter_append]
  by_cases h : inS L0 k due i = true <;> simp [List.filter_cons, h]
theorem cntS_le (L0 : List QM) (k : Nat) (due : Int) (i : Nat) : cntS L0 k due i ≤ i := by
  unfold cntS
  have := List.length_filter_le (inS L0 k due) (List.range i)
  simpa using this

set_option maxRecDepth 100000 in
set_option maxHeartbeats 8000000 in
theorem deadlineBound_walk (v : Value) (zs : List Int) (at_ head : Int) (w : World) (hz : Ints w v zs) (_ : IsInt at_) (_ : IsInt head) :
    Calls Try.prog 4 #[v, .int .i64 at_, .int .i64 head] w fun e w' => e = .returned (.bool true) ∧ Bel w w' := by
  have HQ := Lib.hid (queued_any v zs w hz)
  obtain ⟨A9, c9, rfl, _, _⟩ : ∃ A c, v = .slice A zs.length c ∧ zs.length ≤ c ∧ c ≤ maxLen := by
    obtain ⟨_, A, c, h1, h2, h3, _⟩ := hz
    exact ⟨A, c, h1, h2, h3⟩
  obtain ⟨z8, Hz8⟩ : ∃ z8, Hid (z8 = zs.length) := ⟨_, rfl⟩
  rw [← Hz8.out] at HQ ⊢
  clear hz
  go_enter Try.func4, Try.ntmps4
  go_wp2_with fail
  refine HQ.out.mono ?_; rintro e w1 ⟨qv, L0, rfl, hO, hQL, hb1⟩
  obtain ⟨A, c, rfl, hc1, hc2⟩ := hQL.form
  have hn8 : (L0.map toQ).length ≤ 8 := by rw [List.length_map, hO.1]; omega
  generalize L0.map toQ = L1 at *
  clear hO HQ
  obtain ⟨n, hn⟩ : ∃ n, n = L1.length := ⟨_, rfl⟩
  have HQL := Lib.hid hQL
  rw [← hn] at hn8 hc1 HQL ⊢
  have HN := Lib.hid hn
  clear hn hQL
  unfold maxLen at hc2
  by_cases h0 : n = 0
  · subst h0
    go_wp2_with fail
    refine (awakeDl_any _).mono ?_; rintro e w2 ⟨rfl, hb2⟩
    go_wp2
    go_ret
    exact ⟨rfl, hb1.trans hb2⟩
  · have hn1 : (1 : Int) ≤ (n : Int) := by omega
    have hr1 := rnd_lo at_ n
    have hr2 := rnd_hi at_ n hn1
    obtain ⟨k, hk⟩ : ∃ k : Nat, (k : Int) = rnd at_ n := ⟨(rnd at_ n).toNat, by omega⟩
    have hkn : k < n := by omega
    have HK := Lib.hid hk
    obtain ⟨y, hy⟩ : ∃ y, L1[k]? = some y := ⟨L1[k]'(by have := HN.out; omega), List.getElem?_eq_getElem _⟩
    obtain ⟨b, o, c99, hY⟩ := HQL.out.at hy
    rw [← HN.out] at hY
    have hf := hY.form
    simp only [Value.slice.injEq] at hf
    obtain ⟨rfl, _, rfl⟩ := hf
    have HY := Lib.hid hy
    have y0 := hY.row.cell 0 rfl
    have y9 := hY.row.cell 9 rfl
    rw [Nat.add_zero] at y0
    have n0 : ((n : Int) == 0) = false := by simpa using (show ¬ (n : Int) = 0 by omega)
    have kn : (k : Int) < (n : Int) := by omega
    clear hr1 hr2 hk hy hY h0
    go_wp2_with fail
    refine (round_any at_ n _ (by omega)).mono ?_; rw [← HK.out]; rintro e w9 ⟨rfl, rfl⟩
    go_wp2_with fail
    have rg0 := fun d os => cell_regrown y0 d os
    have rg9 := fun d os => cell_regrown y9 d os
    refine wp_region_st [] 13 (by kernel_rfl) (by kernel_rfl) ?_
    with_reducible refine st_sel [0, 1, 2, 3, 4, 5, 6, 7, 8, 9, 10, 11, 12] (by kernel_rfl) (by kernel_rfl) ?_
    simp only [picked, List.getElem?_cons_succ, List.getElem?_cons_zero, Option.toList_some, List.nil_append, List.cons_append, List.append_nil]
    try simp only [Act.put, List.setIfInBounds_toArray, List.set_cons_succ, List.set_cons_zero]
    repeat (go_big_quiet_step (fail))
    with_reducible refine wpQuiet_nil ?_
    refine st_end (by kernel_rfl) ?_
    simp only [List.drop_succ_cons, List.drop_zero, List.drop_nil]
    skip
    clear rg0 rg9 y0 y9
    go_wp2
    obtain ⟨d, Hd⟩ : ∃ d, Hid (d = y.q.due) := ⟨_, rfl⟩
    rw [← Hd.out]
    obtain ⟨yi, Hyi⟩ : ∃ d, Hid (d = y.q.b.id) := ⟨_, rfl⟩
    rw [← Hyi.out]
    have hL8 : L1.length ≤ 1000 := by rw [← HN.out]; omega
    have HUR := Lib.hid (fun w' (i : Nat) (hb : Bel w1 w') => dlUrgent_any L1 i _ w' (HQL.out.bel hb) hL8)
    clear hL8
    go_loopw [11, 12] (fun mv iv wr => ∃ i m : Nat, mv = .int .i64 m ∧ iv = .int .i64 i ∧ i ≤ n ∧ m ≤ i ∧ Hid (cntS L1 k d i = m) ∧ Bel w1 wr) (fun _ iv _ => n - (intOf iv).toNat)
    case atStart => exact ⟨0, 0, rfl, rfl, by omega, by omega, rfl, (by repeat (first | (with_reducible exact Bel.refl _) | (with_reducible assumption) | (with_reducible refine Bel.drewN ?_ _) | (with_reducible refine Bel.drew ?_) | (with_reducible refine Bel.alloc ?_ _) | (with_reducible refine Bel.setNew ?_ ?_ _) | (with_reducible refine Bel.trans ?_ (by assumption)) | (focus (simp; done)) | (focus (simp; omega))))⟩
    case round =>
      obtain ⟨i, m, rfl, rfl, p1, p2, HC, hbr⟩ := hrel
      have HS := Lib.hid (cntS_succ L1 k d i)
      by_cases hlt : i < n
      · have i1 : (i : Int) < (n : Int) := by omega
        have HUN := Lib.hid (urg_nat (L := L1) (i := i) (by rw [← HN.out]; exact hlt))
        by_cases hik : i = k
        · subst hik
          have HF : Hid (cntS L1 i d (i + 1) = m) := by show _ = _; rw [HS.out, HC.out, inS]; simp
          have ii : ((i : Int) != (i : Int)) = false := by simp
          go_wp2
          go_roundw
          case rel => exact ⟨i + 1, m, rfl, by go_num, by omega, by omega, HF, hbr⟩
          case measure => simp [intOf]; omega
        · have ii : ((i : Int) != (k : Int)) = true := by simpa using (show ¬ (i : Int) = (k : Int) by omega)
          obtain ⟨u, Hu⟩ : ∃ u, Hid (u = urg L1 i) := ⟨_, rfl⟩
          by_cases hud : u ≤ d
          · have HF : Hid (cntS L1 k d (i + 1) = m + 1) := by
              show _ = _; rw [HS.out, HC.out, inS, ← HUN.out, ← Hu.out, if_pos (decide_eq_true ⟨hik, hud⟩)]
            clear hik
            go_wp2_with fail
            refine (HUR.out _ i hbr).mono ?_; rw [← Hu.out]; rintro e w2 ⟨rfl, hb2⟩
            go_wp2
            go_roundw
            case rel => exact ⟨i + 1, m + 1, by go_num, by go_num, by omega, by omega, HF, hbr.trans hb2⟩
            case measure => simp [intOf]; omega
          · have HF : Hid (cntS L1 k d (i + 1) = m) := by
              show _ = _; rw [HS.out, HC.out, inS, ← HUN.out, ← Hu.out, if_neg (by simp; intro _; omega)]; rfl
            clear hik
            go_wp2_with fail
            refine (HUR.out _ i hbr).mono ?_; rw [← Hu.out]; rintro e w2 ⟨rfl, hb2⟩
            go_wp2
            go_roundw
            case rel => exact ⟨i + 1, m, rfl, by go_num, by omega, by omega, HF, hbr.trans hb2⟩
            case measure => simp [intOf]; omega
      · obtain rfl : i = n := by omega
        have i1 : decide ((i : Int) < (i : Int)) = false := by simp
        have HRM : Hid (remS L1 k d (List.range i) = m) := by show _ = _; rw [← HC.out]; rfl
        clear HS HC HUR p1
        obtain ⟨r0, Hr0⟩ : ∃ h, Hid (h = rnd head 20) := ⟨_, rfl⟩
        go_wp2_with fail
        refine (round_any head 20 _ (by omega)).mono ?_; rw [← Hr0.out]; rintro e w9 ⟨rfl, rfl⟩
        go_wp2
        obtain ⟨Z, rfl⟩ : ∃ Z, Z = wr := ⟨_, rfl⟩
        go_loopw [7, 13, 14] (fun qv hv jv wr => ∃ (j : Nat) (L : List QM) (I : List Nat) (h : Int), jv = .int .i64 j ∧ hv = .int .i64 h ∧ j ≤ m ∧ Hid (SubL L1 L I) ∧ Hid (k ∈ I) ∧ Hid (remS L1 k d I + j = m) ∧ QL wr qv L ∧ L.length ≤ 8 ∧ Bel w1 wr) (fun _ _ jv _ => m + 1 - (intOf jv).toNat)
        case atStart =>
          refine ⟨0, L1, List.range L1.length, r0, rfl, rfl, by omega, Lib.hid (SubL.start L1), Lib.hid (by rw [← HN.out]; simpa using hkn), Lib.hid (by rw [← HN.out]; have := HRM.out; omega), ?_, by rw [← HN.out]; exact hn8, hbr⟩
          have := HQL.out.bel hbr
          exact this
        case round =>
          obtain ⟨j, L, I, h, rfl, rfl, j1, HSB, HKI, HRS, hQ, hl8, hbq⟩ := hrel
          clear HRM hbr
          obtain ⟨Aq, cq, rfl, hq1, hq2⟩ := hQ.form
          unfold maxLen at hq2
          obtain ⟨x, ix, hpd, hxL, hix, hcase⟩ := bound_step (L0 := L1) d h HSB.out HKI.out (by rw [dueAt, HY.out, Hd.out])
          obtain ⟨xx, hxx⟩ : ∃ xx, L[x]? = some xx := ⟨L[x], List.getElem?_eq_getElem _⟩
          have hid9 : ix = k → xx.q.b.id = yi := by
            rintro rfl
            have := HSB.out.lies x ix hix
            rw [hxx, HY.out] at this
            cases this
            exact Hyi.out.symm
          have HID := Lib.hid hid9
          have HCS := Lib.hid hcase
          obtain ⟨l, Hl⟩ : ∃ l, Hid (l = L.length) := ⟨_, rfl⟩
          have hFR := fun w' (hb : Bel wr w') => free_any L [] _ _ w' (hQ.bel hb) (BL.nil w') (by omega)
          have hPK := fun w' u (hb : Bel wr w') (hr : Rd w' u 1 (freeN L [] L.length).length (bcells (freeN L [] L.length))) => dlPickAll_any L (freeN L [] L.length) h d _ u w' (hQ.bel hb) hr (by omega)
          have hWO := fun w' (hb : Bel wr w') => without_any L x _ w' (hQ.bel hb) (by omega) hxL
          rw [hpd] at hPK
          obtain ⟨b', o', c9', hX⟩ := hQ.at hxx
          have HLE := Lib.hid (show (L.eraseIdx x).length + 1 = L.length by rw [List.length_eraseIdx, if_pos hxL]; omega)
          rw [← Hl.out] at hq1 hl8 hxL hFR hPK hWO hX HLE ⊢
          have HFR := Lib.hid hFR
          have HPK := Lib.hid hPK
          have HWO := Lib.hid hWO
          have hf := hX.form
          simp only [Value.slice.injEq] at hf
          obtain ⟨rfl, _, rfl⟩ := hf
          have HSE := Lib.hid (HSB.out.erase x)
          clear hFR hPK hWO hpd hix hcase hid9 hxx hQ
          have k0 : (0 : Int) ≤ (x : Int) := by omega
          have k1 : (x : Int) < (l : Int) := by omega
          have k8 : decide ((x : Int) < 0) = false := by simp
          have k7 : decide ((l : Int) ≤ (x : Int)) = false := by simp; omega
          have k6 : decide (l ≤ x) = false := by simp; omega
          have jm : (j : Int) ≤ (m : Int) := by omega
          go_wp2_with fail
          refine (HFR.out _ (Bel.refl _)).mono ?_; rintro e w2 ⟨u, rfl, hu, hb2⟩
          go_wp2_with fail
          refine (HPK.out _ _ hb2 hu).mono ?_; rintro e w3 ⟨rfl, hb3⟩
          have hbW : Bel wr w3 := hb2.trans hb3
          clear hb2 hb3 hu
          have hX3 := hX.bel hbW
          have x0 := hX3.row.cell 0 rfl
          have x3 := hX3.row.cell 3 rfl
          have x4 := hX3.row.cell 4 rfl
          rw [Nat.add_zero] at x0
          clear hX
          by_cases hid : xx.q.b.id = yi
          · have hid' : (xx.q.b.id == yi) = true := by simpa using hid
            have HH := Lib.hid hid
            clear hid
            go_wp2_with fail
            refine (awakeDl_any _).mono ?_; rintro e w4 ⟨rfl, hb4⟩
            go_wp2
            go_ret
            exact ⟨rfl, hb1.trans (hbq.trans (hbW.trans hb4))⟩
          · have hid' : (xx.q.b.id == yi) = false := by simpa using hid
            have hno : ix ≠ k := fun e => hid (HID.out e)
            have HNO := Lib.hid (HCS.out.resolve_left hno)
            clear hid hno
            go_wp2_with fail
            have rg3 := fun d os => cell_regrown x3 d os
            have rg4 := fun d os => cell_regrown x4 d os
            refine wp_region_lex [] 13 (by kernel_rfl) (by kernel_rfl) ?_
            simp only [List.take_succ_cons, List.take_zero, List.drop_succ_cons, List.drop_zero]
            with_reducible refine lex_seg 13 _ _ _ _ (by kernel_rfl) ?_
            simp only [List.take_succ_cons, List.take_zero, List.drop_succ_cons, List.drop_zero]
            try simp only [Act.put, List.setIfInBounds_toArray, List.set_cons_succ, List.set_cons_zero]
            repeat (go_big_quiet_step (fail))
            with_reducible refine wpQuiet_nil ?_
            with_reducible refine lex_nil ?_
            clear rg3 rg4 x0 x3 x4
            go_wp2_with fail
            refine (HWO.out _ (by repeat (first | (with_reducible exact Bel.refl _) | (with_reducible assumption) | (with_reducible refine Bel.drewN ?_ _) | (with_reducible refine Bel.drew ?_) | (with_reducible refine Bel.alloc ?_ _) | (with_reducible refine Bel.setNew ?_ ?_ _) | (with_reducible refine Bel.trans ?_ (by assumption)) | (focus (simp; done)) | (focus (simp; omega))))).mono ?_; rintro e w6 ⟨u6, rfl, hQ6, _, hb6⟩
            have hb56 : Bel wr w6 := (hbW.drew).trans hb6
            obtain ⟨A6, c6, rfl, _, _⟩ := hQ6.form
            go_wp2
            go_roundw
            case rel =>
              obtain ⟨_, g1, g2⟩ := HNO.out
              refine ⟨j + 1, L.eraseIdx x, I.eraseIdx x, _, by go_num, rfl, ?_, HSE, Lib.hid g1, Lib.hid ?_, hQ6, ?_, hbq.trans hb56⟩
              · have := HRS.out; omega
              · have := HRS.out; omega
              · have := HLE.out; omega
            case measure => simp [intOf]; omega
end Go.Proofs.Ytdffpnogfinehaa
