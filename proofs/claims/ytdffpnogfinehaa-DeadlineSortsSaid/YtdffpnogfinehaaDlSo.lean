/- The walk of DeadlineSorts. -/
import Derived.Test.YtdffpnogfinehaaDlS
import Derived.Test.YtdffpnogfinehaaQd
import Derived.Test.YtdffpnogfinehaaAwk
import Derived.Test.YtdffpnogfinehaaPlain
namespace Go.Proofs.Ytdffpnogfinehaa
open Go.RowKit Go.Maps
set_option linter.unusedSimpArgs false

def toT (x : BM) : QM := ⟨⟨x.b, x.b.tim, 0, 0⟩, x.ms⟩
theorem SoI.start {L : List BM} {m : Nat} {t : Int} (h : PlOk t m L) : SoI (L.map toT) (-1) (-1) := by
  have hm : ∀ x ∈ L.map toT, ∃ k y, PlAt t k y ∧ x = toT y := fun x hx => by
    rw [List.mem_map] at hx
    obtain ⟨y, hy, rfl⟩ := hx
    obtain ⟨k, hk⟩ := List.getElem?_of_mem hy
    exact ⟨k, y, h.2 k y hk, rfl⟩
  refine ⟨fun x hx => ?_, fun x hx => ?_, ?_, fun x hx => ?_⟩
  · obtain ⟨k, y, h1, rfl⟩ := hm x hx
    exact h1.knd
  · obtain ⟨k, y, h1, rfl⟩ := hm x hx
    have := h1.tim
    show y.b.tim ≤ 1000
    omega
  · rw [List.pairwise_iff_getElem]
    intro i j hi hj hij
    simp only [List.getElem_map]
    simp only [List.length_map] at hi hj
    have h1 := (h.2 i _ (List.getElem?_eq_getElem hi)).id
    have h2 := (h.2 j _ (List.getElem?_eq_getElem hj)).id
    show L[i].b.id < L[j].b.id
    omega
  · obtain ⟨k, y, h1, rfl⟩ := hm x hx
    have := h1.tim
    left
    show -1 < y.b.tim
    omega

set_option maxRecDepth 100000 in
set_option maxHeartbeats 8000000 in
theorem deadlineSorts_walk (v : Value) (zs : List Int) (head : Int) (w : World) (hz : Ints w v zs) (_ : IsInt head) :
    Calls Try.prog 6 #[v, .int .i64 head] w fun e w' => e = .returned (.bool true) ∧ Bel w w' := by
  obtain ⟨i0, hi0, hz0, hz1, hz2⟩ := info_parts Try.infoQd
  have HQ := Lib.hid (plain_any v zs 3 w hz (by omega) (by omega))
  obtain ⟨A9, c9, rfl, _, _⟩ : ∃ A c, v = .slice A zs.length c ∧ zs.length ≤ c ∧ c ≤ maxLen := by
    obtain ⟨_, A, c, h1, h2, h3, _⟩ := hz
    exact ⟨A, c, h1, h2, h3⟩
  obtain ⟨z8, Hz8⟩ : ∃ z8, Hid (z8 = zs.length) := ⟨_, rfl⟩
  rw [← Hz8.out] at HQ ⊢
  clear hz
  go_enter Try.func6, Try.ntmps6
  go_wp2_with fail
  refine HQ.out.mono ?_; rintro e w1 ⟨bv, L, rfl, hO, hBL, hb1⟩
  have HO := Lib.hid hO
  obtain ⟨A, c, rfl, hc1, hc2⟩ := hBL.form
  unfold maxLen at hc2
  have HAT := Lib.hid (fun k x (hk : L[k]? = some x) => hBL.at hk)
  have HMM := Lib.hid hBL.mem
  have hn8 : L.length ≤ 24 := by rw [hO.1]; omega
  obtain ⟨n, Hn⟩ : ∃ n, Hid (n = L.length) := ⟨_, rfl⟩
  rw [← Hn.out] at hc1 HAT hn8 ⊢
  clear hO hBL HQ
  go_wp2
  go_loopw [6, 7] (fun ov iv wr => ∃ i : Nat, iv = .int .i64 i ∧ i ≤ n ∧ wr.ownsRow w1.heap.size 36 12 ov i (qmc ((L.take i).map toT)) ∧ Bel w1 wr) (fun _ iv _ => n - (intOf iv).toNat)
  case atStart => exact ⟨0, rfl, by omega, ⟨by simp [qmc, qcells], Or.inl ⟨rfl, rfl⟩⟩, Bel.refl _⟩
  obtain ⟨i, rfl, p1, hown, hbr⟩ := hrel
  obtain ⟨Ao, co, rfl⟩ := own_slice hown
  by_cases hlt : i < n
  · have i1 : (i : Int) < (n : Int) := by omega
    obtain ⟨x, hx⟩ : ∃ x, L[i]? = some x := ⟨L[i]'(by have := Hn.out; omega), List.getElem?_eq_getElem _⟩
    obtain ⟨b, o, c9, hX⟩ := HAT.out i x hx
    have hf := hX.form
    simp only [Value.slice.injEq] at hf
    obtain ⟨rfl, _, rfl⟩ := hf
    have hrX := hX.row.bel hbr hX.lt
    have HTK := Lib.hid (show (L.take (i + 1)).map toT = (L.take i).map toT ++ [toT x] by rw [List.take_add_one, hx, List.map_append]; rfl)
    have hws := hbr.size
    clear hX hx
    go_wp2_with fail
    have p0 := (hrX).cell 0 rfl
    have p1 := (hrX).cell 1 rfl
    have p2 := (hrX).cell 2 rfl
    have p3 := (hrX).cell 3 rfl
    have p4 := (hrX).cell 4 rfl
    have p5 := (hrX).cell 5 rfl
    have p6 := (hrX).cell 6 rfl
    have p7 := (hrX).cell 7 rfl
    have p8 := (hrX).cell 8 rfl
    rw [Nat.add_zero] at p0
    have r0 := fun d os => cell_regrown p0 d os
    have r1 := fun d os => cell_regrown p1 d os
    have r2 := fun d os => cell_regrown p2 d os
    have r3 := fun d os => cell_regrown p3 d os
    have r4 := fun d os => cell_regrown p4 d os
    have r5 := fun d os => cell_regrown p5 d os
    have r6 := fun d os => cell_regrown p6 d os
    have r7 := fun d os => cell_regrown p7 d os
    have r8 := fun d os => cell_regrown p8 d os
    refine wp_region_lex [11] 12 (by kernel_rfl) (by kernel_rfl) ?_
    simp only [List.take_succ_cons, List.take_zero, List.drop_succ_cons, List.drop_zero]
    with_reducible refine lex_seg 11 _ _ _ _ (by kernel_rfl) ?_
    simp only [List.take_succ_cons, List.take_zero, List.drop_succ_cons, List.drop_zero]
    try simp only [Act.put, List.setIfInBounds_toArray, List.set_cons_succ, List.set_cons_zero]
    repeat (go_big_quiet_step (fail))
    with_reducible refine wpQuiet_nil ?_
    refine lex_made rfl rfl (by simp [go_sem]; exact ⟨rfl, rfl⟩) (Bel.alloc (Bel.refl _) _) ?_
    try simp only [Act.put, List.setIfInBounds_toArray, List.set_cons_succ, List.set_cons_zero]
    with_reducible refine lex_nil ?_
    clear r0 r1 r2 r3 r4 r5 r6 r7 r8
    clear p0 p1 p2 p3 p4 p5 p6 p7 p8
    clear hrX
    go_wp2_with (at_builtin; go_must (refine wpList_append_own_at _ rfl _ _ 23 rfl w1.heap.size 36 i0 _ 12 120 Try.underlying23 hi0 hz0 hz1 hz2 rfl (by omega) (.slice Ao i co) _ _ rfl (own_keep (hown.alloc (.cells #[.int .i64 ((⟨x.b, x.b.tim, 0, 0⟩ : Qd)).b.id, .int .i64 ((⟨x.b, x.b.tim, 0, 0⟩ : Qd)).b.ten, .int .i64 ((⟨x.b, x.b.tim, 0, 0⟩ : Qd)).b.knd, .int .i64 ((⟨x.b, x.b.tim, 0, 0⟩ : Qd)).b.sec, .int .i64 ((⟨x.b, x.b.tim, 0, 0⟩ : Qd)).b.cnt, .string ((⟨x.b, x.b.tim, 0, 0⟩ : Qd)).b.dat, .bool ((⟨x.b, x.b.tim, 0, 0⟩ : Qd)).b.fua, .slice ((⟨x.b, x.b.tim, 0, 0⟩ : Qd)).b.mA ((⟨x.b, x.b.tim, 0, 0⟩ : Qd)).b.mL ((⟨x.b, x.b.tim, 0, 0⟩ : Qd)).b.mC, .int .i64 ((⟨x.b, x.b.tim, 0, 0⟩ : Qd)).b.tim, .int .i64 ((⟨x.b, x.b.tim, 0, 0⟩ : Qd)).due, .int .i64 ((⟨x.b, x.b.tim, 0, 0⟩ : Qd)).sta, .int .i64 ((⟨x.b, x.b.tim, 0, 0⟩ : Qd)).tri] 36)) (Bel.drew (Bel.refl _))) ⟨wr.heap.size, 0, none⟩ 1 1 (⟨x.b, x.b.tim, 0, 0⟩ : Qd).cells rfl rfl (World.news_of_block (cs := #[.int .i64 ((⟨x.b, x.b.tim, 0, 0⟩ : Qd)).b.id, .int .i64 ((⟨x.b, x.b.tim, 0, 0⟩ : Qd)).b.ten, .int .i64 ((⟨x.b, x.b.tim, 0, 0⟩ : Qd)).b.knd, .int .i64 ((⟨x.b, x.b.tim, 0, 0⟩ : Qd)).b.sec, .int .i64 ((⟨x.b, x.b.tim, 0, 0⟩ : Qd)).b.cnt, .string ((⟨x.b, x.b.tim, 0, 0⟩ : Qd)).b.dat, .bool ((⟨x.b, x.b.tim, 0, 0⟩ : Qd)).b.fua, .slice ((⟨x.b, x.b.tim, 0, 0⟩ : Qd)).b.mA ((⟨x.b, x.b.tim, 0, 0⟩ : Qd)).b.mL ((⟨x.b, x.b.tim, 0, 0⟩ : Qd)).b.mC, .int .i64 ((⟨x.b, x.b.tim, 0, 0⟩ : Qd)).b.tim, .int .i64 ((⟨x.b, x.b.tim, 0, 0⟩ : Qd)).due, .int .i64 ((⟨x.b, x.b.tim, 0, 0⟩ : Qd)).sta, .int .i64 ((⟨x.b, x.b.tim, 0, 0⟩ : Qd)).tri]) (t := 36) (fr := (0, 0)) (heap_alloc_new wr _)) (qd_one _) (by unfold maxLen; omega) (by omega) (by simp; omega) ?_); intro v' w3 hown' hg' _ _; obtain ⟨gn, cn, hvn, _, _⟩ := hown'.form (by omega); subst hvn)
    have hb3 : Bel w1 w3 := bel_own (hbr.alloc _).drew (own_keep (hown.alloc (.cells #[.int .i64 ((⟨x.b, x.b.tim, 0, 0⟩ : Qd)).b.id, .int .i64 ((⟨x.b, x.b.tim, 0, 0⟩ : Qd)).b.ten, .int .i64 ((⟨x.b, x.b.tim, 0, 0⟩ : Qd)).b.knd, .int .i64 ((⟨x.b, x.b.tim, 0, 0⟩ : Qd)).b.sec, .int .i64 ((⟨x.b, x.b.tim, 0, 0⟩ : Qd)).b.cnt, .string ((⟨x.b, x.b.tim, 0, 0⟩ : Qd)).b.dat, .bool ((⟨x.b, x.b.tim, 0, 0⟩ : Qd)).b.fua, .slice ((⟨x.b, x.b.tim, 0, 0⟩ : Qd)).b.mA ((⟨x.b, x.b.tim, 0, 0⟩ : Qd)).b.mL ((⟨x.b, x.b.tim, 0, 0⟩ : Qd)).b.mC, .int .i64 ((⟨x.b, x.b.tim, 0, 0⟩ : Qd)).b.tim, .int .i64 ((⟨x.b, x.b.tim, 0, 0⟩ : Qd)).due, .int .i64 ((⟨x.b, x.b.tim, 0, 0⟩ : Qd)).sta, .int .i64 ((⟨x.b, x.b.tim, 0, 0⟩ : Qd)).tri] 36)) (Bel.drew (Bel.refl _))) hg' (Nat.le_refl _)
    go_roundw
    case rel =>
      refine ⟨i + 1, by go_num, by omega, ?_, hb3⟩
      rw [HTK.out, qmc_snoc]
      exact hown'
    case measure => simp [intOf]; omega
  · obtain rfl : i = n := by omega
    have i1 : decide ((i : Int) < (i : Int)) = false := by simp
    have hQ0 : QL wr (.slice Ao i co) (L.map toT) := by
      refine ⟨?_, fun x hx => ?_⟩
      · have h9 := Rd.own hown
        rw [List.take_of_length_le (by have := Hn.out; omega)] at h9
        rw [List.length_map, ← Hn.out]; exact h9
      · rw [List.mem_map] at hx
        obtain ⟨y, hy, rfl⟩ := hx
        exact (HMM.out y hy).bel hbr
    have HQ0 := Lib.hid hQ0
    obtain ⟨r0, Hr0⟩ : ∃ h, Hid (h = rnd head 100) := ⟨_, rfl⟩
    have HSW := Lib.hid (SoI.start HO.out)
    have HLN := Lib.hid (show (L.map toT).length = i by rw [List.length_map, Hn.out])
    generalize L.map toT = L1 at *
    clear hQ0 hown HAT HMM HO
    go_wp2
    obtain ⟨Z, rfl⟩ : ∃ Z, Z = wr := ⟨_, rfl⟩
    go_loopw [6, 8, 9, 10] (fun qv lv dv nv wr => ∃ (L : List QM) (last id : Int), lv = .int .i64 last ∧ dv = .int .i64 id ∧ nv = .int .i64 L.length ∧ Hid (SoI L last id) ∧ QL wr qv L ∧ L.length ≤ 24 ∧ Bel w1 wr) (fun _ _ _ nv _ => (intOf nv).toNat)
    case atStart =>
      refine ⟨L1, -1, -1, rfl, rfl, by rw [HLN.out], HSW, ?_, by rw [HLN.out]; exact hn8, hbr⟩
      exact HQ0.out
    case round =>
      obtain ⟨M, last, id, rfl, rfl, rfl, HSI, hQ, hl8, hbq⟩ := hrel
      clear HQ0 HLN HSW
      by_cases h0 : 0 < M.length
      · obtain ⟨x, y, hpd, hxL, hxx, hle, hli, hsi⟩ := sort_step r0 HSI.out h0
        have HSI2 := Lib.hid hsi
        have HLI := Lib.hid hli
        clear hsi hli
        obtain ⟨Aq, cq, rfl, hq1, hq2⟩ := hQ.form
        unfold maxLen at hq2
        obtain ⟨l, Hl⟩ : ∃ l, Hid (l = M.length) := ⟨_, rfl⟩
        have hFR := fun w' (hb : Bel wr w') => free_any M [] _ _ w' (hQ.bel hb) (BL.nil w') (by omega)
        have hPK := fun w' u (hb : Bel wr w') (hr : Rd w' u 1 (freeN M [] M.length).length (bcells (freeN M [] M.length))) => dlPickAll_any M (freeN M [] M.length) r0 1000 _ u w' (hQ.bel hb) hr (by omega)
        have hWO := fun w' (hb : Bel wr w') => without_any M x _ w' (hQ.bel hb) (by omega) hxL
        rw [hpd] at hPK
        obtain ⟨b', o', c9', hX⟩ := hQ.at hxx
        have HLE := Lib.hid (show (M.eraseIdx x).length + 1 = M.length by rw [List.length_eraseIdx, if_pos hxL]; omega)
        rw [← Hl.out] at hq1 hl8 hxL hFR hPK hWO hX HLE h0 ⊢
        have HFR := Lib.hid hFR
        have HPK := Lib.hid hPK
        have HWO := Lib.hid hWO
        have hf := hX.form
        simp only [Value.slice.injEq] at hf
        obtain ⟨rfl, _, rfl⟩ := hf
        clear hFR hPK hWO hpd hxx hQ
        have k0 : (0 : Int) ≤ (x : Int) := by omega
        have k1 : (x : Int) < (l : Int) := by omega
        have k8 : decide ((x : Int) < 0) = false := by simp
        have k7 : decide ((l : Int) ≤ (x : Int)) = false := by simp; omega
        have k6 : decide (l ≤ x) = false := by simp; omega
        have k5 : (0 : Int) < (l : Int) := by omega
        go_wp2_with fail
        refine (HFR.out _ (Bel.refl _)).mono ?_; rintro e w2 ⟨u, rfl, hu, hb2⟩
        go_wp2_with fail
        refine (round_any head 100 _ (by omega)).mono ?_; rw [← Hr0.out]; rintro e w9 ⟨rfl, rfl⟩; go_wp2_with fail
        refine (HPK.out _ _ hb2 hu).mono ?_; rintro e w3 ⟨rfl, hb3⟩
        have hbW : Bel wr w3 := hb2.trans hb3
        clear hb2 hb3 hu
        have hX3 := hX.bel hbW
        have x9 := hX3.row.cell 9 rfl
        have x0 := hX3.row.cell 0 rfl
        rw [Nat.add_zero] at x0
        clear hX hX3
        have d1 : decide (y.q.due < last) = false := by simp; omega
        by_cases hlt : y.q.due = last
        · have hid2 := HLI.out hlt.symm
          have d2 : (y.q.due == last) = true := by simpa using hlt
          have d3 : decide (y.q.b.id < id) = false := by simp; omega
          clear hlt hid2
          go_wp2_with fail
          have rg0 := fun d os => cell_regrown x0 d os
          have rg9 := fun d os => cell_regrown x9 d os
          refine wp_region_st [] 13 (by kernel_rfl) (by kernel_rfl) ?_
          with_reducible refine st_sel [0, 1, 2, 3, 4, 5, 6, 7, 8, 9, 10, 11, 12] (by kernel_rfl) (by kernel_rfl) ?_
          simp only [picked, List.getElem?_cons_succ, List.getElem?_cons_zero, Option.toList_some, List.nil_append, List.cons_append, List.append_nil]
          try simp only [Act.put, List.setIfInBounds_toArray, List.set_cons_succ, List.set_cons_zero]
          repeat (go_big_quiet_step (fail))
          with_reducible refine wpQuiet_nil ?_
          refine st_end (by kernel_rfl) ?_
          simp only [List.drop_succ_cons, List.drop_zero, List.drop_nil]
          skip
          clear rg0 rg9 x0 x9
          go_wp2_with fail
          refine (HWO.out _ (by repeat (first | (with_reducible exact Bel.refl _) | (with_reducible assumption) | (with_reducible refine Bel.drewN ?_ _) | (with_reducible refine Bel.drew ?_) | (with_reducible refine Bel.alloc ?_ _) | (with_reducible refine Bel.setNew ?_ ?_ _) | (with_reducible refine Bel.trans ?_ (by assumption)) | (focus (simp; done)) | (focus (simp; omega))))).mono ?_; rintro e w6 ⟨u6, rfl, hQ6, _, hb6⟩
          have hb56 : Bel wr w6 := (hbW.drew).trans hb6
          obtain ⟨A6, c6, rfl, _, _⟩ := hQ6.form
          go_wp2
          go_roundw
          case rel =>
            refine ⟨M.eraseIdx x, y.q.due, y.q.b.id, rfl, rfl, ?_, HSI2, hQ6, ?_, hbq.trans hb56⟩
            · have h9 := HLE.out; rw [show (((M.eraseIdx x).length : Nat) : Int) = (l : Int) - 1 by omega]
            · have := HLE.out; omega
          case measure => simp [intOf]; omega
        · have d2 : (y.q.due == last) = false := by simpa using hlt
          clear hlt
          go_wp2_with fail
          have rg0 := fun d os => cell_regrown x0 d os
          have rg9 := fun d os => cell_regrown x9 d os
          refine wp_region_st [] 13 (by kernel_rfl) (by kernel_rfl) ?_
          with_reducible refine st_sel [0, 1, 2, 3, 4, 5, 6, 7, 8, 9, 10, 11, 12] (by kernel_rfl) (by kernel_rfl) ?_
          simp only [picked, List.getElem?_cons_succ, List.getElem?_cons_zero, Option.toList_some, List.nil_append, List.cons_append, List.append_nil]
          try simp only [Act.put, List.setIfInBounds_toArray, List.set_cons_succ, List.set_cons_zero]
          repeat (go_big_quiet_step (fail))
          with_reducible refine wpQuiet_nil ?_
          refine st_end (by kernel_rfl) ?_
          simp only [List.drop_succ_cons, List.drop_zero, List.drop_nil]
          skip
          clear rg0 rg9 x0 x9
          go_wp2_with fail
          refine (HWO.out _ (by repeat (first | (with_reducible exact Bel.refl _) | (with_reducible assumption) | (with_reducible refine Bel.drewN ?_ _) | (with_reducible refine Bel.drew ?_) | (with_reducible refine Bel.alloc ?_ _) | (with_reducible refine Bel.setNew ?_ ?_ _) | (with_reducible refine Bel.trans ?_ (by assumption)) | (focus (simp; done)) | (focus (simp; omega))))).mono ?_; rintro e w6 ⟨u6, rfl, hQ6, _, hb6⟩
          have hb56 : Bel wr w6 := (hbW.drew).trans hb6
          obtain ⟨A6, c6, rfl, _, _⟩ := hQ6.form
          go_wp2
          go_roundw
          case rel =>
            refine ⟨M.eraseIdx x, y.q.due, y.q.b.id, rfl, rfl, ?_, HSI2, hQ6, ?_, hbq.trans hb56⟩
            · have h9 := HLE.out; rw [show (((M.eraseIdx x).length : Nat) : Int) = (l : Int) - 1 by omega]
            · have := HLE.out; omega
          case measure => simp [intOf]; omega
      · have e0 : M.length = 0 := by omega
        rw [e0]
        go_wp2_with fail
        refine (awakeDl_any _).mono ?_; rintro e w2 ⟨rfl, hb2⟩
        go_wp2
        go_ret
        exact ⟨rfl, hb1.trans (hbq.trans hb2)⟩
end Go.Proofs.Ytdffpnogfinehaa
