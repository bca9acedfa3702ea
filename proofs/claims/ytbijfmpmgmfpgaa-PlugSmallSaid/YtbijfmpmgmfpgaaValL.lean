/- merge.Valid: the loop over the members. -/
import Derived.Test.YtbijfmpmgmfpgaaVal
namespace Go.Proofs.Ytbijfmpmgmfpgaa
open Go.RowKit Go.Maps
set_option linter.unusedSimpArgs false

theorem mems_at {w : World} {A : Option Addr} {c : Nat} {ms : List Mem} {k : Nat} {m : Mem} (h : Rd w (.slice A ms.length c) 3 ms.length (mcells ms)) (hk : ms[k]? = some m) :
    ∃ b o, A = some ⟨b, o, none⟩ ∧ b < w.heap.size ∧ InRow w b (o + k * 3) m.cells := by
  have h0 := (List.getElem?_eq_some_iff.1 hk).1
  obtain ⟨b, o, c', hv, hb, hc⟩ := h.at (by omega)
  cases hv
  exact ⟨b, o, rfl, hb, row_at Mem.cells_len hc hk⟩
theorem wpList_lookup_own_bool {H : Type} {P : Program} (w : World) {ops : Array Oper} {rest : List Oper} {o : Oper} {a : Act} {Q : Exit → Act → World → Prop}
    (hg : o.guard = none) (m x : Operand) (t : TypeId) (hop : o.op = Op.lookup t m x false)
    (k e : TypeId) (K : Keyed P k) (ht : P.underlying t = some (.map k e)) (he : P.underlying e = some .bool) (hz : (zeroValue e).run P w = .ok (.bool false) w) (b n : Nat) (D : DataW H)
    (hm : a.eval m = .map (some b)) (hown : w.ownsMap P k (plainElem P e) b n D) (key : Value) (kl : Lit) (hx : a.eval x = key) (hkey : keyOf P k key = some kl) (c : Bool) (hc : D.atKey kl (.lit (.bool false)) = .lit (.bool c))
    (hK : wpList P ops Q rest (a.put o.dst (.bool c)) w) :
    wpList P ops Q (o :: rest) a w := by
  refine wpList_plain hg fun K' hK' => ?_
  have hrun := own_lookup_bool hown K ht he hz hkey hc
  unfold Oper.wp
  simp [execOp, hop, hm, hx, hrun, Result.andThen]
  exact hK' _ _ hK
theorem bel_map {a w w' : World} {B : Nat} (h : Bel a w) (hg : w.grownBy w' (some B)) (hB : a.heap.size ≤ B) : Bel a w' :=
  Below.grown h hg h.size fun k hk => by cases hk; exact hB
theorem int_wf {n : Int} (h : IsInt n) : (Lit.int .i64 n).wf = true := by
  unfold IsInt at h
  exact WalkArith.wf_i64 h

set_option maxRecDepth 100000 in
set_option maxHeartbeats 4000000 in
theorem mergeValid_yes (b : Bun) (ms : List Mem) (w : World) (hm : Mems w b ms) (h : 0 ≤ b.sec ∧ b.sec < 128 ∧ 1 ≤ b.cnt ∧ b.cnt ≤ 128 - b.sec) (hd : dataOk b = true) :
    Calls Try.prog 18 #[.agg #[.int .i64 (b).id, .int .i64 (b).ten, .int .i64 (b).knd, .int .i64 (b).sec, .int .i64 (b).cnt, .string (b).dat, .bool (b).fua, .slice (b).mA (b).mL (b).mC, .int .i64 (b).tim]] w fun e w' => e = .returned (.bool (memOk b.cnt [] 0 ms)) ∧ Bel w w' := by
  obtain ⟨id, ten, knd, sec, cnt, dat, fua, mA, mL, mC, tim⟩ := b
  simp only at h ⊢
  obtain ⟨h1, h2, h3, h4⟩ := h
  obtain ⟨hml, hrd, hi, hl⟩ := hm
  simp only at hml hrd hl
  subst hml
  have HMEM := Lib.hid (fun k m (hk : ms[k]? = some m) => mems_at hrd hk)
  obtain ⟨_, hcp, hmx⟩ : ∃ x : Unit, ms.length ≤ mC ∧ mC ≤ maxLen := by
    obtain ⟨A, c, hv, h5, h6⟩ := hrd.form
    cases hv
    exact ⟨(), h5, h6⟩
  unfold maxLen at hmx
  clear hrd
  unfold dataOk at hd
  unfold maxLen at hl
  simp only at hd hl
  obtain ⟨V, HV⟩ : ∃ V, Hid (V = memOk cnt [] 0 ms) := ⟨_, rfl⟩
  rw [← HV.out]
  have HI := Lib.hid hi
  clear hi
  obtain ⟨n, Hn⟩ : ∃ n, Hid (n = ms.length) := ⟨_, rfl⟩
  rw [← Hn.out] at hcp ⊢
  have hmm := @run_makeMap Try.prog
  by_cases k1 : knd = 1
  · subst k1
    have hd2 : dat.size = 0 := by simpa using hd
    have hd3 := dat_none hd2
    have hd4 := dat_none' hd2
    clear hd hd2
    go_enter Try.func18, Try.ntmps18
    go_wp2
    clear hmm
    have hX0 : Bel w (w.alloc (.cells #[.int .i64 id, .int .i64 ten, .int .i64 1, .int .i64 sec, .int .i64 cnt, .string dat, .bool fua, .slice mA n mC, .int .i64 tim] 27)) := (Bel.refl w).alloc _
    have hA0 := AtF.new w 27 [.int .i64 id, .int .i64 ten, .int .i64 1, .int .i64 sec, .int .i64 cnt, .string dat, .bool fua, .slice mA n mC, .int .i64 tim]
    have hown0 := World.ownsMap_made (H := Unit) (w.alloc (.cells #[.int .i64 id, .int .i64 ten, .int .i64 1, .int .i64 sec, .int .i64 cnt, .string dat, .bool fua, .slice mA n mC, .int .i64 tim] 27)) Try.prog 3 (plainElem Try.prog 4)
    have hb0 : Bel (w.alloc (.cells #[.int .i64 id, .int .i64 ten, .int .i64 1, .int .i64 sec, .int .i64 cnt, .string dat, .bool fua, .slice mA n mC, .int .i64 tim] 27)) ((w.alloc (.cells #[.int .i64 id, .int .i64 ten, .int .i64 1, .int .i64 sec, .int .i64 cnt, .string dat, .bool fua, .slice mA n mC, .int .i64 tim] 27)).alloc (.map #[] 0)) := (Bel.refl _).alloc _
    simp only [World.size_alloc] at hown0
    have hB0 : (w.alloc (.cells #[.int .i64 id, .int .i64 ten, .int .i64 1, .int .i64 sec, .int .i64 cnt, .string dat, .bool fua, .slice mA n mC, .int .i64 tim] 27)).heap.size ≤ w.heap.size + 1 := by simp
    simp only [List.toArray] at hA0
    generalize (w.alloc (.cells #[.int .i64 id, .int .i64 ten, .int .i64 1, .int .i64 sec, .int .i64 cnt, .string dat, .bool fua, .slice mA n mC, .int .i64 tim] 27)) = X0 at *
    generalize X0.alloc (.map #[] 0) = X1 at *
    obtain ⟨M, hM⟩ : ∃ M, M = w.heap.size + 1 := ⟨_, rfl⟩
    rw [← hM] at hown0 hB0 ⊢
    have hMw : w.heap.size < M := by omega
    clear hM
    go_loopw [4, 48] (fun nv iv wr => ∃ (k : Nat) (x : Int) (seen : List Int), nv = .int .i64 x ∧ iv = .int .i64 k ∧ k ≤ n ∧ 0 ≤ x ∧ x ≤ cnt ∧ Hid (V = memOk cnt seen x (ms.drop k)) ∧ wr.ownsMap Try.prog 3 (plainElem Try.prog 4) M k (seenD seen) ∧ Bel X0 wr) (fun _ iv _ => n - (intOf iv).toNat)
    case atStart => exact ⟨0, 0, [], rfl, rfl, by omega, by omega, by omega, by simpa using HV, hown0, hb0⟩
    case round =>
      obtain ⟨k, x, seen, rfl, rfl, p1, x0, x1, HVr, hown, hbr⟩ := hrel
      clear hown0 hb0
      have c4 := (hA0.bel hbr).1.2 4 _ rfl
      by_cases hlt : k < n
      · obtain ⟨m, hmk⟩ : ∃ m, ms[k]? = some m := ⟨ms[k]'(by have := Hn.out; omega), List.getElem?_eq_getElem _⟩
        obtain ⟨mb, mo, rfl, hmb, hrow⟩ := HMEM.out k m hmk
        have hid := int_wf (HI.out m (List.mem_of_getElem? hmk))
        have hrow := (hrow.bel hX0 hmb).bel hbr (Nat.lt_of_lt_of_le hmb hX0.size)
        have d0 := hrow.cell 0 rfl
        have d1 := hrow.cell 1 rfl
        have d2 := hrow.cell 2 rfl
        rw [Nat.add_zero] at d0
        obtain ⟨ids, off, mc⟩ := m
        simp only at d0 d1 d2 hid
        have hmd : ms.drop k = ⟨ids, off, mc⟩ :: ms.drop (k + 1) := by
          obtain ⟨g1, g2⟩ := List.getElem?_eq_some_iff.1 hmk
          rw [← g2, List.drop_eq_getElem_cons g1]
        rw [hmd] at HVr
        have k1 : (k : Int) < (n : Int) := by omega
        have hlk := World.block_lt_of_cell? _ _ d0
        have hlc := World.block_lt_of_cell? _ _ c4
        have hMr : X0.heap.size ≤ M := hB0
        have hMl := hown.lt
        have hkey := keyOf_int_mk Try.underlying3 hid
        clear hmk hmd hrow hmb HMEM
        have hsat := seenD_at ids seen
        cases hs : seen.contains ids
        · rw [hs] at hsat
          by_cases e1 : off = x
          · subst e1
            by_cases e2 : mc < 1
            · have HF : Hid (V = false) := by show _ = _; rw [HVr.out, memOk, if_pos (.inr (.inr (.inl e2)))]
              clear HVr
              go_wp2_with (first | (at_lookup; refine wpList_lookup_own_bool _ rfl _ _ 85 rfl 3 4 Try.keyInt Try.underlying85 Try.underlying4 (Try.zeroBool _) M k _ rfl (hown.alloc _) _ _ rfl hkey _ hsat ?_) | (at_mapUpdate; refine wpList_mapUpdate_own _ rfl _ _ _ 85 rfl 3 4 Try.keyInt Try.underlying85 _ M k _ rfl (hown.alloc _) (by unfold maxLen; omega) _ _ _ rfl rfl hkey _ [] (plainElem_bool Try.underlying4 true) ?_; intro w1 hown1 hgrow1; have g2 : w1.cell? ⟨wr.heap.size, 2, none⟩ = some (.int .i64 mc) := (hgrow1.cell_far ⟨wr.heap.size, 2, none⟩ (by simp) (by simp; omega)).trans (by simp [go_sem]); have c4' : w1.cell? ⟨w.heap.size, 4, none⟩ = some (.int .i64 cnt) := (hgrow1.cell_far ⟨w.heap.size, 4, none⟩ (by simp; omega) (by simp; omega)).trans ((World.cell?_alloc_past _ _ _ hlc).trans c4)))
              go_ret
              exact ⟨ret_bool HF.out.symm, (by repeat (first | (with_reducible exact Bel.refl _) | (with_reducible assumption) | (with_reducible refine Bel.drewN ?_ _) | (with_reducible refine Bel.drew ?_) | (with_reducible refine Bel.alloc ?_ _) | (with_reducible refine Bel.setNew ?_ ?_ _) | (with_reducible refine Bel.trans ?_ (by assumption)) | (focus (simp; done)) | (focus (simp; omega))))⟩
            · by_cases e3 : cnt - off < mc
              · have HF : Hid (V = false) := by show _ = _; rw [HVr.out, memOk, if_pos (.inr (.inr (.inr e3)))]
                clear HVr
                go_wp2_with (first | (at_lookup; refine wpList_lookup_own_bool _ rfl _ _ 85 rfl 3 4 Try.keyInt Try.underlying85 Try.underlying4 (Try.zeroBool _) M k _ rfl (hown.alloc _) _ _ rfl hkey _ hsat ?_) | (at_mapUpdate; refine wpList_mapUpdate_own _ rfl _ _ _ 85 rfl 3 4 Try.keyInt Try.underlying85 _ M k _ rfl (hown.alloc _) (by unfold maxLen; omega) _ _ _ rfl rfl hkey _ [] (plainElem_bool Try.underlying4 true) ?_; intro w1 hown1 hgrow1; have g2 : w1.cell? ⟨wr.heap.size, 2, none⟩ = some (.int .i64 mc) := (hgrow1.cell_far ⟨wr.heap.size, 2, none⟩ (by simp) (by simp; omega)).trans (by simp [go_sem]); have c4' : w1.cell? ⟨w.heap.size, 4, none⟩ = some (.int .i64 cnt) := (hgrow1.cell_far ⟨w.heap.size, 4, none⟩ (by simp; omega) (by simp; omega)).trans ((World.cell?_alloc_past _ _ _ hlc).trans c4)))
                go_ret
                exact ⟨ret_bool HF.out.symm, (by repeat (first | (with_reducible exact Bel.refl _) | (with_reducible assumption) | (with_reducible refine Bel.drewN ?_ _) | (with_reducible refine Bel.drew ?_) | (with_reducible refine Bel.alloc ?_ _) | (with_reducible refine Bel.setNew ?_ ?_ _) | (with_reducible refine Bel.trans ?_ (by assumption)) | (focus (simp; done)) | (focus (simp; omega))))⟩
              · have HF : Hid (V = memOk cnt (ids :: seen) (off + mc) (ms.drop (k + 1))) := by show _ = _; rw [HVr.out, memOk, if_neg (by simp only [hs]; simp; omega)]
                clear HVr
                go_wp2_with (first | (at_lookup; refine wpList_lookup_own_bool _ rfl _ _ 85 rfl 3 4 Try.keyInt Try.underlying85 Try.underlying4 (Try.zeroBool _) M k _ rfl (hown.alloc _) _ _ rfl hkey _ hsat ?_) | (at_mapUpdate; refine wpList_mapUpdate_own _ rfl _ _ _ 85 rfl 3 4 Try.keyInt Try.underlying85 _ M k _ rfl (hown.alloc _) (by unfold maxLen; omega) _ _ _ rfl rfl hkey _ [] (plainElem_bool Try.underlying4 true) ?_; intro w1 hown1 hgrow1; have g2 : w1.cell? ⟨wr.heap.size, 2, none⟩ = some (.int .i64 mc) := (hgrow1.cell_far ⟨wr.heap.size, 2, none⟩ (by simp) (by simp; omega)).trans (by simp [go_sem]); have c4' : w1.cell? ⟨w.heap.size, 4, none⟩ = some (.int .i64 cnt) := (hgrow1.cell_far ⟨w.heap.size, 4, none⟩ (by simp; omega) (by simp; omega)).trans ((World.cell?_alloc_past _ _ _ hlc).trans c4)))
                go_roundw
                case rel =>
                  exact ⟨k + 1, off + mc, ids :: seen, rfl, by go_num, by omega, by omega, by omega, HF, hown1, bel_map (hbr.alloc _) hgrow1 hMr⟩
                case measure => simp [intOf]; omega
          · have HF : Hid (V = false) := by show _ = _; rw [HVr.out, memOk, if_pos (.inr (.inl e1))]
            have e1' : (off != x) = true := by simpa using e1
            clear HVr e1
            go_wp2_with (first | (at_lookup; refine wpList_lookup_own_bool _ rfl _ _ 85 rfl 3 4 Try.keyInt Try.underlying85 Try.underlying4 (Try.zeroBool _) M k _ rfl (hown.alloc _) _ _ rfl hkey _ hsat ?_) | (at_mapUpdate; refine wpList_mapUpdate_own _ rfl _ _ _ 85 rfl 3 4 Try.keyInt Try.underlying85 _ M k _ rfl (hown.alloc _) (by unfold maxLen; omega) _ _ _ rfl rfl hkey _ [] (plainElem_bool Try.underlying4 true) ?_; intro w1 hown1 hgrow1; have g2 : w1.cell? ⟨wr.heap.size, 2, none⟩ = some (.int .i64 mc) := (hgrow1.cell_far ⟨wr.heap.size, 2, none⟩ (by simp) (by simp; omega)).trans (by simp [go_sem]); have c4' : w1.cell? ⟨w.heap.size, 4, none⟩ = some (.int .i64 cnt) := (hgrow1.cell_far ⟨w.heap.size, 4, none⟩ (by simp; omega) (by simp; omega)).trans ((World.cell?_alloc_past _ _ _ hlc).trans c4)))
            go_ret
            exact ⟨ret_bool HF.out.symm, (by repeat (first | (with_reducible exact Bel.refl _) | (with_reducible assumption) | (with_reducible refine Bel.drewN ?_ _) | (with_reducible refine Bel.drew ?_) | (with_reducible refine Bel.alloc ?_ _) | (with_reducible refine Bel.setNew ?_ ?_ _) | (with_reducible refine Bel.trans ?_ (by assumption)) | (focus (simp; done)) | (focus (simp; omega))))⟩
        · rw [hs] at hsat
          have HF : Hid (V = false) := by show _ = _; rw [HVr.out, memOk, if_pos (.inl hs)]
          clear HVr
          go_wp2_with (first | (at_lookup; refine wpList_lookup_own_bool _ rfl _ _ 85 rfl 3 4 Try.keyInt Try.underlying85 Try.underlying4 (Try.zeroBool _) M k _ rfl (hown.alloc _) _ _ rfl hkey _ hsat ?_) | (at_mapUpdate; refine wpList_mapUpdate_own _ rfl _ _ _ 85 rfl 3 4 Try.keyInt Try.underlying85 _ M k _ rfl (hown.alloc _) (by unfold maxLen; omega) _ _ _ rfl rfl hkey _ [] (plainElem_bool Try.underlying4 true) ?_; intro w1 hown1 hgrow1; have g2 : w1.cell? ⟨wr.heap.size, 2, none⟩ = some (.int .i64 mc) := (hgrow1.cell_far ⟨wr.heap.size, 2, none⟩ (by simp) (by simp; omega)).trans (by simp [go_sem]); have c4' : w1.cell? ⟨w.heap.size, 4, none⟩ = some (.int .i64 cnt) := (hgrow1.cell_far ⟨w.heap.size, 4, none⟩ (by simp; omega) (by simp; omega)).trans ((World.cell?_alloc_past _ _ _ hlc).trans c4)))
          go_ret
          exact ⟨ret_bool HF.out.symm, (by repeat (first | (with_reducible exact Bel.refl _) | (with_reducible assumption) | (with_reducible refine Bel.drewN ?_ _) | (with_reducible refine Bel.drew ?_) | (with_reducible refine Bel.alloc ?_ _) | (with_reducible refine Bel.setNew ?_ ?_ _) | (with_reducible refine Bel.trans ?_ (by assumption)) | (focus (simp; done)) | (focus (simp; omega))))⟩
      · obtain rfl : k = n := by omega
        have hdr : ms.drop k = [] := List.drop_eq_nil_of_le (by have := Hn.out; omega)
        rw [hdr] at HVr
        have k1 : decide ((k : Int) < (k : Int)) = false := by simp
        have HF : Hid (V = (x == cnt)) := by show _ = _; rw [HVr.out, memOk]
        clear HVr hdr
        go_wp2
        go_ret
        exact ⟨ret_bool HF.out.symm, (by repeat (first | (with_reducible exact Bel.refl _) | (with_reducible assumption) | (with_reducible refine Bel.drewN ?_ _) | (with_reducible refine Bel.drew ?_) | (with_reducible refine Bel.alloc ?_ _) | (with_reducible refine Bel.setNew ?_ ?_ _) | (with_reducible refine Bel.trans ?_ (by assumption)) | (focus (simp; done)) | (focus (simp; omega))))⟩
  · rw [if_neg k1] at hd
    have k1' : (knd == 1) = false := by simpa using k1
    have HK := Lib.hid k1
    clear k1
    obtain rfl : knd = 2 := by
      by_cases k2 : knd = 2
      · exact k2
      · rw [if_neg k2] at hd; cases hd
    simp only [if_true] at hd
    have hd2 : ((dat.size : Int) != cnt * 8) = false := by simpa using hd
    clear hd
    go_enter Try.func18, Try.ntmps18
    go_wp2
    clear hmm
    have hX0 : Bel w (w.alloc (.cells #[.int .i64 id, .int .i64 ten, .int .i64 2, .int .i64 sec, .int .i64 cnt, .string dat, .bool fua, .slice mA n mC, .int .i64 tim] 27)) := (Bel.refl w).alloc _
    have hA0 := AtF.new w 27 [.int .i64 id, .int .i64 ten, .int .i64 2, .int .i64 sec, .int .i64 cnt, .string dat, .bool fua, .slice mA n mC, .int .i64 tim]
    have hown0 := World.ownsMap_made (H := Unit) (w.alloc (.cells #[.int .i64 id, .int .i64 ten, .int .i64 2, .int .i64 sec, .int .i64 cnt, .string dat, .bool fua, .slice mA n mC, .int .i64 tim] 27)) Try.prog 3 (plainElem Try.prog 4)
    have hb0 : Bel (w.alloc (.cells #[.int .i64 id, .int .i64 ten, .int .i64 2, .int .i64 sec, .int .i64 cnt, .string dat, .bool fua, .slice mA n mC, .int .i64 tim] 27)) ((w.alloc (.cells #[.int .i64 id, .int .i64 ten, .int .i64 2, .int .i64 sec, .int .i64 cnt, .string dat, .bool fua, .slice mA n mC, .int .i64 tim] 27)).alloc (.map #[] 0)) := (Bel.refl _).alloc _
    simp only [World.size_alloc] at hown0
    have hB0 : (w.alloc (.cells #[.int .i64 id, .int .i64 ten, .int .i64 2, .int .i64 sec, .int .i64 cnt, .string dat, .bool fua, .slice mA n mC, .int .i64 tim] 27)).heap.size ≤ w.heap.size + 1 := by simp
    simp only [List.toArray] at hA0
    generalize (w.alloc (.cells #[.int .i64 id, .int .i64 ten, .int .i64 2, .int .i64 sec, .int .i64 cnt, .string dat, .bool fua, .slice mA n mC, .int .i64 tim] 27)) = X0 at *
    generalize X0.alloc (.map #[] 0) = X1 at *
    obtain ⟨M, hM⟩ : ∃ M, M = w.heap.size + 1 := ⟨_, rfl⟩
    rw [← hM] at hown0 hB0 ⊢
    have hMw : w.heap.size < M := by omega
    clear hM
    go_loopw [4, 48] (fun nv iv wr => ∃ (k : Nat) (x : Int) (seen : List Int), nv = .int .i64 x ∧ iv = .int .i64 k ∧ k ≤ n ∧ 0 ≤ x ∧ x ≤ cnt ∧ Hid (V = memOk cnt seen x (ms.drop k)) ∧ wr.ownsMap Try.prog 3 (plainElem Try.prog 4) M k (seenD seen) ∧ Bel X0 wr) (fun _ iv _ => n - (intOf iv).toNat)
    case atStart => exact ⟨0, 0, [], rfl, rfl, by omega, by omega, by omega, by simpa using HV, hown0, hb0⟩
    case round =>
      obtain ⟨k, x, seen, rfl, rfl, p1, x0, x1, HVr, hown, hbr⟩ := hrel
      clear hown0 hb0
      have c4 := (hA0.bel hbr).1.2 4 _ rfl
      by_cases hlt : k < n
      · obtain ⟨m, hmk⟩ : ∃ m, ms[k]? = some m := ⟨ms[k]'(by have := Hn.out; omega), List.getElem?_eq_getElem _⟩
        obtain ⟨mb, mo, rfl, hmb, hrow⟩ := HMEM.out k m hmk
        have hid := int_wf (HI.out m (List.mem_of_getElem? hmk))
        have hrow := (hrow.bel hX0 hmb).bel hbr (Nat.lt_of_lt_of_le hmb hX0.size)
        have d0 := hrow.cell 0 rfl
        have d1 := hrow.cell 1 rfl
        have d2 := hrow.cell 2 rfl
        rw [Nat.add_zero] at d0
        obtain ⟨ids, off, mc⟩ := m
        simp only at d0 d1 d2 hid
        have hmd : ms.drop k = ⟨ids, off, mc⟩ :: ms.drop (k + 1) := by
          obtain ⟨g1, g2⟩ := List.getElem?_eq_some_iff.1 hmk
          rw [← g2, List.drop_eq_getElem_cons g1]
        rw [hmd] at HVr
        have k1 : (k : Int) < (n : Int) := by omega
        have hlk := World.block_lt_of_cell? _ _ d0
        have hlc := World.block_lt_of_cell? _ _ c4
        have hMr : X0.heap.size ≤ M := hB0
        have hMl := hown.lt
        have hkey := keyOf_int_mk Try.underlying3 hid
        clear hmk hmd hrow hmb HMEM
        have hsat := seenD_at ids seen
        cases hs : seen.contains ids
        · rw [hs] at hsat
          by_cases e1 : off = x
          · subst e1
            by_cases e2 : mc < 1
            · have HF : Hid (V = false) := by show _ = _; rw [HVr.out, memOk, if_pos (.inr (.inr (.inl e2)))]
              clear HVr
              go_wp2_with (first | (at_lookup; refine wpList_lookup_own_bool _ rfl _ _ 85 rfl 3 4 Try.keyInt Try.underlying85 Try.underlying4 (Try.zeroBool _) M k _ rfl (hown.alloc _) _ _ rfl hkey _ hsat ?_) | (at_mapUpdate; refine wpList_mapUpdate_own _ rfl _ _ _ 85 rfl 3 4 Try.keyInt Try.underlying85 _ M k _ rfl (hown.alloc _) (by unfold maxLen; omega) _ _ _ rfl rfl hkey _ [] (plainElem_bool Try.underlying4 true) ?_; intro w1 hown1 hgrow1; have g2 : w1.cell? ⟨wr.heap.size, 2, none⟩ = some (.int .i64 mc) := (hgrow1.cell_far ⟨wr.heap.size, 2, none⟩ (by simp) (by simp; omega)).trans (by simp [go_sem]); have c4' : w1.cell? ⟨w.heap.size, 4, none⟩ = some (.int .i64 cnt) := (hgrow1.cell_far ⟨w.heap.size, 4, none⟩ (by simp; omega) (by simp; omega)).trans ((World.cell?_alloc_past _ _ _ hlc).trans c4)))
              go_ret
              exact ⟨ret_bool HF.out.symm, (by repeat (first | (with_reducible exact Bel.refl _) | (with_reducible assumption) | (with_reducible refine Bel.drewN ?_ _) | (with_reducible refine Bel.drew ?_) | (with_reducible refine Bel.alloc ?_ _) | (with_reducible refine Bel.setNew ?_ ?_ _) | (with_reducible refine Bel.trans ?_ (by assumption)) | (focus (simp; done)) | (focus (simp; omega))))⟩
            · by_cases e3 : cnt - off < mc
              · have HF : Hid (V = false) := by show _ = _; rw [HVr.out, memOk, if_pos (.inr (.inr (.inr e3)))]
                clear HVr
                go_wp2_with (first | (at_lookup; refine wpList_lookup_own_bool _ rfl _ _ 85 rfl 3 4 Try.keyInt Try.underlying85 Try.underlying4 (Try.zeroBool _) M k _ rfl (hown.alloc _) _ _ rfl hkey _ hsat ?_) | (at_mapUpdate; refine wpList_mapUpdate_own _ rfl _ _ _ 85 rfl 3 4 Try.keyInt Try.underlying85 _ M k _ rfl (hown.alloc _) (by unfold maxLen; omega) _ _ _ rfl rfl hkey _ [] (plainElem_bool Try.underlying4 true) ?_; intro w1 hown1 hgrow1; have g2 : w1.cell? ⟨wr.heap.size, 2, none⟩ = some (.int .i64 mc) := (hgrow1.cell_far ⟨wr.heap.size, 2, none⟩ (by simp) (by simp; omega)).trans (by simp [go_sem]); have c4' : w1.cell? ⟨w.heap.size, 4, none⟩ = some (.int .i64 cnt) := (hgrow1.cell_far ⟨w.heap.size, 4, none⟩ (by simp; omega) (by simp; omega)).trans ((World.cell?_alloc_past _ _ _ hlc).trans c4)))
                go_ret
                exact ⟨ret_bool HF.out.symm, (by repeat (first | (with_reducible exact Bel.refl _) | (with_reducible assumption) | (with_reducible refine Bel.drewN ?_ _) | (with_reducible refine Bel.drew ?_) | (with_reducible refine Bel.alloc ?_ _) | (with_reducible refine Bel.setNew ?_ ?_ _) | (with_reducible refine Bel.trans ?_ (by assumption)) | (focus (simp; done)) | (focus (simp; omega))))⟩
              · have HF : Hid (V = memOk cnt (ids :: seen) (off + mc) (ms.drop (k + 1))) := by show _ = _; rw [HVr.out, memOk, if_neg (by simp only [hs]; simp; omega)]
                clear HVr
                go_wp2_with (first | (at_lookup; refine wpList_lookup_own_bool _ rfl _ _ 85 rfl 3 4 Try.keyInt Try.underlying85 Try.underlying4 (Try.zeroBool _) M k _ rfl (hown.alloc _) _ _ rfl hkey _ hsat ?_) | (at_mapUpdate; refine wpList_mapUpdate_own _ rfl _ _ _ 85 rfl 3 4 Try.keyInt Try.underlying85 _ M k _ rfl (hown.alloc _) (by unfold maxLen; omega) _ _ _ rfl rfl hkey _ [] (plainElem_bool Try.underlying4 true) ?_; intro w1 hown1 hgrow1; have g2 : w1.cell? ⟨wr.heap.size, 2, none⟩ = some (.int .i64 mc) := (hgrow1.cell_far ⟨wr.heap.size, 2, none⟩ (by simp) (by simp; omega)).trans (by simp [go_sem]); have c4' : w1.cell? ⟨w.heap.size, 4, none⟩ = some (.int .i64 cnt) := (hgrow1.cell_far ⟨w.heap.size, 4, none⟩ (by simp; omega) (by simp; omega)).trans ((World.cell?_alloc_past _ _ _ hlc).trans c4)))
                go_roundw
                case rel =>
                  exact ⟨k + 1, off + mc, ids :: seen, rfl, by go_num, by omega, by omega, by omega, HF, hown1, bel_map (hbr.alloc _) hgrow1 hMr⟩
                case measure => simp [intOf]; omega
          · have HF : Hid (V = false) := by show _ = _; rw [HVr.out, memOk, if_pos (.inr (.inl e1))]
            have e1' : (off != x) = true := by simpa using e1
            clear HVr e1
            go_wp2_with (first | (at_lookup; refine wpList_lookup_own_bool _ rfl _ _ 85 rfl 3 4 Try.keyInt Try.underlying85 Try.underlying4 (Try.zeroBool _) M k _ rfl (hown.alloc _) _ _ rfl hkey _ hsat ?_) | (at_mapUpdate; refine wpList_mapUpdate_own _ rfl _ _ _ 85 rfl 3 4 Try.keyInt Try.underlying85 _ M k _ rfl (hown.alloc _) (by unfold maxLen; omega) _ _ _ rfl rfl hkey _ [] (plainElem_bool Try.underlying4 true) ?_; intro w1 hown1 hgrow1; have g2 : w1.cell? ⟨wr.heap.size, 2, none⟩ = some (.int .i64 mc) := (hgrow1.cell_far ⟨wr.heap.size, 2, none⟩ (by simp) (by simp; omega)).trans (by simp [go_sem]); have c4' : w1.cell? ⟨w.heap.size, 4, none⟩ = some (.int .i64 cnt) := (hgrow1.cell_far ⟨w.heap.size, 4, none⟩ (by simp; omega) (by simp; omega)).trans ((World.cell?_alloc_past _ _ _ hlc).trans c4)))
            go_ret
            exact ⟨ret_bool HF.out.symm, (by repeat (first | (with_reducible exact Bel.refl _) | (with_reducible assumption) | (with_reducible refine Bel.drewN ?_ _) | (with_reducible refine Bel.drew ?_) | (with_reducible refine Bel.alloc ?_ _) | (with_reducible refine Bel.setNew ?_ ?_ _) | (with_reducible refine Bel.trans ?_ (by assumption)) | (focus (simp; done)) | (focus (simp; omega))))⟩
        · rw [hs] at hsat
          have HF : Hid (V = false) := by show _ = _; rw [HVr.out, memOk, if_pos (.inl hs)]
          clear HVr
          go_wp2_with (first | (at_lookup; refine wpList_lookup_own_bool _ rfl _ _ 85 rfl 3 4 Try.keyInt Try.underlying85 Try.underlying4 (Try.zeroBool _) M k _ rfl (hown.alloc _) _ _ rfl hkey _ hsat ?_) | (at_mapUpdate; refine wpList_mapUpdate_own _ rfl _ _ _ 85 rfl 3 4 Try.keyInt Try.underlying85 _ M k _ rfl (hown.alloc _) (by unfold maxLen; omega) _ _ _ rfl rfl hkey _ [] (plainElem_bool Try.underlying4 true) ?_; intro w1 hown1 hgrow1; have g2 : w1.cell? ⟨wr.heap.size, 2, none⟩ = some (.int .i64 mc) := (hgrow1.cell_far ⟨wr.heap.size, 2, none⟩ (by simp) (by simp; omega)).trans (by simp [go_sem]); have c4' : w1.cell? ⟨w.heap.size, 4, none⟩ = some (.int .i64 cnt) := (hgrow1.cell_far ⟨w.heap.size, 4, none⟩ (by simp; omega) (by simp; omega)).trans ((World.cell?_alloc_past _ _ _ hlc).trans c4)))
          go_ret
          exact ⟨ret_bool HF.out.symm, (by repeat (first | (with_reducible exact Bel.refl _) | (with_reducible assumption) | (with_reducible refine Bel.drewN ?_ _) | (with_reducible refine Bel.drew ?_) | (with_reducible refine Bel.alloc ?_ _) | (with_reducible refine Bel.setNew ?_ ?_ _) | (with_reducible refine Bel.trans ?_ (by assumption)) | (focus (simp; done)) | (focus (simp; omega))))⟩
      · obtain rfl : k = n := by omega
        have hdr : ms.drop k = [] := List.drop_eq_nil_of_le (by have := Hn.out; omega)
        rw [hdr] at HVr
        have k1 : decide ((k : Int) < (k : Int)) = false := by simp
        have HF : Hid (V = (x == cnt)) := by show _ = _; rw [HVr.out, memOk]
        clear HVr hdr
        go_wp2
        go_ret
        exact ⟨ret_bool HF.out.symm, (by repeat (first | (with_reducible exact Bel.refl _) | (with_reducible assumption) | (with_reducible refine Bel.drewN ?_ _) | (with_reducible refine Bel.drew ?_) | (with_reducible refine Bel.alloc ?_ _) | (with_reducible refine Bel.setNew ?_ ?_ _) | (with_reducible refine Bel.trans ?_ (by assumption)) | (focus (simp; done)) | (focus (simp; omega))))⟩

theorem mergeValid_any (b : Bun) (ms : List Mem) (w : World) (hm : Mems w b ms) :
    Calls Try.prog 18 #[.agg #[.int .i64 (b).id, .int .i64 (b).ten, .int .i64 (b).knd, .int .i64 (b).sec, .int .i64 (b).cnt, .string (b).dat, .bool (b).fua, .slice (b).mA (b).mL (b).mC, .int .i64 (b).tim]] w fun e w' => e = .returned (.bool (validB b ms)) ∧ Bel w w' := by
  by_cases h : 0 ≤ b.sec ∧ b.sec < 128 ∧ 1 ≤ b.cnt ∧ b.cnt ≤ 128 - b.sec
  · cases hd : dataOk b
    · rw [not_data hd]
      exact mergeValid_nodata b w h hd hm.dl
    · have : validB b ms = memOk b.cnt [] 0 ms := by simp only [validB, rangeOk, hd, Bool.and_true]; rw [decide_eq_true h, Bool.true_and]
      rw [this]
      exact mergeValid_yes b ms w hm h hd
  · rw [not_head h]
    exact mergeValid_no b w h
end Go.Proofs.Ytbijfmpmgmfpgaa
