/- Lemmas and walks that the statements share, part K2. -/
import Derived.Test.YtpgjbocjhconoaaGreatK1
import Derived.Shelf.Abstract
import Derived.Lib.SliceRun
import Derived.Deep.DeepCutAuto
/- merge.Valid. -/
namespace Go.Proofs.YtpgjbocjhconoaaGreat
open Go.RowKit Go.Maps
set_option linter.unusedSimpArgs false

theorem Tryz.keyInt : Keyed Tryz.prog 3 := int_keyed Tryz.underlying3
theorem Tryz.zeroBool (w : World) : (zeroValue 4).run Tryz.prog w = .ok (.bool false) w := by kernel_rfl
theorem dat_some {d : ByteArray} (h : 0 < d.size) : d.toList.isEmpty = false := by
  rw [ByteArray.toList_eq]
  cases hl : d.data.toList with
  | nil => have : d.data.toList.length = 0 := by rw [hl]; rfl
           have e : d.data.toList.length = d.size := by simp
           omega
  | cons => rfl
theorem dat_some' {d : ByteArray} (h : 0 < d.size) : (!d.toList.isEmpty) = true := by rw [dat_some h]; rfl
theorem dat_none {d : ByteArray} (h : d.size = 0) : d.toList.isEmpty = true := by
  rw [ByteArray.toList_eq]
  have : d.data.toList.length = 0 := by simpa using h
  cases hl : d.data.toList with
  | nil => rfl
  | cons => rw [hl] at this; simp at this
theorem dat_none' {d : ByteArray} (h : d.size = 0) : (!d.toList.isEmpty) = false := by rw [dat_none h]; rfl
theorem not_head {b : Bun} {ms : List Mem} (h : ¬ (0 ≤ b.sec ∧ b.sec < 128 ∧ 1 ≤ b.cnt ∧ b.cnt ≤ 128 - b.sec)) : validB b ms = false := by
  have : rangeOk b = false := by simp only [rangeOk, decide_eq_false_iff_not]; exact h
  simp [validB, this]
theorem not_data {b : Bun} {ms : List Mem} (h : dataOk b = false) : validB b ms = false := by simp [validB, h]

set_option maxRecDepth 100000 in
set_option maxHeartbeats 4000000 in
theorem mergeValid_no (b : Bun) (w : World) (h : ¬ (0 ≤ b.sec ∧ b.sec < 128 ∧ 1 ≤ b.cnt ∧ b.cnt ≤ 128 - b.sec)) :
    Calls Tryz.prog 20 #[.agg #[.int .i64 (b).id, .int .i64 (b).ten, .int .i64 (b).knd, .int .i64 (b).sec, .int .i64 (b).cnt, .string (b).dat, .bool (b).fua, .slice (b).mA (b).mL (b).mC, .int .i64 (b).tim]] w fun e w' => e = .returned (.bool false) ∧ Bel w w' := by
  obtain ⟨id, ten, knd, sec, cnt, dat, fua, mA, mL, mC, tim⟩ := b
  simp only at h ⊢
  by_cases h1 : sec < 0
  · have h1' := h1
    go_enter Tryz.func20, Tryz.ntmps20
    go_wp2
    go_ret
    exact ⟨rfl, bI⟩
  · by_cases h2 : sec < 128
    · by_cases h3 : cnt < 1
      · go_enter Tryz.func20, Tryz.ntmps20
        go_wp2
        go_ret
        exact ⟨rfl, bI⟩
      · have h4 : 128 - sec < cnt := by omega
        clear h
        go_enter Tryz.func20, Tryz.ntmps20
        go_wp2
        go_ret
        exact ⟨rfl, bI⟩
    · go_enter Tryz.func20, Tryz.ntmps20
      go_wp2
      go_ret
      exact ⟨rfl, bI⟩

set_option maxRecDepth 100000 in
set_option maxHeartbeats 4000000 in
theorem mergeValid_nodata (b : Bun) (w : World) (h : 0 ≤ b.sec ∧ b.sec < 128 ∧ 1 ≤ b.cnt ∧ b.cnt ≤ 128 - b.sec) (hd : dataOk b = false) (hl : b.dat.size ≤ maxLen) :
    Calls Tryz.prog 20 #[.agg #[.int .i64 (b).id, .int .i64 (b).ten, .int .i64 (b).knd, .int .i64 (b).sec, .int .i64 (b).cnt, .string (b).dat, .bool (b).fua, .slice (b).mA (b).mL (b).mC, .int .i64 (b).tim]] w fun e w' => e = .returned (.bool false) ∧ Bel w w' := by
  obtain ⟨id, ten, knd, sec, cnt, dat, fua, mA, mL, mC, tim⟩ := b
  simp only at h ⊢
  obtain ⟨h1, h2, h3, h4⟩ := h
  unfold dataOk at hd
  unfold maxLen at hl
  simp only at hd hl
  by_cases k1 : knd = 1
  · subst k1
    have hd2 : 0 < dat.size := by simp only [if_true, decide_eq_false_iff_not] at hd; omega
    have hd3 := dat_some hd2
    have hd4 := dat_some' hd2
    clear hd
    go_enter Tryz.func20, Tryz.ntmps20
    go_wp2
    go_ret
    exact ⟨rfl, bI⟩
  · rw [if_neg k1] at hd
    have k1' : (knd == 1) = false := by simpa using k1
    have HK := Lib.hid k1
    clear k1
    by_cases k2 : knd = 2
    · subst k2
      simp only [if_true] at hd
      have hd2 : ((dat.size : Int) != cnt * 8) = true := by simpa using hd
      clear hd
      go_enter Tryz.func20, Tryz.ntmps20
      go_wp2
      go_ret
      exact ⟨rfl, bI⟩
    · have k2' : (knd == 2) = false := by simpa using k2
      have HK2 := Lib.hid k2
      clear k2 hd
      go_enter Tryz.func20, Tryz.ntmps20
      go_wp2
      go_ret
      exact ⟨rfl, bI⟩
end Go.Proofs.YtpgjbocjhconoaaGreat

/- merge.Valid: the loop over the members. -/
namespace Go.Proofs.YtpgjbocjhconoaaGreat
open Go.RowKit Go.Maps
set_option linter.unusedSimpArgs false

theorem mems_at {w : World} {A : Option Addr} {c : Nat} {ms : List Mem} {k : Nat} {m : Mem} (h : Rd w (.slice A ms.length c) 3 ms.length (mcells ms)) (hk : ms[k]? = some m) :
    ∃ b o, A = some ⟨b, o, none⟩ ∧ b < w.heap.size ∧ InRow w b (o + k * 3) m.cells := by
  have h0 := (List.getElem?_eq_some_iff.1 hk).1
  obtain ⟨b, o, c', hv, hb, hc⟩ := h.at (by omega)
  cases hv
  exact ⟨b, o, rfl, hb, row_at Mem.cells_len hc hk⟩
theorem wpList_lookup_own_bool {H : Type} {P : Program} (w : World) {ops : Array Oper} {rest : List Oper} {o : Oper} {a : Act} {Q : Exit → Act → World → Prop}
    (hg : o.guard = none) (m x : Operand) (t : TypeId) (hop : o.op = Op.lookup t m x false)
    (k e : TypeId) (K : Keyed P k) (ht : P.underlying t = some (.map k e)) (he : P.underlying e = some .bool) (hz : (zeroValue e).run P w = .ok (.bool false) w) (b n : Nat) (D : DataW H)
    (hm : a.eval m = .map (some b)) (hown : w.ownsMap P k (plainElem P e) b n D) (key : Value) (kl : Lit) (hx : a.eval x = key) (hkey : keyOf P k key = some kl) (c : Bool) (hc : D.atKey kl (.lit (.bool false)) = .lit (.bool c))
    (hK : wpList P ops Q rest (a.put o.dst (.bool c)) w) :
    wpList P ops Q (o :: rest) a w := by
  refine wpList_plain hg fun K' hK' => ?_
  have hrun := own_lookup_bool hown K ht he hz hkey hc
  unfold Oper.wp
  simp [execOp, hop, hm, hx, hrun, Result.andThen]
  exact hK' _ _ hK
theorem bel_map {a w w' : World} {B : Nat} (h : Bel a w) (hg : w.grownBy w' (some B)) (hB : a.heap.size ≤ B) : Bel a w' :=
  Below.grown h hg h.size fun k hk => by cases hk; exact hB
theorem int_wf {n : Int} (h : IsInt n) : (Lit.int .i64 n).wf = true := by
  unfold IsInt at h
  exact WalkArith.wf_i64 h

set_option maxRecDepth 100000 in
set_option maxHeartbeats 4000000 in
theorem mergeValid_yes (b : Bun) (ms : List Mem) (w : World) (hm : Mems w b ms) (h : 0 ≤ b.sec ∧ b.sec < 128 ∧ 1 ≤ b.cnt ∧ b.cnt ≤ 128 - b.sec) (hd : dataOk b = true) :
    Calls Tryz.prog 20 #[.agg #[.int .i64 (b).id, .int .i64 (b).ten, .int .i64 (b).knd, .int .i64 (b).sec, .int .i64 (b).cnt, .string (b).dat, .bool (b).fua, .slice (b).mA (b).mL (b).mC, .int .i64 (b).tim]] w fun e w' => e = .returned (.bool (memOk b.cnt [] 0 ms)) ∧ Bel w w' := by
  obtain ⟨id, ten, knd, sec, cnt, dat, fua, mA, mL, mC, tim⟩ := b
  simp only at h ⊢
  obtain ⟨h1, h2, h3, h4⟩ := h
  obtain ⟨hml, hrd, hi, hl⟩ := hm
  simp only at hml hrd hl
  subst hml
  have HMEM := Lib.hid (fun k m (hk : ms[k]? = some m) => mems_at hrd hk)
  obtain ⟨_, hcp, hmx⟩ : ∃ x : Unit, ms.length ≤ mC ∧ mC ≤ maxLen := by
    obtain ⟨A, c, hv, h5, h6⟩ := hrd.form
    cases hv
    exact ⟨(), h5, h6⟩
  unfold maxLen at hmx
  clear hrd
  unfold dataOk at hd
  unfold maxLen at hl
  simp only at hd hl
  obtain ⟨V, HV⟩ : ∃ V, Hid (V = memOk cnt [] 0 ms) := ⟨_, rfl⟩
  rw [← HV.out]
  have HI := Lib.hid hi
  clear hi
  obtain ⟨n, Hn⟩ : ∃ n, Hid (n = ms.length) := ⟨_, rfl⟩
  rw [← Hn.out] at hcp ⊢
  have hmm := @run_makeMap Tryz.prog
  by_cases k1 : knd = 1
  · subst k1
    have hd2 : dat.size = 0 := by simpa using hd
    have hd3 := dat_none hd2
    have hd4 := dat_none' hd2
    clear hd hd2
    go_enter Tryz.func20, Tryz.ntmps20
    go_wp2
    clear hmm
    have hX0 : Bel w (w.alloc (.cells #[.int .i64 id, .int .i64 ten, .int .i64 1, .int .i64 sec, .int .i64 cnt, .string dat, .bool fua, .slice mA n mC, .int .i64 tim] 44)) := (Bel.refl w).alloc _
    have hA0 := AtF.new w 44 [.int .i64 id, .int .i64 ten, .int .i64 1, .int .i64 sec, .int .i64 cnt, .string dat, .bool fua, .slice mA n mC, .int .i64 tim]
    have hown0 := World.ownsMap_made (H := Unit) (w.alloc (.cells #[.int .i64 id, .int .i64 ten, .int .i64 1, .int .i64 sec, .int .i64 cnt, .string dat, .bool fua, .slice mA n mC, .int .i64 tim] 44)) Tryz.prog 3 (plainElem Tryz.prog 4)
    have hb0 : Bel (w.alloc (.cells #[.int .i64 id, .int .i64 ten, .int .i64 1, .int .i64 sec, .int .i64 cnt, .string dat, .bool fua, .slice mA n mC, .int .i64 tim] 44)) ((w.alloc (.cells #[.int .i64 id, .int .i64 ten, .int .i64 1, .int .i64 sec, .int .i64 cnt, .string dat, .bool fua, .slice mA n mC, .int .i64 tim] 44)).alloc (.map #[] 0)) := (Bel.refl _).alloc _
    simp only [World.size_alloc] at hown0
    have hB0 : (w.alloc (.cells #[.int .i64 id, .int .i64 ten, .int .i64 1, .int .i64 sec, .int .i64 cnt, .string dat, .bool fua, .slice mA n mC, .int .i64 tim] 44)).heap.size ≤ w.heap.size + 1 := by simp
    simp only [List.toArray] at hA0
    generalize (w.alloc (.cells #[.int .i64 id, .int .i64 ten, .int .i64 1, .int .i64 sec, .int .i64 cnt, .string dat, .bool fua, .slice mA n mC, .int .i64 tim] 44)) = X0 at *
    generalize X0.alloc (.map #[] 0) = X1 at *
    obtain ⟨M, hM⟩ : ∃ M, M = w.heap.size + 1 := ⟨_, rfl⟩
    rw [← hM] at hown0 hB0 ⊢
    have hMw : w.heap.size < M := by omega
    clear hM
    go_loopw [4, 48] (fun nv iv wr => ∃ (k : Nat) (x : Int) (seen : List Int), nv = .int .i64 x ∧ iv = .int .i64 k ∧ k ≤ n ∧ 0 ≤ x ∧ x ≤ cnt ∧ Hid (V = memOk cnt seen x (ms.drop k)) ∧ wr.ownsMap Tryz.prog 3 (plainElem Tryz.prog 4) M k (seenD seen) ∧ Bel X0 wr) (fun _ iv _ => n - (intOf iv).toNat)
    case atStart => exact ⟨0, 0, [], rfl, rfl, by omega, by omega, by omega, by simpa using HV, hown0, hb0⟩
    case round =>
      obtain ⟨k, x, seen, rfl, rfl, p1, x0, x1, HVr, hown, hbr⟩ := hrel
      clear hown0 hb0
      have c4 := (hA0.bel hbr).1.2 4 _ rfl
      by_cases hlt : k < n
      · obtain ⟨m, hmk⟩ : ∃ m, ms[k]? = some m := ⟨ms[k]'(by have := Hn.out; omega), List.getElem?_eq_getElem _⟩
        obtain ⟨mb, mo, rfl, hmb, hrow⟩ := HMEM.out k m hmk
        have hid := int_wf (HI.out m (List.mem_of_getElem? hmk))
        have hrow := (hrow.bel hX0 hmb).bel hbr (Nat.lt_of_lt_of_le hmb hX0.size)
        have d0 := hrow.cell 0 rfl
        have d1 := hrow.cell 1 rfl
        have d2 := hrow.cell 2 rfl
        rw [Nat.add_zero] at d0
        obtain ⟨ids, off, mc⟩ := m
        simp only at d0 d1 d2 hid
        have hmd : ms.drop k = ⟨ids, off, mc⟩ :: ms.drop (k + 1) := by
          obtain ⟨g1, g2⟩ := List.getElem?_eq_some_iff.1 hmk
          rw [← g2, List.drop_eq_getElem_cons g1]
        rw [hmd] at HVr
        have k1 : (k : Int) < (n : Int) := by omega
        have hlk := World.block_lt_of_cell? _ _ d0
        have hlc := World.block_lt_of_cell? _ _ c4
        have hMr : X0.heap.size ≤ M := hB0
        have hMl := hown.lt
        have hkey := keyOf_int_mk Tryz.underlying3 hid
        clear hmk hmd hrow hmb HMEM
        have hsat := seenD_at ids seen
        cases hs : seen.contains ids
        · rw [hs] at hsat
          by_cases e1 : off = x
          · subst e1
            by_cases e2 : mc < 1
            · have HF : Hid (V = false) := by show _ = _; rw [HVr.out, memOk, if_pos (.inr (.inr (.inl e2)))]
              clear HVr
              go_wp2_with (first | (at_lookup; refine wpList_lookup_own_bool _ rfl _ _ 104 rfl 3 4 Tryz.keyInt Tryz.underlying104 Tryz.underlying4 (Tryz.zeroBool _) M k _ rfl (hown.alloc _) _ _ rfl hkey _ hsat ?_) | (at_mapUpdate; refine wpList_mapUpdate_own _ rfl _ _ _ 104 rfl 3 4 Tryz.keyInt Tryz.underlying104 _ M k _ rfl (hown.alloc _) (by unfold maxLen; omega) _ _ _ rfl rfl hkey _ [] (plainElem_bool Tryz.underlying4 true) ?_; intro w1 hown1 hgrow1; have g2 : w1.cell? ⟨wr.heap.size, 2, none⟩ = some (.int .i64 mc) := (hgrow1.cell_far ⟨wr.heap.size, 2, none⟩ (by simp) (by simp; omega)).trans (by simp [go_sem]); have c4' : w1.cell? ⟨w.heap.size, 4, none⟩ = some (.int .i64 cnt) := (hgrow1.cell_far ⟨w.heap.size, 4, none⟩ (by simp; omega) (by simp; omega)).trans ((World.cell?_alloc_past _ _ _ hlc).trans c4)))
              go_ret
              exact ⟨ret_bool HF.out.symm, bI⟩
            · by_cases e3 : cnt - off < mc
              · have HF : Hid (V = false) := by show _ = _; rw [HVr.out, memOk, if_pos (.inr (.inr (.inr e3)))]
                clear HVr
                go_wp2_with (first | (at_lookup; refine wpList_lookup_own_bool _ rfl _ _ 104 rfl 3 4 Tryz.keyInt Tryz.underlying104 Tryz.underlying4 (Tryz.zeroBool _) M k _ rfl (hown.alloc _) _ _ rfl hkey _ hsat ?_) | (at_mapUpdate; refine wpList_mapUpdate_own _ rfl _ _ _ 104 rfl 3 4 Tryz.keyInt Tryz.underlying104 _ M k _ rfl (hown.alloc _) (by unfold maxLen; omega) _ _ _ rfl rfl hkey _ [] (plainElem_bool Tryz.underlying4 true) ?_; intro w1 hown1 hgrow1; have g2 : w1.cell? ⟨wr.heap.size, 2, none⟩ = some (.int .i64 mc) := (hgrow1.cell_far ⟨wr.heap.size, 2, none⟩ (by simp) (by simp; omega)).trans (by simp [go_sem]); have c4' : w1.cell? ⟨w.heap.size, 4, none⟩ = some (.int .i64 cnt) := (hgrow1.cell_far ⟨w.heap.size, 4, none⟩ (by simp; omega) (by simp; omega)).trans ((World.cell?_alloc_past _ _ _ hlc).trans c4)))
                go_ret
                exact ⟨ret_bool HF.out.symm, bI⟩
              · have HF : Hid (V = memOk cnt (ids :: seen) (off + mc) (ms.drop (k + 1))) := by show _ = _; rw [HVr.out, memOk, if_neg (by simp only [hs]; simp; omega)]
                clear HVr
                go_wp2_with (first | (at_lookup; refine wpList_lookup_own_bool _ rfl _ _ 104 rfl 3 4 Tryz.keyInt Tryz.underlying104 Tryz.underlying4 (Tryz.zeroBool _) M k _ rfl (hown.alloc _) _ _ rfl hkey _ hsat ?_) | (at_mapUpdate; refine wpList_mapUpdate_own _ rfl _ _ _ 104 rfl 3 4 Tryz.keyInt Tryz.underlying104 _ M k _ rfl (hown.alloc _) (by unfold maxLen; omega) _ _ _ rfl rfl hkey _ [] (plainElem_bool Tryz.underlying4 true) ?_; intro w1 hown1 hgrow1; have g2 : w1.cell? ⟨wr.heap.size, 2, none⟩ = some (.int .i64 mc) := (hgrow1.cell_far ⟨wr.heap.size, 2, none⟩ (by simp) (by simp; omega)).trans (by simp [go_sem]); have c4' : w1.cell? ⟨w.heap.size, 4, none⟩ = some (.int .i64 cnt) := (hgrow1.cell_far ⟨w.heap.size, 4, none⟩ (by simp; omega) (by simp; omega)).trans ((World.cell?_alloc_past _ _ _ hlc).trans c4)))
                go_roundw
                case rel =>
                  exact ⟨k + 1, off + mc, ids :: seen, rfl, by go_num, by omega, by omega, by omega, HF, hown1, bel_map (hbr.alloc _) hgrow1 hMr⟩
                case measure => simp [intOf]; omega
          · have HF : Hid (V = false) := by show _ = _; rw [HVr.out, memOk, if_pos (.inr (.inl e1))]
            have e1' : (off != x) = true := by simpa using e1
            clear HVr e1
            go_wp2_with (first | (at_lookup; refine wpList_lookup_own_bool _ rfl _ _ 104 rfl 3 4 Tryz.keyInt Tryz.underlying104 Tryz.underlying4 (Tryz.zeroBool _) M k _ rfl (hown.alloc _) _ _ rfl hkey _ hsat ?_) | (at_mapUpdate; refine wpList_mapUpdate_own _ rfl _ _ _ 104 rfl 3 4 Tryz.keyInt Tryz.underlying104 _ M k _ rfl (hown.alloc _) (by unfold maxLen; omega) _ _ _ rfl rfl hkey _ [] (plainElem_bool Tryz.underlying4 true) ?_; intro w1 hown1 hgrow1; have g2 : w1.cell? ⟨wr.heap.size, 2, none⟩ = some (.int .i64 mc) := (hgrow1.cell_far ⟨wr.heap.size, 2, none⟩ (by simp) (by simp; omega)).trans (by simp [go_sem]); have c4' : w1.cell? ⟨w.heap.size, 4, none⟩ = some (.int .i64 cnt) := (hgrow1.cell_far ⟨w.heap.size, 4, none⟩ (by simp; omega) (by simp; omega)).trans ((World.cell?_alloc_past _ _ _ hlc).trans c4)))
            go_ret
            exact ⟨ret_bool HF.out.symm, bI⟩
        · rw [hs] at hsat
          have HF : Hid (V = false) := by show _ = _; rw [HVr.out, memOk, if_pos (.inl hs)]
          clear HVr
          go_wp2_with (first | (at_lookup; refine wpList_lookup_own_bool _ rfl _ _ 104 rfl 3 4 Tryz.keyInt Tryz.underlying104 Tryz.underlying4 (Tryz.zeroBool _) M k _ rfl (hown.alloc _) _ _ rfl hkey _ hsat ?_) | (at_mapUpdate; refine wpList_mapUpdate_own _ rfl _ _ _ 104 rfl 3 4 Tryz.keyInt Tryz.underlying104 _ M k _ rfl (hown.alloc _) (by unfold maxLen; omega) _ _ _ rfl rfl hkey _ [] (plainElem_bool Tryz.underlying4 true) ?_; intro w1 hown1 hgrow1; have g2 : w1.cell? ⟨wr.heap.size, 2, none⟩ = some (.int .i64 mc) := (hgrow1.cell_far ⟨wr.heap.size, 2, none⟩ (by simp) (by simp; omega)).trans (by simp [go_sem]); have c4' : w1.cell? ⟨w.heap.size, 4, none⟩ = some (.int .i64 cnt) := (hgrow1.cell_far ⟨w.heap.size, 4, none⟩ (by simp; omega) (by simp; omega)).trans ((World.cell?_alloc_past _ _ _ hlc).trans c4)))
          go_ret
          exact ⟨ret_bool HF.out.symm, bI⟩
      · obtain rfl : k = n := by omega
        have hdr : ms.drop k = [] := List.drop_eq_nil_of_le (by have := Hn.out; omega)
        rw [hdr] at HVr
        have k1 : decide ((k : Int) < (k : Int)) = false := by simp
        have HF : Hid (V = (x == cnt)) := by show _ = _; rw [HVr.out, memOk]
        clear HVr hdr
        go_wp2
        go_ret
        exact ⟨ret_bool HF.out.symm, bI⟩
  · rw [if_neg k1] at hd
    have k1' : (knd == 1) = false := by simpa using k1
    have HK := Lib.hid k1
    clear k1
    obtain rfl : knd = 2 := by
      by_cases k2 : knd = 2
      · exact k2
      · rw [if_neg k2] at hd; cases hd
    simp only [if_true] at hd
    have hd2 : ((dat.size : Int) != cnt * 8) = false := by simpa using hd
    clear hd
    go_enter Tryz.func20, Tryz.ntmps20
    go_wp2
    clear hmm
    have hX0 : Bel w (w.alloc (.cells #[.int .i64 id, .int .i64 ten, .int .i64 2, .int .i64 sec, .int .i64 cnt, .string dat, .bool fua, .slice mA n mC, .int .i64 tim] 44)) := (Bel.refl w).alloc _
    have hA0 := AtF.new w 44 [.int .i64 id, .int .i64 ten, .int .i64 2, .int .i64 sec, .int .i64 cnt, .string dat, .bool fua, .slice mA n mC, .int .i64 tim]
    have hown0 := World.ownsMap_made (H := Unit) (w.alloc (.cells #[.int .i64 id, .int .i64 ten, .int .i64 2, .int .i64 sec, .int .i64 cnt, .string dat, .bool fua, .slice mA n mC, .int .i64 tim] 44)) Tryz.prog 3 (plainElem Tryz.prog 4)
    have hb0 : Bel (w.alloc (.cells #[.int .i64 id, .int .i64 ten, .int .i64 2, .int .i64 sec, .int .i64 cnt, .string dat, .bool fua, .slice mA n mC, .int .i64 tim] 44)) ((w.alloc (.cells #[.int .i64 id, .int .i64 ten, .int .i64 2, .int .i64 sec, .int .i64 cnt, .string dat, .bool fua, .slice mA n mC, .int .i64 tim] 44)).alloc (.map #[] 0)) := (Bel.refl _).alloc _
    simp only [World.size_alloc] at hown0
    have hB0 : (w.alloc (.cells #[.int .i64 id, .int .i64 ten, .int .i64 2, .int .i64 sec, .int .i64 cnt, .string dat, .bool fua, .slice mA n mC, .int .i64 tim] 44)).heap.size ≤ w.heap.size + 1 := by simp
    simp only [List.toArray] at hA0
    generalize (w.alloc (.cells #[.int .i64 id, .int .i64 ten, .int .i64 2, .int .i64 sec, .int .i64 cnt, .string dat, .bool fua, .slice mA n mC, .int .i64 tim] 44)) = X0 at *
    generalize X0.alloc (.map #[] 0) = X1 at *
    obtain ⟨M, hM⟩ : ∃ M, M = w.heap.size + 1 := ⟨_, rfl⟩
    rw [← hM] at hown0 hB0 ⊢
    have hMw : w.heap.size < M := by omega
    clear hM
    go_loopw [4, 48] (fun nv iv wr => ∃ (k : Nat) (x : Int) (seen : List Int), nv = .int .i64 x ∧ iv = .int .i64 k ∧ k ≤ n ∧ 0 ≤ x ∧ x ≤ cnt ∧ Hid (V = memOk cnt seen x (ms.drop k)) ∧ wr.ownsMap Tryz.prog 3 (plainElem Tryz.prog 4) M k (seenD seen) ∧ Bel X0 wr) (fun _ iv _ => n - (intOf iv).toNat)
    case atStart => exact ⟨0, 0, [], rfl, rfl, by omega, by omega, by omega, by simpa using HV, hown0, hb0⟩
    case round =>
      obtain ⟨k, x, seen, rfl, rfl, p1, x0, x1, HVr, hown, hbr⟩ := hrel
      clear hown0 hb0
      have c4 := (hA0.bel hbr).1.2 4 _ rfl
      by_cases hlt : k < n
      · obtain ⟨m, hmk⟩ : ∃ m, ms[k]? = some m := ⟨ms[k]'(by have := Hn.out; omega), List.getElem?_eq_getElem _⟩
        obtain ⟨mb, mo, rfl, hmb, hrow⟩ := HMEM.out k m hmk
        have hid := int_wf (HI.out m (List.mem_of_getElem? hmk))
        have hrow := (hrow.bel hX0 hmb).bel hbr (Nat.lt_of_lt_of_le hmb hX0.size)
        have d0 := hrow.cell 0 rfl
        have d1 := hrow.cell 1 rfl
        have d2 := hrow.cell 2 rfl
        rw [Nat.add_zero] at d0
        obtain ⟨ids, off, mc⟩ := m
        simp only at d0 d1 d2 hid
        have hmd : ms.drop k = ⟨ids, off, mc⟩ :: ms.drop (k + 1) := by
          obtain ⟨g1, g2⟩ := List.getElem?_eq_some_iff.1 hmk
          rw [← g2, List.drop_eq_getElem_cons g1]
        rw [hmd] at HVr
        have k1 : (k : Int) < (n : Int) := by omega
        have hlk := World.block_lt_of_cell? _ _ d0
        have hlc := World.block_lt_of_cell? _ _ c4
        have hMr : X0.heap.size ≤ M := hB0
        have hMl := hown.lt
        have hkey := keyOf_int_mk Tryz.underlying3 hid
        clear hmk hmd hrow hmb HMEM
        have hsat := seenD_at ids seen
        cases hs : seen.contains ids
        · rw [hs] at hsat
          by_cases e1 : off = x
          · subst e1
            by_cases e2 : mc < 1
            · have HF : Hid (V = false) := by show _ = _; rw [HVr.out, memOk, if_pos (.inr (.inr (.inl e2)))]
              clear HVr
              go_wp2_with (first | (at_lookup; refine wpList_lookup_own_bool _ rfl _ _ 104 rfl 3 4 Tryz.keyInt Tryz.underlying104 Tryz.underlying4 (Tryz.zeroBool _) M k _ rfl (hown.alloc _) _ _ rfl hkey _ hsat ?_) | (at_mapUpdate; refine wpList_mapUpdate_own _ rfl _ _ _ 104 rfl 3 4 Tryz.keyInt Tryz.underlying104 _ M k _ rfl (hown.alloc _) (by unfold maxLen; omega) _ _ _ rfl rfl hkey _ [] (plainElem_bool Tryz.underlying4 true) ?_; intro w1 hown1 hgrow1; have g2 : w1.cell? ⟨wr.heap.size, 2, none⟩ = some (.int .i64 mc) := (hgrow1.cell_far ⟨wr.heap.size, 2, none⟩ (by simp) (by simp; omega)).trans (by simp [go_sem]); have c4' : w1.cell? ⟨w.heap.size, 4, none⟩ = some (.int .i64 cnt) := (hgrow1.cell_far ⟨w.heap.size, 4, none⟩ (by simp; omega) (by simp; omega)).trans ((World.cell?_alloc_past _ _ _ hlc).trans c4)))
              go_ret
              exact ⟨ret_bool HF.out.symm, bI⟩
            · by_cases e3 : cnt - off < mc
              · have HF : Hid (V = false) := by show _ = _; rw [HVr.out, memOk, if_pos (.inr (.inr (.inr e3)))]
                clear HVr
                go_wp2_with (first | (at_lookup; refine wpList_lookup_own_bool _ rfl _ _ 104 rfl 3 4 Tryz.keyInt Tryz.underlying104 Tryz.underlying4 (Tryz.zeroBool _) M k _ rfl (hown.alloc _) _ _ rfl hkey _ hsat ?_) | (at_mapUpdate; refine wpList_mapUpdate_own _ rfl _ _ _ 104 rfl 3 4 Tryz.keyInt Tryz.underlying104 _ M k _ rfl (hown.alloc _) (by unfold maxLen; omega) _ _ _ rfl rfl hkey _ [] (plainElem_bool Tryz.underlying4 true) ?_; intro w1 hown1 hgrow1; have g2 : w1.cell? ⟨wr.heap.size, 2, none⟩ = some (.int .i64 mc) := (hgrow1.cell_far ⟨wr.heap.size, 2, none⟩ (by simp) (by simp; omega)).trans (by simp [go_sem]); have c4' : w1.cell? ⟨w.heap.size, 4, none⟩ = some (.int .i64 cnt) := (hgrow1.cell_far ⟨w.heap.size, 4, none⟩ (by simp; omega) (by simp; omega)).trans ((World.cell?_alloc_past _ _ _ hlc).trans c4)))
                go_ret
                exact ⟨ret_bool HF.out.symm, bI⟩
              · have HF : Hid (V = memOk cnt (ids :: seen) (off + mc) (ms.drop (k + 1))) := by show _ = _; rw [HVr.out, memOk, if_neg (by simp only [hs]; simp; omega)]
                clear HVr
                go_wp2_with (first | (at_lookup; refine wpList_lookup_own_bool _ rfl _ _ 104 rfl 3 4 Tryz.keyInt Tryz.underlying104 Tryz.underlying4 (Tryz.zeroBool _) M k _ rfl (hown.alloc _) _ _ rfl hkey _ hsat ?_) | (at_mapUpdate; refine wpList_mapUpdate_own _ rfl _ _ _ 104 rfl 3 4 Tryz.keyInt Tryz.underlying104 _ M k _ rfl (hown.alloc _) (by unfold maxLen; omega) _ _ _ rfl rfl hkey _ [] (plainElem_bool Tryz.underlying4 true) ?_; intro w1 hown1 hgrow1; have g2 : w1.cell? ⟨wr.heap.size, 2, none⟩ = some (.int .i64 mc) := (hgrow1.cell_far ⟨wr.heap.size, 2, none⟩ (by simp) (by simp; omega)).trans (by simp [go_sem]); have c4' : w1.cell? ⟨w.heap.size, 4, none⟩ = some (.int .i64 cnt) := (hgrow1.cell_far ⟨w.heap.size, 4, none⟩ (by simp; omega) (by simp; omega)).trans ((World.cell?_alloc_past _ _ _ hlc).trans c4)))
                go_roundw
                case rel =>
                  exact ⟨k + 1, off + mc, ids :: seen, rfl, by go_num, by omega, by omega, by omega, HF, hown1, bel_map (hbr.alloc _) hgrow1 hMr⟩
                case measure => simp [intOf]; omega
          · have HF : Hid (V = false) := by show _ = _; rw [HVr.out, memOk, if_pos (.inr (.inl e1))]
            have e1' : (off != x) = true := by simpa using e1
            clear HVr e1
            go_wp2_with (first | (at_lookup; refine wpList_lookup_own_bool _ rfl _ _ 104 rfl 3 4 Tryz.keyInt Tryz.underlying104 Tryz.underlying4 (Tryz.zeroBool _) M k _ rfl (hown.alloc _) _ _ rfl hkey _ hsat ?_) | (at_mapUpdate; refine wpList_mapUpdate_own _ rfl _ _ _ 104 rfl 3 4 Tryz.keyInt Tryz.underlying104 _ M k _ rfl (hown.alloc _) (by unfold maxLen; omega) _ _ _ rfl rfl hkey _ [] (plainElem_bool Tryz.underlying4 true) ?_; intro w1 hown1 hgrow1; have g2 : w1.cell? ⟨wr.heap.size, 2, none⟩ = some (.int .i64 mc) := (hgrow1.cell_far ⟨wr.heap.size, 2, none⟩ (by simp) (by simp; omega)).trans (by simp [go_sem]); have c4' : w1.cell? ⟨w.heap.size, 4, none⟩ = some (.int .i64 cnt) := (hgrow1.cell_far ⟨w.heap.size, 4, none⟩ (by simp; omega) (by simp; omega)).trans ((World.cell?_alloc_past _ _ _ hlc).trans c4)))
            go_ret
            exact ⟨ret_bool HF.out.symm, bI⟩
        · rw [hs] at hsat
          have HF : Hid (V = false) := by show _ = _; rw [HVr.out, memOk, if_pos (.inl hs)]
          clear HVr
          go_wp2_with (first | (at_lookup; refine wpList_lookup_own_bool _ rfl _ _ 104 rfl 3 4 Tryz.keyInt Tryz.underlying104 Tryz.underlying4 (Tryz.zeroBool _) M k _ rfl (hown.alloc _) _ _ rfl hkey _ hsat ?_) | (at_mapUpdate; refine wpList_mapUpdate_own _ rfl _ _ _ 104 rfl 3 4 Tryz.keyInt Tryz.underlying104 _ M k _ rfl (hown.alloc _) (by unfold maxLen; omega) _ _ _ rfl rfl hkey _ [] (plainElem_bool Tryz.underlying4 true) ?_; intro w1 hown1 hgrow1; have g2 : w1.cell? ⟨wr.heap.size, 2, none⟩ = some (.int .i64 mc) := (hgrow1.cell_far ⟨wr.heap.size, 2, none⟩ (by simp) (by simp; omega)).trans (by simp [go_sem]); have c4' : w1.cell? ⟨w.heap.size, 4, none⟩ = some (.int .i64 cnt) := (hgrow1.cell_far ⟨w.heap.size, 4, none⟩ (by simp; omega) (by simp; omega)).trans ((World.cell?_alloc_past _ _ _ hlc).trans c4)))
          go_ret
          exact ⟨ret_bool HF.out.symm, bI⟩
      · obtain rfl : k = n := by omega
        have hdr : ms.drop k = [] := List.drop_eq_nil_of_le (by have := Hn.out; omega)
        rw [hdr] at HVr
        have k1 : decide ((k : Int) < (k : Int)) = false := by simp
        have HF : Hid (V = (x == cnt)) := by show _ = _; rw [HVr.out, memOk]
        clear HVr hdr
        go_wp2
        go_ret
        exact ⟨ret_bool HF.out.symm, bI⟩

theorem mergeValid_any (b : Bun) (ms : List Mem) (w : World) (hm : Mems w b ms) :
    Calls Tryz.prog 20 #[.agg #[.int .i64 (b).id, .int .i64 (b).ten, .int .i64 (b).knd, .int .i64 (b).sec, .int .i64 (b).cnt, .string (b).dat, .bool (b).fua, .slice (b).mA (b).mL (b).mC, .int .i64 (b).tim]] w fun e w' => e = .returned (.bool (validB b ms)) ∧ Bel w w' := by
  by_cases h : 0 ≤ b.sec ∧ b.sec < 128 ∧ 1 ≤ b.cnt ∧ b.cnt ≤ 128 - b.sec
  · cases hd : dataOk b
    · rw [not_data hd]
      exact mergeValid_nodata b w h hd hm.dl
    · have : validB b ms = memOk b.cnt [] 0 ms := by simp only [validB, rangeOk, hd, Bool.and_true]; rw [decide_eq_true h, Bool.true_and]
      rw [this]
      exact mergeValid_yes b ms w hm h hd
  · rw [not_head h]
    exact mergeValid_no b w h
end Go.Proofs.YtpgjbocjhconoaaGreat

/- merge.strangers; slices.ContainsFunc over members. -/
namespace Go.Proofs.YtpgjbocjhconoaaGreat
open Go.RowKit Go.Maps
set_option linter.unusedSimpArgs false

/-- Where the first element is for which p holds; -1: nowhere. -/
def idxB {α : Type} (p : α → Bool) (l : List α) : Int := match l.findIdx? p with
  | some k => (k : Int)
  | none => -1
theorem idxB_any {α : Type} (p : α → Bool) (l : List α) : decide (0 ≤ idxB p l) = l.any p := by
  unfold idxB
  cases h : l.findIdx? p with
  | none =>
    rw [List.findIdx?_eq_none_iff] at h
    have : l.any p = false := by rw [List.any_eq_false]; intro x hx; rw [h x hx]; simp
    rw [this]; rfl
  | some k =>
    rw [List.findIdx?_eq_some_iff_getElem] at h
    obtain ⟨h1, h2, _⟩ := h
    have : l.any p = true := List.any_eq_true.2 ⟨_, List.getElem_mem h1, h2⟩
    rw [this]; simp
theorem idxB_at {α : Type} {p : α → Bool} {l : List α} {k : Nat} {x : α} (h : l[k]? = some x) (hp : p x = true) (hb : (l.take k).any p = false) : idxB p l = (k : Int) := by
  have : l.findIdx? p = some k := by
    rw [List.findIdx?_eq_some_iff_getElem]
    obtain ⟨g1, g2⟩ := List.getElem?_eq_some_iff.1 h
    refine ⟨g1, by rw [g2]; exact hp, fun j hj => ?_⟩
    rw [List.any_eq_false] at hb
    exact hb _ (List.mem_take_iff_getElem.2 ⟨j, by omega, rfl⟩)
  unfold idxB
  rw [this]
theorem idxB_no {α : Type} {p : α → Bool} {l : List α} (h : l.any p = false) : idxB p l = -1 := by
  unfold idxB
  rw [List.findIdx?_eq_none_iff.2 (fun x hx => by rw [List.any_eq_false] at h; simpa using h x hx)]
theorem any_take_succ' {α : Type} {L : List α} {p : α → Bool} {j : Nat} {x : α} (h : L[j]? = some x) : (L.take (j + 1)).any p = ((L.take j).any p || p x) := by
  rw [List.take_add_one, h, List.any_append]
  simp

set_option maxHeartbeats 4000000 in
theorem indexMem_any (ms : List Mem) (v : Value) (g : Nat) (lb : Array Value) (p : Mem → Bool) (w : World) (h : Rd w v 3 ms.length (mcells ms))
    (eg : ∀ args w, (callFunc g args).run Tryz.prog w = .ok (.enter g args) w)
    (hg : ∀ W x, Bel w W → x ∈ ms → Calls Tryz.prog g (#[.agg #[.int .i64 x.id, .int .i64 x.off, .int .i64 x.cnt]] ++ lb) W fun e w' => e = .returned (.bool (p x)) ∧ Bel W w') :
    Calls Tryz.prog 115 #[v, .func (.func g) #[] lb] w fun e w' => e = .returned (.int .i64 (idxB p ms)) ∧ Bel w w' := by
  obtain ⟨A, c, rfl, hc1, hc2⟩ := h.form
  unfold maxLen at hc2
  have HAT := Lib.hid (fun k m (hk : ms[k]? = some m) => mems_at h hk)
  have HG := Lib.hid hg
  obtain ⟨n, Hn⟩ : ∃ n, Hid (n = ms.length) := ⟨_, rfl⟩
  obtain ⟨R, HR⟩ : ∃ R, Hid (R = idxB p ms) := ⟨_, rfl⟩
  rw [← HR.out]
  rw [← Hn.out] at hc1 ⊢
  clear h hg
  go_enter Tryz.func115, Tryz.ntmps115
  go_wp2
  go_loopw [8] (fun iv wr => ∃ i : Nat, iv = .int .i64 i ∧ i ≤ n ∧ Hid ((ms.take i).any p = false) ∧ Bel w wr) (fun iv _ => n - (intOf iv).toNat)
  case atStart => exact ⟨0, rfl, by omega, by simp [Hid], Bel.refl _⟩
  case round =>
    obtain ⟨i, rfl, p1, HA, hbr⟩ := hrel
    by_cases hlt : i < n
    · have i1 : (i : Int) < (n : Int) := by omega
      obtain ⟨x, hx⟩ : ∃ x, ms[i]? = some x := ⟨ms[i]'(by have := Hn.out; omega), List.getElem?_eq_getElem _⟩
      obtain ⟨b, o, rfl, hlb, hrow⟩ := HAT.out i x hx
      have hrow := hrow.bel hbr hlb
      have d0 := hrow.cell 0 rfl
      have d1 := hrow.cell 1 rfl
      have d2 := hrow.cell 2 rfl
      rw [Nat.add_zero] at d0
      have HX := Lib.hid hx
      have HS := Lib.hid (any_take_succ' (p := p) hx)
      have hmem := List.mem_of_getElem? hx
      clear hx hrow
      go_wp2_with fail
      refine (HG.out _ x hbr hmem).mono ?_; rintro e w1 ⟨rfl, hb1⟩
      cases hp : p x
      · have HA2 : Hid ((ms.take (i + 1)).any p = false) := by show _ = _; rw [HS.out, HA.out, hp]; rfl
        clear hp
        go_wp2
        go_roundw
        case rel => exact ⟨i + 1, by go_num, by omega, HA2, hbr.trans hb1⟩
        case measure => simp [intOf]; omega
      · have HF : Hid (R = (i : Int)) := by show _ = _; rw [HR.out]; exact idxB_at HX.out hp HA.out
        clear hp
        go_wp2
        go_ret
        exact ⟨ret_int HF.out.symm, hbr.trans hb1⟩
    · obtain rfl : i = n := by omega
      have i1 : decide ((i : Int) < (i : Int)) = false := by simp
      have HF : Hid (R = -1) := by
        show _ = _
        rw [HR.out]
        exact idxB_no (by rw [← HA.out, List.take_of_length_le (by have := Hn.out; omega)])
      go_wp2
      go_ret
      exact ⟨ret_int HF.out.symm, hbr⟩

set_option maxHeartbeats 2000000 in
theorem containsMem_any (ms : List Mem) (v : Value) (g : Nat) (lb : Array Value) (p : Mem → Bool) (w : World) (h : Rd w v 3 ms.length (mcells ms))
    (eg : ∀ args w, (callFunc g args).run Tryz.prog w = .ok (.enter g args) w)
    (hg : ∀ W x, Bel w W → x ∈ ms → Calls Tryz.prog g (#[.agg #[.int .i64 x.id, .int .i64 x.off, .int .i64 x.cnt]] ++ lb) W fun e w' => e = .returned (.bool (p x)) ∧ Bel W w') :
    Calls Tryz.prog 108 #[v, .func (.func g) #[] lb] w fun e w' => e = .returned (.bool (ms.any p)) ∧ Bel w w' := by
  have HI := Lib.hid (indexMem_any ms v g lb p w h eg hg)
  have HV := Lib.hid (idxB_any p ms)
  generalize idxB p ms = k at *
  generalize ms.any p = bb at *
  obtain ⟨A, c, rfl, _, _⟩ := h.form
  clear h hg eg
  go_enter Tryz.func108, Tryz.ntmps108
  go_wp2_with fail
  refine HI.out.mono ?_; rintro e w1 ⟨rfl, hb1⟩
  go_wp2
  go_ret
  exact ⟨ret_bool HV.out, hb1⟩
end Go.Proofs.YtpgjbocjhconoaaGreat

/- merge.strangers. -/
namespace Go.Proofs.YtpgjbocjhconoaaGreat
open Go.RowKit Go.Maps
set_option linter.unusedSimpArgs false

set_option maxHeartbeats 1000000 in
theorem str11_any (x y : Mem) (B : Nat) (w : World) (h : w.cell? ⟨B, 0, none⟩ = some (.int .i64 x.id)) :
    Calls Tryz.prog 110 #[.agg #[.int .i64 y.id, .int .i64 y.off, .int .i64 y.cnt], .pointer (some ⟨B, 0, none⟩)] w fun e w' => e = .returned (.bool (x.id == y.id)) ∧ Bel w w' := by
  have hlt := World.block_lt_of_cell? _ _ h
  go_enter Tryz.func110, Tryz.ntmps110
  go_wp2
  go_ret
  exact ⟨rfl, bI⟩

set_option maxHeartbeats 2000000 in
theorem str1_any (x : Mem) (ms : List Mem) (A : Option Addr) (c B : Nat) (w : World) (h : w.cell? ⟨B, 7, none⟩ = some (.slice A ms.length c)) (hm : Rd w (.slice A ms.length c) 3 ms.length (mcells ms)) :
    Calls Tryz.prog 109 #[.agg #[.int .i64 x.id, .int .i64 x.off, .int .i64 x.cnt], .pointer (some ⟨B, 0, none⟩)] w fun e w' => e = .returned (.bool (ms.any fun y => x.id == y.id)) ∧ Bel w w' := by
  have hlt := World.block_lt_of_cell? _ _ h
  have eg := enters_of Tryz.func110 (by kernel_rfl) rfl
  have hX : (w.alloc (.cells #[.int .i64 x.id, .int .i64 x.off, .int .i64 x.cnt] 93)).cell? ⟨w.heap.size, 0, none⟩ = some (.int .i64 x.id) := by simp [go_sem]
  have hb : Bel w (w.alloc (.cells #[.int .i64 x.id, .int .i64 x.off, .int .i64 x.cnt] 93)) := bI
  have HC := Lib.hid (containsMem_any ms (.slice A ms.length c) 110 #[.pointer (some ⟨w.heap.size, 0, none⟩)] (fun y => x.id == y.id) (w.alloc (.cells #[.int .i64 x.id, .int .i64 x.off, .int .i64 x.cnt] 93)) (hm.bel hb) eg
    (fun W y hW _ => str11_any x y w.heap.size W ((hW.cellAt _ _ (World.block_lt_of_cell? _ _ hX)).trans hX)))
  generalize (ms.any fun y => x.id == y.id) = bb at *
  obtain ⟨n, Hn⟩ : ∃ n, Hid (n = ms.length) := ⟨_, rfl⟩
  rw [← Hn.out] at h HC
  clear hm hX eg
  go_enter Tryz.func109, Tryz.ntmps109
  go_wp2_with fail
  refine HC.out.mono ?_; rintro e w1 ⟨rfl, hb1⟩
  go_wp2
  go_ret
  exact ⟨rfl, hb.trans hb1⟩

set_option maxRecDepth 100000 in
set_option maxHeartbeats 4000000 in
theorem strangers_any (x y : BM) (w : World) (hx : Mems w x.b x.ms) (hy : Mems w y.b y.ms) :
    Calls Tryz.prog 90 #[.agg #[.int .i64 (x.b).id, .int .i64 (x.b).ten, .int .i64 (x.b).knd, .int .i64 (x.b).sec, .int .i64 (x.b).cnt, .string (x.b).dat, .bool (x.b).fua, .slice (x.b).mA (x.b).mL (x.b).mC, .int .i64 (x.b).tim], .agg #[.int .i64 (y.b).id, .int .i64 (y.b).ten, .int .i64 (y.b).knd, .int .i64 (y.b).sec, .int .i64 (y.b).cnt, .string (y.b).dat, .bool (y.b).fua, .slice (y.b).mA (y.b).mL (y.b).mC, .int .i64 (y.b).tim]] w fun e w' => e = .returned (.bool (strU x.bu y.bu)) ∧ Bel w w' := by
  obtain ⟨⟨i1, t1, k1, s1, n1, d1, f1, a1, l1, c1, m1⟩, ms1⟩ := x
  obtain ⟨⟨i2, t2, k2, s2, n2, d2, f2, a2, l2, c2, m2⟩, ms2⟩ := y
  obtain ⟨hl1, hr1, _, _⟩ := hx
  obtain ⟨hl2, hr2, _, _⟩ := hy
  simp only at hl1 hr1 hl2 hr2 ⊢
  subst hl1 hl2
  have eg := enters_of Tryz.func109 (by kernel_rfl) rfl
  have hX : (((w.alloc (.cells #[.int .i64 i1, .int .i64 t1, .int .i64 k1, .int .i64 s1, .int .i64 n1, .string d1, .bool f1, .slice a1 ms1.length c1, .int .i64 m1] 44)).alloc (.cells #[.int .i64 i2, .int .i64 t2, .int .i64 k2, .int .i64 s2, .int .i64 n2, .string d2, .bool f2, .slice a2 ms2.length c2, .int .i64 m2] 44))).cell? ⟨w.heap.size + 1, 7, none⟩ = some (.slice a2 ms2.length c2) := by simp [go_sem]
  have hb : Bel w (((w.alloc (.cells #[.int .i64 i1, .int .i64 t1, .int .i64 k1, .int .i64 s1, .int .i64 n1, .string d1, .bool f1, .slice a1 ms1.length c1, .int .i64 m1] 44)).alloc (.cells #[.int .i64 i2, .int .i64 t2, .int .i64 k2, .int .i64 s2, .int .i64 n2, .string d2, .bool f2, .slice a2 ms2.length c2, .int .i64 m2] 44))) := bI
  have HC := Lib.hid (containsMem_any ms1 (.slice a1 ms1.length c1) 109 #[.pointer (some ⟨w.heap.size + 1, 0, none⟩)] (fun x => ms2.any fun y => x.id == y.id) _ (hr1.bel hb) eg
    (fun W x hW _ => str1_any x ms2 a2 c2 (w.heap.size + 1) W ((hW.cellAt _ _ (World.block_lt_of_cell? _ _ hX)).trans hX) (hr2.bel (hb.trans hW))))
  have HV := Lib.hid (show strU (BM.bu ⟨⟨i1, t1, k1, s1, n1, d1, f1, a1, ms1.length, c1, m1⟩, ms1⟩) (BM.bu ⟨⟨i2, t2, k2, s2, n2, d2, f2, a2, ms2.length, c2, m2⟩, ms2⟩) = !(ms1.any fun x => ms2.any fun y => x.id == y.id) from rfl)
  rw [HV.out]
  generalize (ms1.any fun x => ms2.any fun y => x.id == y.id) = bb at *
  obtain ⟨n, Hn⟩ : ∃ n, Hid (n = ms1.length) := ⟨_, rfl⟩
  obtain ⟨n', Hn'⟩ : ∃ n, Hid (n = ms2.length) := ⟨_, rfl⟩
  rw [← Hn.out, ← Hn'.out] at HC hb
  rw [← Hn.out, ← Hn'.out]
  clear hr1 hr2 hX eg
  go_enter Tryz.func90, Tryz.ntmps90
  go_wp2_with fail
  refine HC.out.mono ?_; rintro e w1 ⟨rfl, hb1⟩
  go_wp2
  go_ret
  exact ⟨rfl, hb.trans hb1⟩
end Go.Proofs.YtpgjbocjhconoaaGreat

/- A struct stored cell by cell. -/
namespace Go.Proofs.YtpgjbocjhconoaaGreat
open Go.RowKit

theorem AtF.new_at {w : World} {g : Nat} (hg : g = w.heap.size) (t : TypeId) (cs : List Value) : AtF (w.alloc (.cells cs.toArray t)) g cs := by
  subst hg; exact AtF.new w t cs
/-- The cells vs are stored from cell i of block B on. -/
def setRow (w : World) (B : Nat) : Nat → List Value → World
  | _, [] => w
  | i, v :: vs => setRow (w.setCell ⟨B, i, none⟩ v) B (i + 1) vs
theorem setRow_at : ∀ (vs pre cs : List Value) (w : World) (B i : Nat), pre.length = i → cs.length = vs.length → AtF w B (pre ++ cs) → AtF (setRow w B i vs) B (pre ++ vs)
  | [], pre, cs, w, B, i, _, h2, h => by
    have : cs = [] := List.length_eq_zero_iff.1 (by simpa using h2)
    subst this; exact h
  | v :: vs, pre, c :: cs, w, B, i, h1, h2, h => by
    have h3 := h.set i (by simp; omega) v
    have e : (pre ++ c :: cs).set i v = (pre ++ [v]) ++ cs := by
      subst h1
      rw [List.set_append_right _ _ (Nat.le_refl _), Nat.sub_self]
      simp
    rw [e] at h3
    have := setRow_at vs (pre ++ [v]) cs (w.setCell ⟨B, i, none⟩ v) B (i + 1) (by simp; omega) (by simpa using h2) h3
    simpa [setRow] using this
  | v :: vs, _, [], _, _, _, _, h2, _ => by simp at h2
theorem AtF.setRow {w : World} {B : Nat} {cs : List Value} (h : AtF w B cs) (vs : List Value) (hl : cs.length = vs.length) : AtF (setRow w B 0 vs) B vs := by
  have := setRow_at vs [] cs w B 0 rfl hl (by simpa using h)
  simpa using this
theorem AtF.setRow_other {C : Nat} {cs : List Value} : ∀ (vs : List Value) {w : World} {B i : Nat}, AtF w C cs → C ≠ B → AtF (Proofs.YtpgjbocjhconoaaGreat.setRow w B i vs) C cs
  | [], _, _, _, h, _ => h
  | v :: vs, _, _, _, h, hne => AtF.setRow_other vs (h.other hne _ v) hne
theorem Rd.setRow {v : Value} {size n : Nat} {xs : List Value} : ∀ (vs : List Value) {w : World} {B i : Nat}, Rd w v size n xs → v.ownBlock ≠ some B → Rd (Proofs.YtpgjbocjhconoaaGreat.setRow w B i vs) v size n xs
  | [], _, _, _, h, _ => h
  | u :: vs, _, B, i, h, hne => Rd.setRow vs (h.far (p := ⟨B, i, none⟩) hne u) hne
theorem Bel.setRow {a : World} : ∀ (vs : List Value) {w : World} {B i : Nat}, Bel a w → a.heap.size ≤ B → Bel a (Proofs.YtpgjbocjhconoaaGreat.setRow w B i vs)
  | [], _, _, _, h, _ => h
  | u :: vs, _, _, _, h, hB => Bel.setRow vs (h.setNew hB u) hB
theorem setRow_own {base : Nat} {e : TypeId} {size : Nat} {v : Value} {n : Nat} {xs : List Value} : ∀ (vs : List Value) {w : World} {B i : Nat}, w.ownsRow base e size v n xs → v.ownBlock ≠ some B → (setRow w B i vs).ownsRow base e size v n xs
  | [], _, _, _, h, _ => h
  | u :: vs, _, B, i, h, hne => setRow_own vs (own_far h (p := ⟨B, i, none⟩) hne u) hne
end Go.Proofs.YtpgjbocjhconoaaGreat

/- merge.Can. -/
namespace Go.Proofs.YtpgjbocjhconoaaGreat
open Go.RowKit Go.Maps
set_option linter.unusedSimpArgs false

set_option maxRecDepth 100000 in
set_option maxHeartbeats 8000000 in
theorem can_any (M B : Int) (x y : BM) (w : World) (hx : Mems w x.b x.ms) (hy : Mems w y.b y.ms) :
    Calls Tryz.prog 65 #[.agg #[.int .i64 M, .int .i64 B], .agg #[.int .i64 (x.b).id, .int .i64 (x.b).ten, .int .i64 (x.b).knd, .int .i64 (x.b).sec, .int .i64 (x.b).cnt, .string (x.b).dat, .bool (x.b).fua, .slice (x.b).mA (x.b).mL (x.b).mC, .int .i64 (x.b).tim], .agg #[.int .i64 (y.b).id, .int .i64 (y.b).ten, .int .i64 (y.b).knd, .int .i64 (y.b).sec, .int .i64 (y.b).cnt, .string (y.b).dat, .bool (y.b).fua, .slice (y.b).mA (y.b).mL (y.b).mC, .int .i64 (y.b).tim]] w fun e w' => e = .returned (.int .i64 (canU M B x.bu y.bu)) ∧ Bel w w' := by
  obtain ⟨V, HV⟩ : ∃ V, Hid (V = canU M B x.bu y.bu) := ⟨_, rfl⟩
  rw [← HV.out]
  have H1 := Lib.hid (fun w' (h : Bel w w') => mergeValid_any x.b x.ms w' (hx.bel h))
  have H2 := Lib.hid (fun w' (h : Bel w w') => mergeValid_any y.b y.ms w' (hy.bel h))
  have H3 := Lib.hid (fun w' (h : Bel w w') => strangers_any x y w' (hx.bel h) (hy.bel h))
  have HR1 := Lib.hid (fun h => validB_range (b := x.b) (ms := x.ms) h)
  have HR2 := Lib.hid (fun h => validB_range (b := y.b) (ms := y.ms) h)
  have HA := Lib.hid (show alikeU x.bu y.bu = (validB x.b x.ms && validB y.b y.ms && (x.b.ten == y.b.ten) && (x.b.knd == y.b.knd) && (x.b.fua == y.b.fua) && strU x.bu y.bu) from rfl)
  have HC := Lib.hid (show canU M B x.bu y.bu = if alikeU x.bu y.bu then (if y.b.sec = x.b.sec + x.b.cnt ∧ fits M B x.b.sec (x.b.cnt + y.b.cnt) = true then 1 else if x.b.sec = y.b.sec + y.b.cnt ∧ fits M B y.b.sec (x.b.cnt + y.b.cnt) = true then 2 else 0) else 0 from rfl)
  generalize canU M B x.bu y.bu = cu at *
  generalize alikeU x.bu y.bu = al at *
  generalize strU x.bu y.bu = st at *
  obtain ⟨⟨i1, t1, k1, s1, n1, d1, f1, a1, l1, c1, m1⟩, ms1⟩ := x
  obtain ⟨⟨i2, t2, k2, s2, n2, d2, f2, a2, l2, c2, m2⟩, ms2⟩ := y
  clear hx hy
  simp only at H1 H2 H3 HR1 HR2 HA HC ⊢
  generalize validB ⟨i1, t1, k1, s1, n1, d1, f1, a1, l1, c1, m1⟩ ms1 = v1 at *
  generalize validB ⟨i2, t2, k2, s2, n2, d2, f2, a2, l2, c2, m2⟩ ms2 = v2 at *
  have hA := (AtF.new (w.alloc (.cells #[.int .i64 M, .int .i64 B] 36)) 44 [.int .i64 i1, .int .i64 t1, .int .i64 k1, .int .i64 s1, .int .i64 n1, .string d1, .bool f1, .slice a1 l1 c1, .int .i64 m1]).alloc (.cells #[.int .i64 i2, .int .i64 t2, .int .i64 k2, .int .i64 s2, .int .i64 n2, .string d2, .bool f2, .slice a2 l2 c2, .int .i64 m2] 44)
  have hB := AtF.new_at (w := (w.alloc (.cells #[.int .i64 M, .int .i64 B] 36)).alloc (.cells #[.int .i64 i1, .int .i64 t1, .int .i64 k1, .int .i64 s1, .int .i64 n1, .string d1, .bool f1, .slice a1 l1 c1, .int .i64 m1] 44)) (g := w.heap.size + 1 + 1) (by simp) 44 [.int .i64 i2, .int .i64 t2, .int .i64 k2, .int .i64 s2, .int .i64 n2, .string d2, .bool f2, .slice a2 l2 c2, .int .i64 m2]
  have hL := ((AtF.new w 36 [.int .i64 M, .int .i64 B]).alloc (.cells #[.int .i64 i1, .int .i64 t1, .int .i64 k1, .int .i64 s1, .int .i64 n1, .string d1, .bool f1, .slice a1 l1 c1, .int .i64 m1] 44)).alloc (.cells #[.int .i64 i2, .int .i64 t2, .int .i64 k2, .int .i64 s2, .int .i64 n2, .string d2, .bool f2, .slice a2 l2 c2, .int .i64 m2] 44)
  have hbX : Bel w (((w.alloc (.cells #[.int .i64 M, .int .i64 B] 36)).alloc (.cells #[.int .i64 i1, .int .i64 t1, .int .i64 k1, .int .i64 s1, .int .i64 n1, .string d1, .bool f1, .slice a1 l1 c1, .int .i64 m1] 44)).alloc (.cells #[.int .i64 i2, .int .i64 t2, .int .i64 k2, .int .i64 s2, .int .i64 n2, .string d2, .bool f2, .slice a2 l2 c2, .int .i64 m2] 44)) := bI
  simp only [World.size_alloc, List.toArray] at hA hB hL
  cases v1
  · have HF : Hid (V = 0) := by show _ = _; rw [HV.out, HC.out, HA.out]; rfl
    go_enter Tryz.func65, Tryz.ntmps65
    go_wp2_with fail
    refine (H1.out _ bI).mono ?_; rintro e w1 ⟨rfl, hb1⟩
    go_wp2
    go_ret
    exact ⟨ret_int HF.out.symm, hbX.trans hb1⟩
  · cases v2
    · have HF : Hid (V = 0) := by show _ = _; rw [HV.out, HC.out, HA.out]; rfl
      go_enter Tryz.func65, Tryz.ntmps65
      go_wp2_with fail
      refine (H1.out _ bI).mono ?_; rintro e w1 ⟨rfl, hb1⟩
      have hB1 := hB.bel hb1
      have q0 := (hB1).1.2 0 _ rfl
      have q1 := (hB1).1.2 1 _ rfl
      have q2 := (hB1).1.2 2 _ rfl
      have q3 := (hB1).1.2 3 _ rfl
      have q4 := (hB1).1.2 4 _ rfl
      have q5 := (hB1).1.2 5 _ rfl
      have q6 := (hB1).1.2 6 _ rfl
      have q7 := (hB1).1.2 7 _ rfl
      have q8 := (hB1).1.2 8 _ rfl
      have hbw1 := hbX.trans hb1
      go_wp2_with fail
      refine (H2.out _ hbw1).mono ?_; rintro e w2 ⟨rfl, hb2⟩
      go_wp2
      go_ret
      exact ⟨ret_int HF.out.symm, hbw1.trans hb2⟩
    · obtain ⟨g1, g2, g3, g4⟩ := HR1.out rfl
      obtain ⟨g5, g6, g7, g8⟩ := HR2.out rfl
      by_cases e1 : t1 = t2
      · by_cases e2 : k1 = k2
        · by_cases e3 : f1 = f2
          · cases st
            · have HF : Hid (V = 0) := by show _ = _; rw [HV.out, HC.out, HA.out]; simp
              subst e1 e2 e3
              go_enter Tryz.func65, Tryz.ntmps65
              go_wp2_with fail
              refine (H1.out _ bI).mono ?_; rintro e w1 ⟨rfl, hb1⟩
              have hB1 := hB.bel hb1
              have q0 := (hB1).1.2 0 _ rfl
              have q1 := (hB1).1.2 1 _ rfl
              have q2 := (hB1).1.2 2 _ rfl
              have q3 := (hB1).1.2 3 _ rfl
              have q4 := (hB1).1.2 4 _ rfl
              have q5 := (hB1).1.2 5 _ rfl
              have q6 := (hB1).1.2 6 _ rfl
              have q7 := (hB1).1.2 7 _ rfl
              have q8 := (hB1).1.2 8 _ rfl
              have hbw1 := hbX.trans hb1
              go_wp2_with fail
              refine (H2.out _ hbw1).mono ?_; rintro e w2 ⟨rfl, hb2⟩
              have hA2 := (hA.bel hb1).bel hb2
              have hB2 := hB1.bel hb2
              have hL2 := (hL.bel hb1).bel hb2
              clear q0 q1 q2 q3 q4 q5 q6 q7 q8
              have q0 := (hB2).1.2 0 _ rfl
              have q1 := (hB2).1.2 1 _ rfl
              have q2 := (hB2).1.2 2 _ rfl
              have q3 := (hB2).1.2 3 _ rfl
              have q4 := (hB2).1.2 4 _ rfl
              have q5 := (hB2).1.2 5 _ rfl
              have q6 := (hB2).1.2 6 _ rfl
              have q7 := (hB2).1.2 7 _ rfl
              have q8 := (hB2).1.2 8 _ rfl
              have p0 := (hA2).1.2 0 _ rfl
              have p1 := (hA2).1.2 1 _ rfl
              have p2 := (hA2).1.2 2 _ rfl
              have p3 := (hA2).1.2 3 _ rfl
              have p4 := (hA2).1.2 4 _ rfl
              have p5 := (hA2).1.2 5 _ rfl
              have p6 := (hA2).1.2 6 _ rfl
              have p7 := (hA2).1.2 7 _ rfl
              have p8 := (hA2).1.2 8 _ rfl
              go_wp2_with fail
              refine (H3.out _ (hbw1.trans hb2)).mono ?_; rintro e w3 ⟨rfl, hb3⟩
              go_wp2
              go_ret
              exact ⟨ret_int HF.out.symm, (hbw1.trans hb2).trans hb3⟩
            · have HF : Hid (V = if s2 = s1 + n1 ∧ fits M B s1 (n1 + n2) = true then 1 else if s1 = s2 + n2 ∧ fits M B s2 (n1 + n2) = true then 2 else 0) := by
                show _ = _; rw [HV.out, HC.out, HA.out]; simp [e1, e2, e3]
              subst e1 e2 e3
              go_enter Tryz.func65, Tryz.ntmps65
              go_wp2_with fail
              refine (H1.out _ bI).mono ?_; rintro e w1 ⟨rfl, hb1⟩
              have hB1 := hB.bel hb1
              have q0 := (hB1).1.2 0 _ rfl
              have q1 := (hB1).1.2 1 _ rfl
              have q2 := (hB1).1.2 2 _ rfl
              have q3 := (hB1).1.2 3 _ rfl
              have q4 := (hB1).1.2 4 _ rfl
              have q5 := (hB1).1.2 5 _ rfl
              have q6 := (hB1).1.2 6 _ rfl
              have q7 := (hB1).1.2 7 _ rfl
              have q8 := (hB1).1.2 8 _ rfl
              have hbw1 := hbX.trans hb1
              go_wp2_with fail
              refine (H2.out _ hbw1).mono ?_; rintro e w2 ⟨rfl, hb2⟩
              have hA2 := (hA.bel hb1).bel hb2
              have hB2 := hB1.bel hb2
              have hL2 := (hL.bel hb1).bel hb2
              clear q0 q1 q2 q3 q4 q5 q6 q7 q8
              have q0 := (hB2).1.2 0 _ rfl
              have q1 := (hB2).1.2 1 _ rfl
              have q2 := (hB2).1.2 2 _ rfl
              have q3 := (hB2).1.2 3 _ rfl
              have q4 := (hB2).1.2 4 _ rfl
              have q5 := (hB2).1.2 5 _ rfl
              have q6 := (hB2).1.2 6 _ rfl
              have q7 := (hB2).1.2 7 _ rfl
              have q8 := (hB2).1.2 8 _ rfl
              have p0 := (hA2).1.2 0 _ rfl
              have p1 := (hA2).1.2 1 _ rfl
              have p2 := (hA2).1.2 2 _ rfl
              have p3 := (hA2).1.2 3 _ rfl
              have p4 := (hA2).1.2 4 _ rfl
              have p5 := (hA2).1.2 5 _ rfl
              have p6 := (hA2).1.2 6 _ rfl
              have p7 := (hA2).1.2 7 _ rfl
              have p8 := (hA2).1.2 8 _ rfl
              go_wp2_with fail
              refine (H3.out _ (hbw1.trans hb2)).mono ?_; rintro e w3 ⟨rfl, hb3⟩
              have hA3 := hA2.bel hb3
              have hB3 := hB2.bel hb3
              have hL3 := hL2.bel hb3
              have hbw3 := (hbw1.trans hb2).trans hb3
              clear q0 q1 q2 q3 q4 q5 q6 q7 q8 p0 p1 p2 p3 p4 p5 p6 p7 p8
              have q3 := hB3.1.2 3 _ rfl
              have q4 := hB3.1.2 4 _ rfl
              have p3 := hA3.1.2 3 _ rfl
              have p4 := hA3.1.2 4 _ rfl
              have l0 := hL3.1.2 0 _ rfl
              have l1 := hL3.1.2 1 _ rfl
              by_cases e4 : s2 = s1 + n1
              · have e4b : (s2 == s1 + n1) = true := by simpa using e4
                have e5 : ¬ s1 = s2 + n2 := by omega
                have e5b : (s1 == s2 + n2) = false := by simpa using e5
                obtain ⟨ff, Hff⟩ : ∃ ff, Hid (ff = fits M B s1 (n1 + n2)) := ⟨_, rfl⟩
                have HF2 : Hid (V = if ff then 1 else 0) := by
                  show _ = _
                  rw [HF.out, Hff.out]
                  cases fits M B s1 (n1 + n2)
                  · rw [if_neg (by simp), if_neg (fun h => e5 h.1)]; rfl
                  · rw [if_pos ⟨e4, rfl⟩]; rfl
                clear e4 e5
                go_wp2_with fail
                refine (splitFits_any M B s1 (n1 + n2) _).mono ?_; rw [← Hff.out]; rintro e w4 ⟨rfl, hb4⟩
                have q3' := (hB3.bel hb4).1.2 3 _ rfl
                have q4' := (hB3.bel hb4).1.2 4 _ rfl
                have p3' := (hA3.bel hb4).1.2 3 _ rfl
                have p4' := (hA3.bel hb4).1.2 4 _ rfl
                clear q3 q4 p3 p4 l0 l1
                cases ff
                · go_wp2
                  go_ret
                  exact ⟨ret_int (by rw [HF2.out]; rfl), hbw3.trans hb4⟩
                · go_wp2
                  go_ret
                  exact ⟨ret_int (by rw [HF2.out]; rfl), hbw3.trans hb4⟩
              · have e4b : (s2 == s1 + n1) = false := by simpa using e4
                by_cases e5 : s1 = s2 + n2
                · have e5b : (s1 == s2 + n2) = true := by simpa using e5
                  obtain ⟨ff, Hff⟩ : ∃ ff, Hid (ff = fits M B s2 (n1 + n2)) := ⟨_, rfl⟩
                  have HF2 : Hid (V = if ff then 2 else 0) := by
                    show _ = _
                    rw [HF.out, Hff.out, if_neg (fun h => e4 h.1)]
                    cases fits M B s2 (n1 + n2)
                    · rw [if_neg (by simp)]; rfl
                    · rw [if_pos ⟨e5, rfl⟩]; rfl
                  clear e4 e5
                  go_wp2_with fail
                  refine (splitFits_any M B s2 (n1 + n2) _).mono ?_; rw [← Hff.out]; rintro e w4 ⟨rfl, hb4⟩
                  cases ff
                  · go_wp2
                    go_ret
                    exact ⟨ret_int (by rw [HF2.out]; rfl), hbw3.trans hb4⟩
                  · go_wp2
                    go_ret
                    exact ⟨ret_int (by rw [HF2.out]; rfl), hbw3.trans hb4⟩
                · have e5b : (s1 == s2 + n2) = false := by simpa using e5
                  have HF2 : Hid (V = 0) := by show _ = _; rw [HF.out, if_neg (fun h => e4 h.1), if_neg (fun h => e5 h.1)]
                  clear e4 e5
                  go_wp2
                  go_ret
                  exact ⟨ret_int (by rw [HF2.out]), hbw3⟩
          · have HF : Hid (V = 0) := by show _ = _; rw [HV.out, HC.out, HA.out]; simp [e3]
            subst e1 e2
            cases f1 <;> cases f2
            · exact absurd rfl e3
            · clear e3
              go_enter Tryz.func65, Tryz.ntmps65
              go_wp2_with fail
              refine (H1.out _ bI).mono ?_; rintro e w1 ⟨rfl, hb1⟩
              have hB1 := hB.bel hb1
              have q0 := (hB1).1.2 0 _ rfl
              have q1 := (hB1).1.2 1 _ rfl
              have q2 := (hB1).1.2 2 _ rfl
              have q3 := (hB1).1.2 3 _ rfl
              have q4 := (hB1).1.2 4 _ rfl
              have q5 := (hB1).1.2 5 _ rfl
              have q6 := (hB1).1.2 6 _ rfl
              have q7 := (hB1).1.2 7 _ rfl
              have q8 := (hB1).1.2 8 _ rfl
              have hbw1 := hbX.trans hb1
              go_wp2_with fail
              refine (H2.out _ hbw1).mono ?_; rintro e w2 ⟨rfl, hb2⟩
              have hA2 := (hA.bel hb1).bel hb2
              have hB2 := hB1.bel hb2
              have hL2 := (hL.bel hb1).bel hb2
              clear q0 q1 q2 q3 q4 q5 q6 q7 q8
              have q0 := (hB2).1.2 0 _ rfl
              have q1 := (hB2).1.2 1 _ rfl
              have q2 := (hB2).1.2 2 _ rfl
              have q3 := (hB2).1.2 3 _ rfl
              have q4 := (hB2).1.2 4 _ rfl
              have q5 := (hB2).1.2 5 _ rfl
              have q6 := (hB2).1.2 6 _ rfl
              have q7 := (hB2).1.2 7 _ rfl
              have q8 := (hB2).1.2 8 _ rfl
              have p0 := (hA2).1.2 0 _ rfl
              have p1 := (hA2).1.2 1 _ rfl
              have p2 := (hA2).1.2 2 _ rfl
              have p3 := (hA2).1.2 3 _ rfl
              have p4 := (hA2).1.2 4 _ rfl
              have p5 := (hA2).1.2 5 _ rfl
              have p6 := (hA2).1.2 6 _ rfl
              have p7 := (hA2).1.2 7 _ rfl
              have p8 := (hA2).1.2 8 _ rfl
              go_wp2_with fail
              go_ret
              exact ⟨ret_int HF.out.symm, hbw1.trans hb2⟩
            · clear e3
              go_enter Tryz.func65, Tryz.ntmps65
              go_wp2_with fail
              refine (H1.out _ bI).mono ?_; rintro e w1 ⟨rfl, hb1⟩
              have hB1 := hB.bel hb1
              have q0 := (hB1).1.2 0 _ rfl
              have q1 := (hB1).1.2 1 _ rfl
              have q2 := (hB1).1.2 2 _ rfl
              have q3 := (hB1).1.2 3 _ rfl
              have q4 := (hB1).1.2 4 _ rfl
              have q5 := (hB1).1.2 5 _ rfl
              have q6 := (hB1).1.2 6 _ rfl
              have q7 := (hB1).1.2 7 _ rfl
              have q8 := (hB1).1.2 8 _ rfl
              have hbw1 := hbX.trans hb1
              go_wp2_with fail
              refine (H2.out _ hbw1).mono ?_; rintro e w2 ⟨rfl, hb2⟩
              have hA2 := (hA.bel hb1).bel hb2
              have hB2 := hB1.bel hb2
              have hL2 := (hL.bel hb1).bel hb2
              clear q0 q1 q2 q3 q4 q5 q6 q7 q8
              have q0 := (hB2).1.2 0 _ rfl
              have q1 := (hB2).1.2 1 _ rfl
              have q2 := (hB2).1.2 2 _ rfl
              have q3 := (hB2).1.2 3 _ rfl
              have q4 := (hB2).1.2 4 _ rfl
              have q5 := (hB2).1.2 5 _ rfl
              have q6 := (hB2).1.2 6 _ rfl
              have q7 := (hB2).1.2 7 _ rfl
              have q8 := (hB2).1.2 8 _ rfl
              have p0 := (hA2).1.2 0 _ rfl
              have p1 := (hA2).1.2 1 _ rfl
              have p2 := (hA2).1.2 2 _ rfl
              have p3 := (hA2).1.2 3 _ rfl
              have p4 := (hA2).1.2 4 _ rfl
              have p5 := (hA2).1.2 5 _ rfl
              have p6 := (hA2).1.2 6 _ rfl
              have p7 := (hA2).1.2 7 _ rfl
              have p8 := (hA2).1.2 8 _ rfl
              go_wp2_with fail
              go_ret
              exact ⟨ret_int HF.out.symm, hbw1.trans hb2⟩
            · exact absurd rfl e3
        · have e2b : (k1 != k2) = true := by simpa using e2
          have HF : Hid (V = 0) := by show _ = _; rw [HV.out, HC.out, HA.out]; simp [e2]
          subst e1
          clear e2
          go_enter Tryz.func65, Tryz.ntmps65
          go_wp2_with fail
          refine (H1.out _ bI).mono ?_; rintro e w1 ⟨rfl, hb1⟩
          have hB1 := hB.bel hb1
          have q0 := (hB1).1.2 0 _ rfl
          have q1 := (hB1).1.2 1 _ rfl
          have q2 := (hB1).1.2 2 _ rfl
          have q3 := (hB1).1.2 3 _ rfl
          have q4 := (hB1).1.2 4 _ rfl
          have q5 := (hB1).1.2 5 _ rfl
          have q6 := (hB1).1.2 6 _ rfl
          have q7 := (hB1).1.2 7 _ rfl
          have q8 := (hB1).1.2 8 _ rfl
          have hbw1 := hbX.trans hb1
          go_wp2_with fail
          refine (H2.out _ hbw1).mono ?_; rintro e w2 ⟨rfl, hb2⟩
          have hA2 := (hA.bel hb1).bel hb2
          have hB2 := hB1.bel hb2
          have hL2 := (hL.bel hb1).bel hb2
          clear q0 q1 q2 q3 q4 q5 q6 q7 q8
          have q0 := (hB2).1.2 0 _ rfl
          have q1 := (hB2).1.2 1 _ rfl
          have q2 := (hB2).1.2 2 _ rfl
          have q3 := (hB2).1.2 3 _ rfl
          have q4 := (hB2).1.2 4 _ rfl
          have q5 := (hB2).1.2 5 _ rfl
          have q6 := (hB2).1.2 6 _ rfl
          have q7 := (hB2).1.2 7 _ rfl
          have q8 := (hB2).1.2 8 _ rfl
          have p0 := (hA2).1.2 0 _ rfl
          have p1 := (hA2).1.2 1 _ rfl
          have p2 := (hA2).1.2 2 _ rfl
          have p3 := (hA2).1.2 3 _ rfl
          have p4 := (hA2).1.2 4 _ rfl
          have p5 := (hA2).1.2 5 _ rfl
          have p6 := (hA2).1.2 6 _ rfl
          have p7 := (hA2).1.2 7 _ rfl
          have p8 := (hA2).1.2 8 _ rfl
          go_wp2_with fail
          go_ret
          exact ⟨ret_int HF.out.symm, hbw1.trans hb2⟩
      · have e1b : (t1 != t2) = true := by simpa using e1
        have HF : Hid (V = 0) := by show _ = _; rw [HV.out, HC.out, HA.out]; simp [e1]
        clear e1
        go_enter Tryz.func65, Tryz.ntmps65
        go_wp2_with fail
        refine (H1.out _ bI).mono ?_; rintro e w1 ⟨rfl, hb1⟩
        have hB1 := hB.bel hb1
        have q0 := (hB1).1.2 0 _ rfl
        have q1 := (hB1).1.2 1 _ rfl
        have q2 := (hB1).1.2 2 _ rfl
        have q3 := (hB1).1.2 3 _ rfl
        have q4 := (hB1).1.2 4 _ rfl
        have q5 := (hB1).1.2 5 _ rfl
        have q6 := (hB1).1.2 6 _ rfl
        have q7 := (hB1).1.2 7 _ rfl
        have q8 := (hB1).1.2 8 _ rfl
        have hbw1 := hbX.trans hb1
        go_wp2_with fail
        refine (H2.out _ hbw1).mono ?_; rintro e w2 ⟨rfl, hb2⟩
        have hA2 := (hA.bel hb1).bel hb2
        have hB2 := hB1.bel hb2
        have hL2 := (hL.bel hb1).bel hb2
        clear q0 q1 q2 q3 q4 q5 q6 q7 q8
        have q0 := (hB2).1.2 0 _ rfl
        have q1 := (hB2).1.2 1 _ rfl
        have q2 := (hB2).1.2 2 _ rfl
        have q3 := (hB2).1.2 3 _ rfl
        have q4 := (hB2).1.2 4 _ rfl
        have q5 := (hB2).1.2 5 _ rfl
        have q6 := (hB2).1.2 6 _ rfl
        have q7 := (hB2).1.2 7 _ rfl
        have q8 := (hB2).1.2 8 _ rfl
        have p0 := (hA2).1.2 0 _ rfl
        have p1 := (hA2).1.2 1 _ rfl
        have p2 := (hA2).1.2 2 _ rfl
        have p3 := (hA2).1.2 3 _ rfl
        have p4 := (hA2).1.2 4 _ rfl
        have p5 := (hA2).1.2 5 _ rfl
        have p6 := (hA2).1.2 6 _ rfl
        have p7 := (hA2).1.2 7 _ rfl
        have p8 := (hA2).1.2 8 _ rfl
        go_wp2_with fail
        go_ret
        exact ⟨ret_int HF.out.symm, hbw1.trans hb2⟩
end Go.Proofs.YtpgjbocjhconoaaGreat

/- slices.Clone over members. -/
namespace Go.Proofs.YtpgjbocjhconoaaGreat
open Go.RowKit
set_option linter.unusedSimpArgs false

theorem Tryz.infoMem : (Tryz.prog.info? 93).map (fun i => (i.zero, i.size, i.bytes)) = some (some (.agg #[.int .i64 0, .int .i64 0, .int .i64 0]), 3, 24) := by kernel_rfl
set_option maxHeartbeats 2000000 in
theorem cloneMem_any (cs : List Value) (n : Nat) (v : Value) (w : World) (h : Rd w v 3 n cs) (hone : ∀ u ∈ cs, u.oneCell' = true) (hn : n ≤ 1000) :
    Calls Tryz.prog 69 #[v] w fun e w' => ∃ v', e = .returned v' ∧ w'.ownsRow w.heap.size 93 3 v' n cs ∧ Bel w w' := by
  obtain ⟨hl, A, cp, rfl, hcp, hmx, hr⟩ := h
  have hone := Lib.hid hone
  have q22 : ∀ (w : World) (a : Option Addr) (n c n' c' : Nat), (binOp .eql 42 (.slice a n c) (.slice none n' c')).run Tryz.prog w = .ok (.bool a.isNone) w := fun w a n c n' c' => Lib.run_eql_slice_nil w _ _ a n c n' c' Tryz.underlying42
  obtain ⟨i0, hi, hz0, hz1, hz2⟩ := info_parts Tryz.infoMem
  have HR := Lib.hid hr
  clear hr
  cases A with
  | none =>
    obtain rfl : n = 0 := by
      rcases Nat.eq_zero_or_pos n with h0 | h0
      · exact h0
      · obtain ⟨b, o, hA, _⟩ := HR.out h0; cases hA
    obtain rfl : cs = [] := by simpa using hl
    go_enter Tryz.func69, Tryz.ntmps69
    go_wp2
    go_ret
    exact ⟨_, rfl, ⟨by simp, Or.inl ⟨rfl, rfl⟩⟩, bI⟩
  | some p =>
    go_enter Tryz.func69, Tryz.ntmps69
    go_wp2_with (at_builtin; go_must (refine wpList_append_own_at _ rfl _ _ 42 rfl w.heap.size 93 i0 _ 3 24 Tryz.underlying42 hi hz0 hz1 hz2 rfl (by omega) _ 0 [] rfl (World.ownsRow_made w #[] 0 (Nat.le_refl _) (Nat.zero_le _) rfl) p n cp cs rfl hl ?q1 hone.out (by unfold maxLen; omega) (by omega) (by simp) ?_))
    case q1 =>
      intro j u hj
      have hjn := (List.getElem?_eq_some_iff.1 hj).1
      obtain ⟨b, o, hA, hlb, hcell⟩ := HR.out (by omega)
      cases hA
      rw [Addr.add_lit]
      refine Lib.cell?_alloc_some _ ?_
      exact hcell j u hj
    intro v' w3 hown hg _ _
    go_wp2
    go_ret
    exact ⟨v', rfl, by simpa using hown, bel_own ((Bel.refl _).alloc _) (World.ownsRow_made (base := w.heap.size) (e := 93) (size := 3) w #[] 0 (Nat.le_refl _) (Nat.zero_le _) rfl) hg (Nat.le_refl _)⟩
end Go.Proofs.YtpgjbocjhconoaaGreat

/- merge.Join. -/
namespace Go.Proofs.YtpgjbocjhconoaaGreat
open Go.RowKit Go.Maps
set_option linter.unusedSimpArgs false

/-- The bunch u, its members in A. -/
def Bu.at (u : Bu) (A : Option Addr) (c : Nat) : Bun := ⟨u.id, u.ten, u.knd, u.sec, u.cnt, u.dat, u.fua, A, u.ms.length, c, u.tim⟩
theorem offs_bdJ : ∀ (l : List Mem) (n : Int), offs n l → (∀ m ∈ l, 1 ≤ m.cnt) → ∀ m ∈ l, n ≤ m.off ∧ m.off < n + msum l
  | [], _, _, _, m, hm => by simp at hm
  | a :: l, n, h, hc, m, hm => by
    have h1 := hc a (by simp)
    have h2 := msum_nonneg (l := l) (fun x hx => hc x (by simp [hx]))
    simp only [msum]
    rcases List.mem_cons.1 hm with rfl | hm
    · have := h.1; omega
    · have := offs_bdJ l _ h.2 (fun x hx => hc x (by simp [hx])) m hm
      omega
theorem len_sum : ∀ l : List Mem, (∀ m ∈ l, 1 ≤ m.cnt) → (l.length : Int) ≤ msum l
  | [], _ => by simp [msum]
  | a :: l, hc => by
    have h1 := hc a (by simp)
    have h2 := len_sum l (fun x hx => hc x (by simp [hx]))
    simp only [msum, List.length_cons]
    omega
theorem ok_small {u : Bu} (h : okU u = true) : u.ms.length ≤ 128 ∧ (∀ m ∈ u.ms, 0 ≤ m.off ∧ m.off ≤ 128) ∧ u.dat.size ≤ 1024 := by
  have r := okU_range h
  obtain ⟨_, d, m⟩ := okU_parts.1 h
  rw [memOk_iff] at m
  obtain ⟨a1, a2, a3, _, _⟩ := m
  have a4 := len_sum _ a2
  refine ⟨by omega, fun z hz => ?_, ?_⟩
  · have := offs_bdJ _ _ a1 a2 z hz; omega
  · rcases dataOk_size d with ⟨_, s⟩ | ⟨_, s⟩ <;> omega
theorem join_yes {u v : Bu} {how : Int} (h0 : how ≠ 0) (hc : canU 128 0 u v = how) :
    okU u = true ∧ okU v = true ∧ ((how = 1 ∧ joinU u v how = pairU u v u v) ∨ (how = 2 ∧ joinU u v how = pairU u v v u)) ∧ u.cnt + v.cnt ≤ 128 ∧ u.ten = v.ten ∧ u.knd = v.knd ∧ u.fua = v.fua := by
  have ha := alike_ok (canU_alike (M := 128) (B := 0) (by rw [hc]; exact h0))
  have r1 := okU_range ha.1
  have r2 := okU_range ha.2.1
  have hj : joinU u v how = if how = 2 then pairU u v v u else pairU u v u v := by
    unfold joinU
    rw [if_neg]
    rintro (h | h)
    · exact h0 h
    · exact h hc
  refine ⟨ha.1, ha.2.1, ?_, ?_, ha.2.2.1, ha.2.2.2.1, ha.2.2.2.2.1⟩
  · unfold canU at hc
    split at hc
    · split at hc
      · subst hc; exact .inl ⟨rfl, hj⟩
      · split at hc
        · subst hc; exact .inr ⟨rfl, hj⟩
        · exact absurd hc.symm h0
    · exact absurd hc.symm h0
  · unfold canU at hc
    split at hc
    · split at hc
      · rename_i hh; have := hh.1; omega
      · split at hc
        · rename_i hh; have := hh.1; omega
        · exact absurd hc.symm h0
    · exact absurd hc.symm h0

def Zb (w' : World) (base : Nat) (J : Bu) (A : Option Addr) (c : Nat) : Prop :=
  Mems w' (J.at A c) J.ms ∧ ∀ k, (Value.slice A J.ms.length c).ownBlock = some k → base ≤ k
theorem zb_zero (w : World) (base : Nat) : Zb w base zeroU none 0 := ⟨⟨rfl, Rd.nil w 3, (fun m hm => by cases hm), (by show 0 ≤ maxLen; unfold maxLen; omega)⟩, fun k h => by cases h⟩

set_option maxRecDepth 100000 in
set_option maxHeartbeats 8000000 in
theorem join_any (x y : BM) (how : Int) (w : World) (hx : Mems w x.b x.ms) (hy : Mems w y.b y.ms) :
    Calls Tryz.prog 24 #[.agg #[.int .i64 (x.b).id, .int .i64 (x.b).ten, .int .i64 (x.b).knd, .int .i64 (x.b).sec, .int .i64 (x.b).cnt, .string (x.b).dat, .bool (x.b).fua, .slice (x.b).mA (x.b).mL (x.b).mC, .int .i64 (x.b).tim], .agg #[.int .i64 (y.b).id, .int .i64 (y.b).ten, .int .i64 (y.b).knd, .int .i64 (y.b).sec, .int .i64 (y.b).cnt, .string (y.b).dat, .bool (y.b).fua, .slice (y.b).mA (y.b).mL (y.b).mC, .int .i64 (y.b).tim], .int .i64 how] w fun e w' => ∃ A c, e = .returned (.agg #[.int .i64 ((Bu.at (joinU x.bu y.bu how) A c)).id, .int .i64 ((Bu.at (joinU x.bu y.bu how) A c)).ten, .int .i64 ((Bu.at (joinU x.bu y.bu how) A c)).knd, .int .i64 ((Bu.at (joinU x.bu y.bu how) A c)).sec, .int .i64 ((Bu.at (joinU x.bu y.bu how) A c)).cnt, .string ((Bu.at (joinU x.bu y.bu how) A c)).dat, .bool ((Bu.at (joinU x.bu y.bu how) A c)).fua, .slice ((Bu.at (joinU x.bu y.bu how) A c)).mA ((Bu.at (joinU x.bu y.bu how) A c)).mL ((Bu.at (joinU x.bu y.bu how) A c)).mC, .int .i64 ((Bu.at (joinU x.bu y.bu how) A c)).tim]) ∧ Zb w' w.heap.size (joinU x.bu y.bu how) A c ∧ Bel w w' := by
  have HC := Lib.hid (fun w' (h : Bel w w') => can_any 128 0 x y w' (hx.bel h) (hy.bel h))
  have HZ := Lib.hid (fun (h : how = 0 ∨ canU 128 0 x.bu y.bu ≠ how) => show joinU x.bu y.bu how = zeroU from if_pos h)
  have HN := Lib.hid (fun h0 hc => join_yes (u := x.bu) (v := y.bu) (how := how) h0 hc)
  obtain ⟨J, HJ⟩ : ∃ J, Hid (J = joinU x.bu y.bu how) := ⟨_, rfl⟩
  rw [← HJ.out]
  rw [← HJ.out] at HZ HN
  generalize canU 128 0 x.bu y.bu = cu at *
  by_cases h0 : how = 0
  · subst h0
    have HF := Lib.hid (HZ.out (.inl rfl))
    obtain ⟨⟨i1, t1, k1, s1, n1, d1, f1, a1, l1, c1, m1⟩, ms1⟩ := x
    obtain ⟨⟨i2, t2, k2, s2, n2, d2, f2, a2, l2, c2, m2⟩, ms2⟩ := y
    clear HC HZ HN HJ hx hy
    simp only
    go_enter Tryz.func24, Tryz.ntmps24
    go_wp2
    exact bodyPost_ret (v := .agg #[.int .i64 0, .int .i64 0, .int .i64 0, .int .i64 0, .int .i64 0, .string ⟨#[]⟩, .bool false, .slice none 0 0, .int .i64 0]) (by simp [results, Tryz.results24, go_sem]) rfl ⟨none, 0, by rw [HF.out]; rfl, by rw [HF.out]; exact zb_zero _ _, bI⟩
  · have h0b : (how == 0) = false := by simpa using h0
    have HBX := Lib.hid (And.intro hx hy)
    by_cases hc : cu = how
    · obtain ⟨o1, o2, o3, o4, o5, o6, o7⟩ := HN.out h0 hc
      have HS1 := Lib.hid (ok_small o1)
      have HS2 := Lib.hid (ok_small o2)
      have HR1 := okU_range o1
      have HR2 := okU_range o2
      have HO := Lib.hid (And.intro o1 (And.intro o2 (And.intro o5 (And.intro o6 o7))))
      have hcb : (cu != how) = false := by simpa using hc
      clear HZ HN HJ h0 hc hx hy
      obtain ⟨X, HX⟩ : ∃ X : BM, Hid (X = if how = 2 then y else x) := ⟨_, rfl⟩
      obtain ⟨Y, HY⟩ : ∃ X : BM, Hid (X = if how = 2 then x else y) := ⟨_, rfl⟩
      have HJ : Hid (J = pairU x.bu y.bu X.bu Y.bu) := by
        show _ = _
        rw [HX.out, HY.out]
        rcases o3 with ⟨rfl, h⟩ | ⟨rfl, h⟩
        · rw [h]; rfl
        · rw [h]; rfl
      have HMX : Hid (Mems w X.b X.ms ∧ okU X.bu = true) := by
        show _ ∧ _
        rw [HX.out]
        split
        · exact ⟨HBX.out.2, o2⟩
        · exact ⟨HBX.out.1, o1⟩
      have HMY : Hid (Mems w Y.b Y.ms ∧ okU Y.bu = true) := by
        show _ ∧ _
        rw [HY.out]
        split
        · exact ⟨HBX.out.1, o1⟩
        · exact ⟨HBX.out.2, o2⟩
      have HT : Hid (X.b.ten = x.b.ten ∧ X.b.knd = x.b.knd ∧ X.b.fua = x.b.fua) := by
        show _ ∧ _
        rw [HX.out]
        split
        · exact ⟨o5.symm, o6.symm, o7.symm⟩
        · exact ⟨rfl, rfl, rfl⟩
      have HN3 : Hid (1 ≤ X.b.cnt ∧ X.b.cnt ≤ 128 ∧ Y.b.cnt ≤ 128 - X.b.cnt ∧ 1 ≤ Y.b.cnt) := by
        show _ ∧ _
        have h1 : x.b.cnt + y.b.cnt ≤ 128 := o4
        have h2 : 1 ≤ x.b.cnt := (okU_range o1).2.2.1
        have h3 : 1 ≤ y.b.cnt := (okU_range o2).2.2.1
        rw [HX.out, HY.out]
        split <;> omega
      have o8 : how = 1 ∨ how = 2 := o3.elim (fun h => .inl h.1) (fun h => .inr h.1)
      clear o1 o2 o3 o4 o5 o6 o7 HR1 HR2 HS1 HS2
      obtain ⟨⟨i1, t1, k1, s1, n1, d1, f1, a1, l1, c1, m1⟩, ms1⟩ := x
      obtain ⟨⟨i2, t2, k2, s2, n2, d2, f2, a2, l2, c2, m2⟩, ms2⟩ := y
      simp only at HC ⊢
      obtain ⟨W0, HW0⟩ : ∃ W0, Hid (W0 = ((w.alloc (.cells #[.int .i64 i1, .int .i64 t1, .int .i64 k1, .int .i64 s1, .int .i64 n1, .string d1, .bool f1, .slice a1 l1 c1, .int .i64 m1] 44)).alloc (.cells #[.int .i64 i2, .int .i64 t2, .int .i64 k2, .int .i64 s2, .int .i64 n2, .string d2, .bool f2, .slice a2 l2 c2, .int .i64 m2] 44)).alloc (.cells #[.int .i64 0, .int .i64 0, .int .i64 0, .int .i64 0, .int .i64 0, .string ⟨#[]⟩, .bool false, .slice none 0 0, .int .i64 0] 44)) := ⟨_, rfl⟩
      have hA : AtF W0 w.heap.size [.int .i64 i1, .int .i64 t1, .int .i64 k1, .int .i64 s1, .int .i64 n1, .string d1, .bool f1, .slice a1 l1 c1, .int .i64 m1] := by rw [HW0.out]; exact ((AtF.new_at rfl _ _).alloc _).alloc _
      have hB : AtF W0 (w.heap.size + 1) [.int .i64 i2, .int .i64 t2, .int .i64 k2, .int .i64 s2, .int .i64 n2, .string d2, .bool f2, .slice a2 l2 c2, .int .i64 m2] := by rw [HW0.out]; exact (AtF.new_at (by simp) _ _).alloc _
      have hR : AtF W0 (w.heap.size + 1 + 1) [.int .i64 0, .int .i64 0, .int .i64 0, .int .i64 0, .int .i64 0, .string ⟨#[]⟩, .bool false, .slice none 0 0, .int .i64 0] := by rw [HW0.out]; exact AtF.new_at (by simp) _ _
      have hbW : Bel w W0 := by rw [HW0.out]; exact bI
      go_enter Tryz.func24, Tryz.ntmps24
      go_wp2_with fail
      rw [← HW0.out]
      refine (HC.out _ hbW).mono ?_; rintro e w1 ⟨rfl, hb1⟩
      replace hA := hA.bel hb1
      replace hB := hB.bel hb1
      replace hR := hR.bel hb1
      have hbw := hbW.trans hb1
      clear hb1 hbW
      have p0 := (hA).1.2 0 _ rfl
      have p1 := (hA).1.2 1 _ rfl
      have p2 := (hA).1.2 2 _ rfl
      have p3 := (hA).1.2 3 _ rfl
      have p4 := (hA).1.2 4 _ rfl
      have p5 := (hA).1.2 5 _ rfl
      have p6 := (hA).1.2 6 _ rfl
      have p7 := (hA).1.2 7 _ rfl
      have p8 := (hA).1.2 8 _ rfl
      have q0 := (hB).1.2 0 _ rfl
      have q1 := (hB).1.2 1 _ rfl
      have q2 := (hB).1.2 2 _ rfl
      have q3 := (hB).1.2 3 _ rfl
      have q4 := (hB).1.2 4 _ rfl
      have q5 := (hB).1.2 5 _ rfl
      have q6 := (hB).1.2 6 _ rfl
      have q7 := (hB).1.2 7 _ rfl
      have q8 := (hB).1.2 8 _ rfl
      obtain ⟨ni, Hni⟩ : ∃ n : Int, Hid (n = if i2 < i1 then i2 else i1) := ⟨_, rfl⟩
      obtain ⟨nt, Hnt⟩ : ∃ n : Int, Hid (n = if m2 < m1 then m2 else m1) := ⟨_, rfl⟩
      go_wp2_with fail
      have r0 := fun d os => cell_regrown p0 d os
      have r8 := fun d os => cell_regrown p8 d os
      have u0 := fun d os => cell_regrown q0 d os
      have u8 := fun d os => cell_regrown q8 d os
      refine wp_region_st [] 12 (by kernel_rfl) (by kernel_rfl) ?_
      with_reducible refine st_sel [0, 1, 2, 3, 4, 5, 6, 7, 8, 9, 10, 11] (by kernel_rfl) (by kernel_rfl) ?_
      simp only [picked, List.getElem?_cons_succ, List.getElem?_cons_zero, Option.toList_some, List.nil_append, List.cons_append, List.append_nil]
      try simp only [Act.put, List.setIfInBounds_toArray, List.set_cons_succ, List.set_cons_zero]
      repeat (go_big_quiet_step (fail))
      with_reducible refine wpQuiet_nil ?_
      refine st_end (by kernel_rfl) ?_
      simp only [List.drop_succ_cons, List.drop_zero, List.drop_nil]
      skip
      rw [← Hni.out, ← Hnt.out]
      clear r0 r8 u0 u8 p0 p1 p2 p3 p4 p5 p6 p7 p8 q0 q1 q2 q3 q4 q5 q6 q7 q8
      replace hA := hA.drew
      replace hB := hB.drew
      replace hR := hR.drew
      have hbw2 : Bel w w1.drew := hbw.drew
      clear hbw
      generalize w1.drew = w2 at *
      have p0 := (hA).1.2 0 _ rfl
      have p1 := (hA).1.2 1 _ rfl
      have p2 := (hA).1.2 2 _ rfl
      have p3 := (hA).1.2 3 _ rfl
      have p4 := (hA).1.2 4 _ rfl
      have p5 := (hA).1.2 5 _ rfl
      have p6 := (hA).1.2 6 _ rfl
      have p7 := (hA).1.2 7 _ rfl
      have p8 := (hA).1.2 8 _ rfl
      have q0 := (hB).1.2 0 _ rfl
      have q1 := (hB).1.2 1 _ rfl
      have q2 := (hB).1.2 2 _ rfl
      have q3 := (hB).1.2 3 _ rfl
      have q4 := (hB).1.2 4 _ rfl
      have q5 := (hB).1.2 5 _ rfl
      have q6 := (hB).1.2 6 _ rfl
      have q7 := (hB).1.2 7 _ rfl
      have q8 := (hB).1.2 8 _ rfl
      have pf := hA.2
      have pl := hA.1.1
      have qf := hB.2
      have ql := hB.1.1
      go_upto_if 34 with fail
      go_cut [34] (fun _ wx => AtF wx w.heap.size [.int .i64 (X.b).id, .int .i64 (X.b).ten, .int .i64 (X.b).knd, .int .i64 (X.b).sec, .int .i64 (X.b).cnt, .string (X.b).dat, .bool (X.b).fua, .slice (X.b).mA (X.b).mL (X.b).mC, .int .i64 (X.b).tim] ∧ AtF wx (w.heap.size + 1) [.int .i64 (Y.b).id, .int .i64 (Y.b).ten, .int .i64 (Y.b).knd, .int .i64 (Y.b).sec, .int .i64 (Y.b).cnt, .string (Y.b).dat, .bool (Y.b).fua, .slice (Y.b).mA (Y.b).mL (Y.b).mC, .int .i64 (Y.b).tim] ∧ AtF wx (w.heap.size + 1 + 1) [.int .i64 0, .int .i64 0, .int .i64 0, .int .i64 0, .int .i64 0, .string ⟨#[]⟩, .bool false, .slice none 0 0, .int .i64 0] ∧ Bel w wx)
      case first =>
        rcases o8 with rfl | rfl
        · have EX := HX.out
          have EY := HY.out
          rw [if_neg (by decide)] at EX EY
          go_wp2_with fail
          go_meet
          rw [EX, EY]
          exact ⟨hA, hB, hR, hbw2⟩
        · have EX := HX.out
          have EY := HY.out
          rw [if_pos rfl] at EX EY
          clear HX HY HJ HMX HMY HN3 HT
          go_wp2_with fail
          go_meet
          rw [EX, EY]
          have hA2 := (hA.setRow [.int .i64 i2, .int .i64 t2, .int .i64 k2, .int .i64 s2, .int .i64 n2, .string d2, .bool f2, .slice a2 l2 c2, .int .i64 m2] rfl).setRow_other (B := w.heap.size + 1) (i := 0) [.int .i64 i1, .int .i64 t1, .int .i64 k1, .int .i64 s1, .int .i64 n1, .string d1, .bool f1, .slice a1 l1 c1, .int .i64 m1] (by omega)
          have hB2 := (hB.setRow_other (B := w.heap.size) (i := 0) [.int .i64 i2, .int .i64 t2, .int .i64 k2, .int .i64 s2, .int .i64 n2, .string d2, .bool f2, .slice a2 l2 c2, .int .i64 m2] (by omega)).setRow [.int .i64 i1, .int .i64 t1, .int .i64 k1, .int .i64 s1, .int .i64 n1, .string d1, .bool f1, .slice a1 l1 c1, .int .i64 m1] rfl
          have hR2 := (hR.setRow_other (B := w.heap.size) (i := 0) [.int .i64 i2, .int .i64 t2, .int .i64 k2, .int .i64 s2, .int .i64 n2, .string d2, .bool f2, .slice a2 l2 c2, .int .i64 m2] (by omega)).setRow_other (B := w.heap.size + 1) (i := 0) [.int .i64 i1, .int .i64 t1, .int .i64 k1, .int .i64 s1, .int .i64 n1, .string d1, .bool f1, .slice a1 l1 c1, .int .i64 m1] (by omega)
          exact ⟨hA2, hB2, hR2, Bel.setRow (B := w.heap.size + 1) (i := 0) [.int .i64 i1, .int .i64 t1, .int .i64 k1, .int .i64 s1, .int .i64 n1, .string d1, .bool f1, .slice a1 l1 c1, .int .i64 m1] (Bel.setRow (B := w.heap.size) (i := 0) [.int .i64 i2, .int .i64 t2, .int .i64 k2, .int .i64 s2, .int .i64 n2, .string d2, .bool f2, .slice a2 l2 c2, .int .i64 m2] hbw2 (by omega)) (by omega)⟩
      case rest =>
        clear pf pl qf ql p0 p1 p2 p3 p4 p5 p6 p7 p8 q0 q1 q2 q3 q4 q5 q6 q7 q8 hA hB hR hbw2
        obtain ⟨hA, hB, hR, hbc⟩ := hcut
        obtain ⟨⟨i3, t3, k3, s3, n3, d3, f3, a3, l3, c3, m3⟩, ms3⟩ := X
        obtain ⟨⟨i4, t4, k4, s4, n4, d4, f4, a4, l4, c4, m4⟩, ms4⟩ := Y
        simp only at hA hB
        obtain ⟨⟨hl3, hr3, hi3, -⟩, ho3⟩ := HMX.out
        obtain ⟨⟨hl4, hr4, hi4, -⟩, ho4⟩ := HMY.out
        simp only at hl3 hr3 hi3 hl4 hr4 hi4
        subst hl3 hl4
        have HS3 := Lib.hid (ok_small ho3)
        have HS4 := Lib.hid (ok_small ho4)
        have HCL := Lib.hid (fun w' (h : Bel w w') => cloneMem_any _ _ _ w' (hr3.bel h) (flat_one (f := Mem.cells) (fun m u hu => by simp [Mem.cells] at hu; rcases hu with rfl | rfl | rfl <;> rfl) ms3) (by have := HS3.out.1; show ms3.length ≤ 1000; have : ms3.length ≤ 128 := HS3.out.1; omega))
        have HR4 := Lib.hid hr4
        have HI := Lib.hid (And.intro hi3 hi4)
        obtain ⟨n, Hn⟩ : ∃ n, Hid (n = ms3.length) := ⟨_, rfl⟩
        obtain ⟨n', Hn'⟩ : ∃ n, Hid (n = ms4.length) := ⟨_, rfl⟩
        rw [← Hn.out] at HCL hA
        rw [← Hn'.out] at HR4 hB
        clear hr3 hi3 hr4 hi4 ho3 ho4 HMX HMY HX HY
        have p0 := (hA).1.2 0 _ rfl
        have p1 := (hA).1.2 1 _ rfl
        have p2 := (hA).1.2 2 _ rfl
        have p3 := (hA).1.2 3 _ rfl
        have p4 := (hA).1.2 4 _ rfl
        have p5 := (hA).1.2 5 _ rfl
        have p6 := (hA).1.2 6 _ rfl
        have p7 := (hA).1.2 7 _ rfl
        have p8 := (hA).1.2 8 _ rfl
        have q0 := (hB).1.2 0 _ rfl
        have q1 := (hB).1.2 1 _ rfl
        have q2 := (hB).1.2 2 _ rfl
        have q3 := (hB).1.2 3 _ rfl
        have q4 := (hB).1.2 4 _ rfl
        have q5 := (hB).1.2 5 _ rfl
        have q6 := (hB).1.2 6 _ rfl
        have q7 := (hB).1.2 7 _ rfl
        have q8 := (hB).1.2 8 _ rfl
        have pl := hA.1.1
        have ql := hB.1.1
        obtain ⟨cl, Hcl⟩ : ∃ l : List Value, l = [.int .i64 ni, .int .i64 t3, .int .i64 k3, .int .i64 s3, .int .i64 n3, .string d3, .bool f3, .slice a3 n c3, .int .i64 nt] := ⟨_, rfl⟩
        have hO := AtF.new wc 44 cl
        rw [Hcl] at hO
        have hbo : Bel w (wc.alloc (.cells [.int .i64 ni, .int .i64 t3, .int .i64 k3, .int .i64 s3, .int .i64 n3, .string d3, .bool f3, .slice a3 n c3, .int .i64 nt].toArray 44)) := hbc.alloc _
        have hA1 := hA.alloc (.cells [.int .i64 ni, .int .i64 t3, .int .i64 k3, .int .i64 s3, .int .i64 n3, .string d3, .bool f3, .slice a3 n c3, .int .i64 nt].toArray 44)
        have hB1 := hB.alloc (.cells [.int .i64 ni, .int .i64 t3, .int .i64 k3, .int .i64 s3, .int .i64 n3, .string d3, .bool f3, .slice a3 n c3, .int .i64 nt].toArray 44)
        have hR1 := hR.alloc (.cells [.int .i64 ni, .int .i64 t3, .int .i64 k3, .int .i64 s3, .int .i64 n3, .string d3, .bool f3, .slice a3 n c3, .int .i64 nt].toArray 44)
        simp only [List.toArray] at hO hA1 hB1 hR1 hbo
        go_wp2_with fail
        refine (HCL.out _ hbo).mono ?_; rintro e w4 ⟨v', rfl, hown, hb4⟩
        replace hA1 := hA1.bel hb4
        replace hB1 := hB1.bel hb4
        replace hR1 := hR1.bel hb4
        replace hO := hO.bel hb4
        have hbw4 := hbo.trans hb4
        have hOs : w.heap.size + 1 + 1 < wc.heap.size := hR.1.1
        have hown1 : w4.ownsRow (wc.heap.size + 1) 93 3 v' n (mcells ms3) := by simpa [World.size_alloc] using hown
        clear hA hB hR hbo hown hb4 p0 p1 p2 p3 p4 p5 p6 p7 p8 q0 q1 q2 q3 q4 q5 q6 q7 q8 pl ql hbc
        generalize wc.heap.size = O at *
        obtain ⟨A', c', rfl⟩ := own_slice hown1
        have hO4 := hO.set 7 (by simp) (.slice A' n c')
        have hA4 := hA1.other (C := O) (by omega) 7 (.slice A' n c')
        have hB4 := hB1.other (C := O) (by omega) 7 (.slice A' n c')
        have hR4 := hR1.other (C := O) (by omega) 7 (.slice A' n c')
        have hown4 := own_other hown1 (p := ⟨O, 7, none⟩) (by simp) (.slice A' n c')
        have hbw5 : Bel w (w4.setCell ⟨O, 7, none⟩ (.slice A' n c')) := hbw4.setNew (by show w.heap.size ≤ O; omega) _
        have of7 := hO.2 7
        have ol := hO.1.1
        have o7 := hO.1.2 7 _ rfl
        have q7 := hB4.1.2 7 _ rfl
        clear hA1 hB1 hR1 hO hown1 hbw4
        obtain ⟨i0, hi, hz0, hz1, hz2⟩ := info_parts Tryz.infoMem
        have HAT := Lib.hid (fun k m (hk : ms4[k]? = some m) => mems_at (c := c4) (by rw [← Hn'.out]; exact HR4.out) hk)
        have HNB := Lib.hid (show 1 ≤ n3 ∧ n3 ≤ 128 ∧ n4 ≤ 128 - n3 ∧ 1 ≤ n4 from HN3.out)
        have HL3 : n ≤ 128 := by rw [Hn.out]; exact HS3.out.1
        have HL4 : n' ≤ 128 := by rw [Hn'.out]; exact HS4.out.1
        have HOF := Lib.hid (fun m (hm : m ∈ ms4) => HS4.out.2.1 m hm)
        go_wp2
        clear of7 ol o7 q7
        go_loopw [49] (fun iv wr => ∃ (i : Nat) (A : Option Addr) (cp : Nat), iv = .int .i64 i ∧ i ≤ n' ∧ wr.ownsRow (O + 1) 93 3 (.slice A (n + i) cp) (n + i) (mcells (ms3 ++ shift n3 (ms4.take i))) ∧ AtF wr O [.int .i64 ni, .int .i64 t3, .int .i64 k3, .int .i64 s3, .int .i64 n3, .string d3, .bool f3, .slice A (n + i) cp, .int .i64 nt] ∧ AtF wr w.heap.size [.int .i64 i3, .int .i64 t3, .int .i64 k3, .int .i64 s3, .int .i64 n3, .string d3, .bool f3, .slice a3 n c3, .int .i64 m3] ∧ AtF wr (w.heap.size + 1) [.int .i64 i4, .int .i64 t4, .int .i64 k4, .int .i64 s4, .int .i64 n4, .string d4, .bool f4, .slice a4 n' c4, .int .i64 m4] ∧ AtF wr (w.heap.size + 1 + 1) [.int .i64 0, .int .i64 0, .int .i64 0, .int .i64 0, .int .i64 0, .string ⟨#[]⟩, .bool false, .slice none 0 0, .int .i64 0] ∧ Bel w wr) (fun iv _ => n' - (intOf iv).toNat)
        case atStart => exact ⟨0, A', c', rfl, by omega, by simpa [shift] using hown4, hO4, hA4, hB4, hR4, hbw5⟩
        case round =>
          clear hown4 hO4 hA4 hB4 hR4 hbw5
          obtain ⟨i, A, cp, rfl, p1, hown, hO, hA, hB, hR, hbr⟩ := hrel
          have a4 := hA.1.2 4 _ rfl
          have al := hA.1.1
          have o7 := hO.1.2 7 _ rfl
          have ol := hO.1.1
          have of7 := hO.2 7
          by_cases hlt : i < n'
          · have i1 : (i : Int) < (n' : Int) := by omega
            obtain ⟨x, hx⟩ : ∃ x, ms4[i]? = some x := ⟨ms4[i]'(by have := Hn'.out; omega), List.getElem?_eq_getElem _⟩
            obtain ⟨b, o, rfl, hlb, hrow⟩ := HAT.out i x hx
            have hrow := hrow.bel hbr hlb
            have d0 := hrow.cell 0 rfl
            have d1 := hrow.cell 1 rfl
            have d2 := hrow.cell 2 rfl
            rw [Nat.add_zero] at d0
            have HX := Lib.hid hx
            obtain ⟨b0, b1⟩ := HOF.out x (List.mem_of_getElem? hx)
            obtain ⟨b2, b3, b4, b5⟩ := HNB.out
            have hbs := hbr.size
            have hlw : b < wr.heap.size := by omega
            clear hx hrow
            have hne := own_ne hown (k := O) (.inl (by omega))
            have hneA := own_ne hown (k := w.heap.size) (.inl (by omega))
            have hneB := own_ne hown (k := w.heap.size + 1) (.inl (by omega))
            have hneR := own_ne hown (k := w.heap.size + 1 + 1) (.inl (by omega))
            have bw : -9223372036854775808 ≤ x.off + n3 ∧ x.off + n3 < 9223372036854775808 := by omega
            go_wp2_with (at_builtin; go_must (refine wpList_append_own_at _ rfl _ _ 42 rfl (O + 1) 93 i0 _ 3 24 Tryz.underlying42 hi hz0 hz1 hz2 rfl (by omega) (.slice A (n + i) cp) _ _ rfl ((hown.alloc _).alloc _) ⟨wr.heap.size + 1, 0, none⟩ 1 1 (Mem.cells ⟨x.id, x.off + n3, x.cnt⟩) rfl rfl (World.news_of_block (cs := #[.int .i64 x.id, .int .i64 (x.off + n3), .int .i64 x.cnt]) (t := 93) (fr := (0, 0)) (heap_new_at (by simp))) (fun u hu => by simp [Mem.cells] at hu; rcases hu with rfl | rfl | rfl <;> rfl) (by unfold maxLen; omega) (by omega) (by simp; omega) ?_); intro v' w3 hown' hg' _ hloc; obtain ⟨gn, cn, hvn, _, _⟩ := hown'.form (by omega); subst hvn; have hO3 := ((hO.alloc _).alloc _).grown hg' (Ne.symm hne); have og := hO3.2 7; have ok := hO3.1.1; have oc := hO3.1.2 7 _ rfl)
            have hA3 := ((hA.alloc _).alloc _).grown hg' (Ne.symm hneA)
            have hB3 := ((hB.alloc _).alloc _).grown hg' (Ne.symm hneB)
            have hR3 := ((hR.alloc _).alloc _).grown hg' (Ne.symm hneR)
            have hbw3 := bel_own ((hbr.alloc _).alloc _) ((hown.alloc _).alloc _) hg' (by omega)
            have hown5 := own_other hown' (p := ⟨O, 7, none⟩) (by simp) (.slice (some ⟨gn, 0, none⟩) (n + i + 1) cn)
            have hO5 := hO3.set 7 (by simp) (.slice (some ⟨gn, 0, none⟩) (n + i + 1) cn)
            have hA5 := hA3.other (C := O) (by omega) 7 (.slice (some ⟨gn, 0, none⟩) (n + i + 1) cn)
            have hB5 := hB3.other (C := O) (by omega) 7 (.slice (some ⟨gn, 0, none⟩) (n + i + 1) cn)
            have hR5 := hR3.other (C := O) (by omega) 7 (.slice (some ⟨gn, 0, none⟩) (n + i + 1) cn)
            have hbw5 := hbw3.setNew (p := ⟨O, 7, none⟩) (by show w.heap.size ≤ O; omega) (.slice (some ⟨gn, 0, none⟩) (n + i + 1) cn)
            have HTK := Lib.hid (show mcells (ms3 ++ shift n3 (ms4.take (i + 1))) = mcells (ms3 ++ shift n3 (ms4.take i)) ++ Mem.cells ⟨x.id, x.off + n3, x.cnt⟩ from by
              rw [List.take_add_one, HX.out]; simp [shift, mcells])
            go_roundw
            case rel => exact ⟨i + 1, _, _, by go_num, by omega, by rw [HTK.out]; exact hown5, hO5, hA5, hB5, hR5, hbw5⟩
            case measure => simp [intOf]; omega
          · obtain rfl : i = n' := by omega
            have jk : decide ((i : Int) < (i : Int)) = false := by simp
            clear o7 of7
            have o0 := (hO).1.2 0 _ rfl
            have o1 := (hO).1.2 1 _ rfl
            have o2 := (hO).1.2 2 _ rfl
            have o3 := (hO).1.2 3 _ rfl
            have o4 := (hO).1.2 4 _ rfl
            have o5 := (hO).1.2 5 _ rfl
            have o6 := (hO).1.2 6 _ rfl
            have o7 := (hO).1.2 7 _ rfl
            have o8 := (hO).1.2 8 _ rfl
            have of := hO.2
            have q4 := hB.1.2 4 _ rfl
            have q5 := hB.1.2 5 _ rfl
            have ql := hB.1.1
            have r0 := (hR).1.2 0 _ rfl
            have r1 := (hR).1.2 1 _ rfl
            have r2 := (hR).1.2 2 _ rfl
            have r3 := (hR).1.2 3 _ rfl
            have r4 := (hR).1.2 4 _ rfl
            have r5 := (hR).1.2 5 _ rfl
            have r6 := (hR).1.2 6 _ rfl
            have r7 := (hR).1.2 7 _ rfl
            have r8 := (hR).1.2 8 _ rfl
            have rf := hR.2
            have rl := hR.1.1
            obtain ⟨b2, b3, b4, b5⟩ := HNB.out
            have hds : d3.size + d4.size ≤ maxLen := by
              have h1 : d3.size ≤ 1024 := HS3.out.2.2
              have h2 : d4.size ≤ 1024 := HS4.out.2.2
              unfold maxLen; omega
            have hds2 : ¬ 9223372036854775807 < d3.size + d4.size := by unfold maxLen at hds; omega
            have HM : Hid (J.ms = ms3 ++ shift n3 ms4) := by show _ = _; rw [HJ.out]; rfl
            have HJA : Hid (J.at A cp = ⟨ni, t3, k3, s3, n3 + n4, d3 ++ d4, f3, A, n + i, cp, nt⟩) := by
              show _ = _
              obtain ⟨g1, g2, g3⟩ := HT.out
              have e1 : ni = min i1 i2 := by rw [Hni.out]; split <;> omega
              have e2 : nt = min m1 m2 := by rw [Hnt.out]; split <;> omega
              have e3 : (ms3 ++ shift n3 ms4).length = n + i := by rw [List.length_append, Hn.out, Hn'.out]; simp [shift]
              rw [HJ.out]
              show (⟨min i1 i2, t1, k1, s3, n3 + n4, d3 ++ d4, f1, A, (ms3 ++ shift n3 ms4).length, cp, min m1 m2⟩ : Bun) = _
              rw [e1, e2, e3, g1, g2, g3]
            have hR2 := ((hR.other (C := O) (by omega) 4 (.int .i64 (n3 + n4))).other (C := O) (by omega) 5 (.string (d3 ++ d4))).setRow [.int .i64 ni, .int .i64 t3, .int .i64 k3, .int .i64 s3, .int .i64 (n3 + n4), .string (d3 ++ d4), .bool f3, .slice A (n + i) cp, .int .i64 nt] rfl
            have hX := setRow_own (B := w.heap.size + 1 + 1) (i := 0) [.int .i64 ni, .int .i64 t3, .int .i64 k3, .int .i64 s3, .int .i64 (n3 + n4), .string (d3 ++ d4), .bool f3, .slice A (n + i) cp, .int .i64 nt] (own_other (own_other hown (p := ⟨O, 4, none⟩) (by simp) (.int .i64 (n3 + n4))) (p := ⟨O, 5, none⟩) (by simp) (.string (d3 ++ d4))) (own_ne hown (.inl (by omega)))
            have hZ : Zb (setRow ((wr.setCell ⟨O, 4, none⟩ (.int .i64 (n3 + n4))).setCell ⟨O, 5, none⟩ (.string (d3 ++ d4))) (w.heap.size + 1 + 1) 0 [.int .i64 ni, .int .i64 t3, .int .i64 k3, .int .i64 s3, .int .i64 (n3 + n4), .string (d3 ++ d4), .bool f3, .slice A (n + i) cp, .int .i64 nt]) w.heap.size J A cp := by
              have e3 : J.ms.length = n + i := by rw [HM.out, List.length_append, Hn.out, Hn'.out]; simp [shift]
              have e4 : ms4.take i = ms4 := List.take_of_length_le (by rw [← Hn'.out]; exact Nat.le_refl _)
              rw [e4] at hX
              refine ⟨⟨rfl, ?_, ?_, ?_⟩, ?_⟩
              · show Rd _ (.slice A J.ms.length cp) 3 J.ms.length (mcells J.ms)
                rw [e3, HM.out]
                exact Rd.own hX
              · intro m hm
                rw [HM.out, List.mem_append] at hm
                rcases hm with hm | hm
                · exact HI.out.1 m hm
                · unfold shift at hm
                  rw [List.mem_map] at hm
                  obtain ⟨z, hz, rfl⟩ := hm
                  exact HI.out.2 z hz
              · rw [HJA.out]
                show (d3 ++ d4).size ≤ maxLen
                rw [ByteArray.size_append]; exact hds
              · intro k hk
                rw [e3] at hk
                have := (hown.lt k hk).1
                omega
            have hbz := Bel.setRow (B := w.heap.size + 1 + 1) (i := 0) [.int .i64 ni, .int .i64 t3, .int .i64 k3, .int .i64 s3, .int .i64 (n3 + n4), .string (d3 ++ d4), .bool f3, .slice A (n + i) cp, .int .i64 nt] ((hbr.setNew (p := ⟨O, 4, none⟩) (by show w.heap.size ≤ O; omega) (.int .i64 (n3 + n4))).setNew (p := ⟨O, 5, none⟩) (by show w.heap.size ≤ O; omega) (.string (d3 ++ d4))) (by omega)
            have HZZ := Lib.hid hZ
            clear hX hZ
            go_wp2
            clear r0 r1 r2 r3 r4 r5 r6 r7 r8
            have r0 := (hR2).1.2 0 _ rfl
            have r1 := (hR2).1.2 1 _ rfl
            have r2 := (hR2).1.2 2 _ rfl
            have r3 := (hR2).1.2 3 _ rfl
            have r4 := (hR2).1.2 4 _ rfl
            have r5 := (hR2).1.2 5 _ rfl
            have r6 := (hR2).1.2 6 _ rfl
            have r7 := (hR2).1.2 7 _ rfl
            have r8 := (hR2).1.2 8 _ rfl
            exact bodyPost_ret (v := .agg #[.int .i64 ni, .int .i64 t3, .int .i64 k3, .int .i64 s3, .int .i64 (n3 + n4), .string (d3 ++ d4), .bool f3, .slice A (n + i) cp, .int .i64 nt]) (by simp only [setRow] at r0 r1 r2 r3 r4 r5 r6 r7 r8; simp [results, Tryz.results24, go_sem, r0, r1, r2, r3, r4, r5, r6, r7, r8]) rfl ⟨A, cp, by rw [HJA.out], HZZ.out, hbz⟩
    · have HF := Lib.hid (HZ.out (.inr hc))
      have hcb : (cu != how) = true := by simpa using hc
      obtain ⟨⟨i1, t1, k1, s1, n1, d1, f1, a1, l1, c1, m1⟩, ms1⟩ := x
      obtain ⟨⟨i2, t2, k2, s2, n2, d2, f2, a2, l2, c2, m2⟩, ms2⟩ := y
      clear HZ HN HJ hx hy h0 hc HBX
      simp only at HC ⊢
      have hR : AtF (((w.alloc (.cells #[.int .i64 i1, .int .i64 t1, .int .i64 k1, .int .i64 s1, .int .i64 n1, .string d1, .bool f1, .slice a1 l1 c1, .int .i64 m1] 44)).alloc (.cells #[.int .i64 i2, .int .i64 t2, .int .i64 k2, .int .i64 s2, .int .i64 n2, .string d2, .bool f2, .slice a2 l2 c2, .int .i64 m2] 44)).alloc (.cells #[.int .i64 0, .int .i64 0, .int .i64 0, .int .i64 0, .int .i64 0, .string ⟨#[]⟩, .bool false, .slice none 0 0, .int .i64 0] 44)) (w.heap.size + 1 + 1) [.int .i64 0, .int .i64 0, .int .i64 0, .int .i64 0, .int .i64 0, .string ⟨#[]⟩, .bool false, .slice none 0 0, .int .i64 0] := AtF.new_at (by simp) _ _
      go_enter Tryz.func24, Tryz.ntmps24
      go_wp2_with fail
      refine (HC.out _ bI).mono ?_; rintro e w1 ⟨rfl, hb1⟩
      have hR1 := hR.bel hb1
      have r0 := (hR1).1.2 0 _ rfl
      have r1 := (hR1).1.2 1 _ rfl
      have r2 := (hR1).1.2 2 _ rfl
      have r3 := (hR1).1.2 3 _ rfl
      have r4 := (hR1).1.2 4 _ rfl
      have r5 := (hR1).1.2 5 _ rfl
      have r6 := (hR1).1.2 6 _ rfl
      have r7 := (hR1).1.2 7 _ rfl
      have r8 := (hR1).1.2 8 _ rfl
      have rf := hR1.2
      have rl := hR1.1.1
      have hbw1 : Bel w w1 := bI
      clear hb1 hR
      go_wp2
      have hR2 := hR1.setRow [.int .i64 0, .int .i64 0, .int .i64 0, .int .i64 0, .int .i64 0, .string ⟨#[]⟩, .bool false, .slice none 0 0, .int .i64 0] rfl
      clear r0 r1 r2 r3 r4 r5 r6 r7 r8
      have r0 := (hR2).1.2 0 _ rfl
      have r1 := (hR2).1.2 1 _ rfl
      have r2 := (hR2).1.2 2 _ rfl
      have r3 := (hR2).1.2 3 _ rfl
      have r4 := (hR2).1.2 4 _ rfl
      have r5 := (hR2).1.2 5 _ rfl
      have r6 := (hR2).1.2 6 _ rfl
      have r7 := (hR2).1.2 7 _ rfl
      have r8 := (hR2).1.2 8 _ rfl
      exact bodyPost_ret (v := .agg #[.int .i64 0, .int .i64 0, .int .i64 0, .int .i64 0, .int .i64 0, .string ⟨#[]⟩, .bool false, .slice none 0 0, .int .i64 0]) (by simp only [setRow] at r0 r1 r2 r3 r4 r5 r6 r7 r8; simp [results, Tryz.results24, go_sem, r0, r1, r2, r3, r4, r5, r6, r7, r8]) rfl ⟨none, 0, by rw [HF.out]; rfl, by rw [HF.out]; exact zb_zero _ _, Bel.setRow (B := w.heap.size + 1 + 1) (i := 0) [.int .i64 0, .int .i64 0, .int .i64 0, .int .i64 0, .int .i64 0, .string ⟨#[]⟩, .bool false, .slice none 0 0, .int .i64 0] hbw1 (by omega)⟩
end Go.Proofs.YtpgjbocjhconoaaGreat
