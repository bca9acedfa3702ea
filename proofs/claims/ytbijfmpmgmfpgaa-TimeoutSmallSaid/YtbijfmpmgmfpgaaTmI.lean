/- slices.DeleteFunc over watches; timeout.Stop. -/
import Derived.Test.YtbijfmpmgmfpgaaTmE
import Derived.Deep.DeepCutAuto
namespace Go.Proofs.Ytbijfmpmgmfpgaa
open Go.RowKit
set_option linter.unusedSimpArgs false

/-- 'clear(s)', s a slice of n > 0 elements of several cells: some cells are stored over it. -/
theorem run_clear_k {P : Program} (w : World) (t e ty : TypeId) (z : Value) (k : Nat) (ht : P.underlying t = some (.slice e)) (hv : ∀ w, (zeroValue e).run P w = .ok z w) (hz : z.cells.size = k) (h1 : ∀ u ∈ z.cells, u.oneCell' = true) (b o n c : Nat) (hn : 0 < n)
    (hc : ∀ j, j < n * k → (w.cell? ⟨b, o + j, none⟩).isSome = true) (hf : ∀ j, j < n * k → w.frozen? ⟨b, o + j, none⟩ = false) :
    ∃ L : List Value, L.length = n * k ∧ (Builtin.clear_ #[t] ty #[.slice (some ⟨b, o, none⟩) n c]).run P w = .ok (.tuple #[]) (w.setCells b o L) := by
  refine ⟨(Builtin.zeroCells z.cells n).toList, ?_, ?_⟩
  · simp [Builtin.zeroCells, hz, Nat.mul_comm]
  · have hlen : (Builtin.zeroCells z.cells n).toList.length = n * k := by simp [Builtin.zeroCells, hz, Nat.mul_comm]
    have hst := run_storeCells_cells (P := P) b o (Builtin.zeroCells z.cells n).toList 0 w (by rw [hlen]; simpa using hc) (by rw [hlen]; simpa using hf) (by
      intro v hv'
      simp [Builtin.zeroCells] at hv'
      obtain ⟨a, ha, rfl⟩ := hv'
      have hs : 0 < z.cells.size := by
        rcases Nat.eq_zero_or_pos z.cells.size with h0 | h0
        · rw [h0] at ha; simp at ha
        · exact h0
      have hm := Nat.mod_lt a hs
      rw [getElem!_pos z.cells _ hm]
      exact h1 _ (Array.getElem_mem hm))
    simp only [Nat.add_zero] at hst
    obtain ⟨m, rfl⟩ : ∃ m, n = m + 1 := ⟨n - 1, by omega⟩
    simp [Builtin.clear_, run_underlying ht, hv, hst]
theorem wpList_clear_at {P : Program} {ops : Array Oper} {rest : List Oper} {o : Oper} {a : Act} {w : World} {Q : Exit → Act → World → Prop} (hgd : o.guard = none) (x : Operand) (t : TypeId)
    (ho : o.op = .call { callee := .builtin .clear, args := #[x], argTypes := #[t] }) (e : TypeId) (z : Value) (k : Nat) (ht : P.underlying t = some (.slice e)) (hv : ∀ w, (zeroValue e).run P w = .ok z w) (hz : z.cells.size = k) (h1 : ∀ u ∈ z.cells, u.oneCell' = true) (b off n c : Nat) (hn : 0 < n)
    (hx : a.eval x = .slice (some ⟨b, off, none⟩) n c) (hc : ∀ j, j < n * k → (w.cell? ⟨b, off + j, none⟩).isSome = true) (hf : ∀ j, j < n * k → w.frozen? ⟨b, off + j, none⟩ = false)
    (h : ∀ L : List Value, L.length = n * k → wpList P ops Q rest (a.put o.dst (.tuple #[])) (w.setCells b off L)) : wpList P ops Q (o :: rest) a w := by
  refine wpList_plain hgd fun K hK => ?_
  obtain ⟨L, hL, hr⟩ := run_clear_k (P := P) w t e o.type z k ht hv hz h1 b off n c hn hc hf
  unfold Oper.wp execOp
  simp only [ho, resolve, invoke, builtin, Sem.run_bind, Sem.run_pure, Result.andThen_ok, List.map_toArray, List.map_cons, List.map_nil, hx, hr]
  exact hK _ _ (h L hL)

theorem wcells_set : ∀ (R : List Wt) (i : Nat) (x : Wt), i < R.length → ((wcells R).set (i * 2) (.int .i64 x.id)).set (i * 2 + 1) (.int .i64 x.at_) = wcells (R.set i x)
  | [], i, x, h => by simp at h
  | m :: R, 0, x, _ => by simp [wcells, Wt.cells]
  | m :: R, i + 1, x, h => by
    have ih := wcells_set R i x (by simpa using h)
    have e : wcells (m :: R) = .int .i64 m.id :: .int .i64 m.at_ :: wcells R := by simp [wcells, Wt.cells]
    have e2 : wcells ((m :: R).set (i + 1) x) = .int .i64 m.id :: .int .i64 m.at_ :: wcells (R.set i x) := by simp [wcells, Wt.cells]
    rw [e, e2, show (i + 1) * 2 = i * 2 + 1 + 1 by omega]
    simp only [List.set_cons_succ]
    rw [ih]
theorem size_setCells (b : Nat) : ∀ (vs : List Value) (o : Nat) (w : World), (w.setCells b o vs).heap.size = w.heap.size
  | [], _, _ => rfl
  | v :: vs, o, w => by
    have := size_setCells b vs (o + 1) (w.setCell ⟨b, o, none⟩ v)
    simpa [World.setCells, World.setCell] using this
theorem bel_setCells {a : World} {b : Nat} : ∀ (vs : List Value) {o : Nat} {w : World}, Bel a w → a.heap.size ≤ b → Bel a (w.setCells b o vs)
  | [], _, _, h, _ => h
  | v :: vs, o, _, h, hb => bel_setCells vs (h.setNew (p := ⟨b, o, none⟩) hb v) hb
theorem Try.zeroWt (w : World) : (zeroValue 96).run Try.prog w = .ok (.agg #[.int .i64 0, .int .i64 0]) w := by kernel_rfl
def keep (id : Int) (m : Wt) : Bool := !(m.id == id)
def flW (id : Int) (ms : List Wt) : List Wt := ms.filter (keep id)
theorem idxB_some {α : Type} {p : α → Bool} {l : List α} (h : l.any p = true) : ∃ (k : Nat) (x : α), l[k]? = some x ∧ p x = true ∧ (l.take k).any p = false ∧ idxB p l = (k : Int) := by
  unfold idxB
  cases hf : l.findIdx? p with
  | none =>
    rw [List.findIdx?_eq_none_iff] at hf
    rw [List.any_eq_true] at h
    obtain ⟨x, hx, hp⟩ := h
    rw [hf x hx] at hp; cases hp
  | some k =>
    rw [List.findIdx?_eq_some_iff_getElem] at hf
    obtain ⟨h1, h2, h3⟩ := hf
    refine ⟨k, l[k], List.getElem?_eq_getElem h1, h2, ?_, rfl⟩
    rw [List.any_eq_false]
    intro x hx
    obtain ⟨j, hj, rfl⟩ := List.mem_take_iff_getElem.1 hx
    have := h3 j (by omega)
    simpa using this
theorem flW_none {id : Int} {ms : List Wt} (h : (ms.any fun x => x.id == id) = false) : flW id ms = ms := by
  unfold flW
  rw [List.filter_eq_self]
  intro x hx
  rw [List.any_eq_false] at h
  have := h x hx
  unfold keep
  simpa using this

set_option maxHeartbeats 1000000 in
theorem stop1_any (x : Wt) (id : Int) (B : Nat) (w : World) (h : w.cell? ⟨B, 0, none⟩ = some (.int .i64 id)) :
    Calls Try.prog 82 #[.agg #[.int .i64 x.id, .int .i64 x.at_], .pointer (some ⟨B, 0, none⟩)] w fun e w' => e = .returned (.bool (x.id == id)) ∧ Bel w w' := by
  have hlt := World.block_lt_of_cell? _ _ h
  go_enter Try.func82, Try.ntmps82
  go_wp2
  go_ret
  exact ⟨rfl, (by repeat (first | (with_reducible exact Bel.refl _) | (with_reducible assumption) | (with_reducible refine Bel.drewN ?_ _) | (with_reducible refine Bel.drew ?_) | (with_reducible refine Bel.alloc ?_ _) | (with_reducible refine Bel.setNew ?_ ?_ _) | (with_reducible refine Bel.trans ?_ (by assumption)) | (focus (simp; done)) | (focus (simp; omega))))⟩

set_option maxRecDepth 100000 in
set_option maxHeartbeats 4000000 in
theorem deleteYes_any (ms : List Wt) (id : Int) (g c B : Nat) (w : World) (hrow : AtF w g (wcells ms)) (hc1 : ms.length ≤ c) (hc2 : c ≤ maxLen) (hn : ms.length ≤ 1000) (hB : w.cell? ⟨B, 0, none⟩ = some (.int .i64 id)) (hBg : B < g) (hany : (ms.any fun x => x.id == id) = true) :
    Calls Try.prog 81 #[.slice (some ⟨g, 0, none⟩) ms.length c, .func (.func 82) #[] #[.pointer (some ⟨B, 0, none⟩)]] w fun e w' => e = .returned (.slice (some ⟨g, 0, none⟩) (flW id ms).length c) ∧ AtF w' g (wcells (flW id ms)) ∧ ∀ a0, Bel a0 w → a0.heap.size ≤ g → Bel a0 w' := by
  unfold maxLen at hc2
  have hrd : Rd w (.slice (some ⟨g, 0, none⟩) ms.length c) 2 ms.length (wcells ms) := ⟨by rw [wcells_len], _, c, rfl, hc1, by unfold maxLen; omega, fun _ => ⟨g, 0, rfl, hrow.1.1, fun j u hu => by rw [Nat.zero_add]; exact hrow.1.2 j u hu⟩⟩
  have eg : ∀ args w, (callFunc 82 args).run Try.prog w = .ok (.enter 82 args) w := enters_of Try.func82 (by kernel_rfl) rfl
  have HI := Lib.hid (indexWt_any ms _ 82 #[.pointer (some ⟨B, 0, none⟩)] (fun x => x.id == id) w hrd eg (fun W x hW _ => stop1_any x id B W ((hW.cellAt _ _ (World.block_lt_of_cell? _ _ hB)).trans hB)))
  obtain ⟨k, x0, hk, hx0, hbk, hix⟩ := idxB_some hany
  rw [hix] at HI
  have hkl := (List.getElem?_eq_some_iff.1 hk).1
  have hR0 : Hid (ms.take k = (ms.take (k + 1)).filter (keep id)) := by
    show _ = _
    rw [List.take_add_one, hk, List.filter_append]
    have e1 : (ms.take k).filter (keep id) = ms.take k := flW_none hbk
    have e2 : (some x0).toList.filter (keep id) = [] := by simp [keep, hx0]
    rw [e1, e2, List.append_nil]
  have HBL : B < w.heap.size := World.block_lt_of_cell? _ _ hB
  obtain ⟨n, Hn⟩ : ∃ n, Hid (n = ms.length) := ⟨_, rfl⟩
  rw [← Hn.out] at HI hkl hn hc1 ⊢
  clear hrd hany hk hx0 hbk hix
  go_enter Try.func81, Try.ntmps81
  go_wp2_with fail
  refine HI.out.mono ?_; rintro e w1 ⟨rfl, hb1⟩
  have hkm : ((k : Int) == -1) = false := by simp; try omega
  go_wp2
  go_loopw [5, 6] (fun iv jv wr => ∃ (i j : Nat) (R : List Wt), iv = .int .i64 i ∧ jv = .int .i64 j ∧ i < j ∧ j ≤ n ∧ R.length = n ∧ Hid (R.take i = (ms.take j).filter (keep id)) ∧ Hid (R.drop j = ms.drop j) ∧ AtF wr g (wcells R) ∧ wr.cell? ⟨B, 0, none⟩ = some (.int .i64 id) ∧ B < wr.heap.size ∧ (∀ a0, Bel a0 w → a0.heap.size ≤ g → Bel a0 wr)) (fun _ jv _ => n - (intOf jv).toNat)
  case atStart => exact ⟨k, k + 1, ms, rfl, by go_num, by omega, by omega, Hn.out.symm, hR0, Lib.hid rfl, hrow.bel hb1, (hb1.cellAt _ _ HBL).trans hB, Nat.lt_of_lt_of_le HBL hb1.size, fun a0 h0 _ => h0.trans hb1⟩
  case round =>
    obtain ⟨i, j, R, rfl, rfl, p1, p2, hRl, HT, HD, hA, hBc, hBl, HBE⟩ := hrel
    have HBE := Lib.hid HBE
    by_cases hlt : j < n
    · have j1 : (j : Int) < (n : Int) := by omega
      obtain ⟨x, hx⟩ : ∃ x, ms[j]? = some x := ⟨ms[j]'(by have := Hn.out; omega), List.getElem?_eq_getElem _⟩
      have hxR : R[j]? = some x := by
        have h1 : (R.drop j)[0]? = (ms.drop j)[0]? := by rw [HD.out]
        rw [List.getElem?_drop, List.getElem?_drop, Nat.add_zero] at h1
        rw [h1]; exact hx
      have d0 : wr.cell? ⟨g, j * 2, none⟩ = some (.int .i64 x.id) := hA.1.2 (j * 2) _ (flat_at (f := Wt.cells) Wt.cells_len hxR (j := 0) rfl)
      have d1 : wr.cell? ⟨g, j * 2 + 1, none⟩ = some (.int .i64 x.at_) := hA.1.2 (j * 2 + 1) _ (flat_at (f := Wt.cells) Wt.cells_len hxR (j := 1) rfl)
      have hgl := hA.1.1
      have HX := Lib.hid (And.intro hx hxR)
      have HTK := Lib.hid (filter_take (p := keep id) hx)
      clear hx hxR
      have hbx : Bel wr (wr.alloc (.cells #[.int .i64 x.id, .int .i64 x.at_] 96)) := (by repeat (first | (with_reducible exact Bel.refl _) | (with_reducible assumption) | (with_reducible refine Bel.drewN ?_ _) | (with_reducible refine Bel.drew ?_) | (with_reducible refine Bel.alloc ?_ _) | (with_reducible refine Bel.setNew ?_ ?_ _) | (with_reducible refine Bel.trans ?_ (by assumption)) | (focus (simp; done)) | (focus (simp; omega))))
      go_wp2_with fail
      refine (stop1_any x id B _ (by rw [hbx.cellAt _ _ hBl]; exact hBc)).mono ?_; rintro e w2 ⟨rfl, hb2⟩
      have hA2 := (hA.alloc (.cells #[.int .i64 x.id, .int .i64 x.at_] 96)).bel hb2
      have hE2 := (AtF.new_at (w := wr) rfl 96 [.int .i64 x.id, .int .i64 x.at_]).bel hb2
      have z0 := hE2.1.2 0 _ rfl
      have z1 := hE2.1.2 1 _ rfl
      have hB2 : w2.cell? ⟨B, 0, none⟩ = some (.int .i64 id) := ((hbx.trans hb2).cellAt _ _ hBl).trans hBc
      have hBl2 : B < w2.heap.size := Nat.lt_of_lt_of_le hBl (hbx.trans hb2).size
      have HBE2 : Hid (∀ a0, Bel a0 w → a0.heap.size ≤ g → Bel a0 w2) := Lib.hid (fun a0 h0 h1 => (HBE.out a0 h0 h1).trans (hbx.trans hb2))
      have HD2 : Hid (R.drop (j + 1) = ms.drop (j + 1)) := Lib.hid (by
        have := congrArg (List.drop 1) HD.out
        rw [List.drop_drop, List.drop_drop] at this
        exact this)
      cases hxi : (x.id == id)
      · have HT2 : Hid ((R.set i x).take (i + 1) = (ms.take (j + 1)).filter (keep id)) := Lib.hid (by
          rw [HTK.out, ← HT.out, List.take_add_one, List.getElem?_set_self (by omega), List.take_set, List.set_eq_of_length_le (by rw [List.length_take]; omega)]
          simp [keep, hxi])
        have HD3 : Hid ((R.set i x).drop (j + 1) = ms.drop (j + 1)) := Lib.hid (by rw [List.drop_set_of_lt (by omega)]; exact HD2.out)
        have hi0 : i * 2 < (wcells R).length := by rw [wcells_len]; omega
        have hi1 : i * 2 + 1 < (wcells R).length := by rw [wcells_len]; omega
        have c0 : ∃ u, w2.cell? ⟨g, i * 2, none⟩ = some u := ⟨_, hA2.1.2 (i * 2) _ (List.getElem?_eq_getElem hi0)⟩
        have c1 : ∃ u, w2.cell? ⟨g, i * 2 + 1, none⟩ = some u := ⟨_, hA2.1.2 (i * 2 + 1) _ (List.getElem?_eq_getElem hi1)⟩
        obtain ⟨u0, c0⟩ := c0
        obtain ⟨u1, c1⟩ := c1
        have cf := hA2.2
        have hA3 := (hA2.set (i * 2) hi0 (.int .i64 x.id)).set (i * 2 + 1) (by rw [List.length_set]; exact hi1) (.int .i64 x.at_)
        rw [wcells_set R i x (by omega)] at hA3
        have hB3 : ((w2.setCell ⟨g, i * 2, none⟩ (.int .i64 x.id)).setCell ⟨g, i * 2 + 1, none⟩ (.int .i64 x.at_)).cell? ⟨B, 0, none⟩ = some (.int .i64 id) := by
          rw [World.cell?_setCell_other _ _ _ _ (by simp; try omega), World.cell?_setCell_other _ _ _ _ (by simp; try omega)]
          exact hB2
        have HX3 := Lib.hid (And.intro hA3 hB3)
        have HBE3 : Hid (∀ a0, Bel a0 w → a0.heap.size ≤ g → Bel a0 ((w2.setCell ⟨g, i * 2, none⟩ (.int .i64 x.id)).setCell ⟨g, i * 2 + 1, none⟩ (.int .i64 x.at_))) := Lib.hid (fun a0 h0 h1 => ((HBE2.out a0 h0 h1).setNew h1 _).setNew h1 _)
        have i1 : (i : Int) < (n : Int) := by omega
        clear hA3 hB3 d0 d1 hA
        go_wp2
        go_roundw
        case rel => exact ⟨i + 1, j + 1, R.set i x, by go_num, by go_num, by omega, by omega, by rw [List.length_set]; exact hRl, HT2, HD3, HX3.out.1, HX3.out.2, by simpa [World.setCell] using hBl2, HBE3.out⟩
        case measure => simp [intOf]; omega
      · have HT2 : Hid (R.take i = (ms.take (j + 1)).filter (keep id)) := Lib.hid (by
          rw [HTK.out, ← HT.out]
          simp [keep, hxi])
        clear d0 d1 hA
        go_wp2
        go_roundw
        case rel => exact ⟨i, j + 1, R, by go_num, by go_num, by omega, by omega, hRl, HT2, HD2, hA2, hB2, hBl2, HBE2.out⟩
        case measure => simp [intOf]; omega
    · obtain rfl : j = n := by omega
      have jk : decide ((j : Int) < (j : Int)) = false := by simp
      have HFL : Hid (R.take i = flW id ms) := Lib.hid (by
        rw [HT.out, List.take_of_length_le (by rw [← Hn.out]; exact Nat.le_refl _)]; rfl)
      have hil : (flW id ms).length = i := by rw [← HFL.out, List.length_take]; omega
      have hcc : ∀ q, q < (j - i) * 2 → (wr.cell? ⟨g, 0 + i * 2 + q, none⟩).isSome = true := fun q hq => by
        have hq2 : i * 2 + q < (wcells R).length := by rw [wcells_len]; omega
        rw [Nat.zero_add, hA.1.2 (i * 2 + q) _ (List.getElem?_eq_getElem hq2)]; rfl
      have hcf : ∀ q, q < (j - i) * 2 → wr.frozen? ⟨g, 0 + i * 2 + q, none⟩ = false := fun q _ => hA.2 _
      have i1 : (i : Int) ≤ (j : Int) := by omega
      have hci : ¬ c = i := by omega
      rw [Nat.zero_add] at hcc hcf
      obtain ⟨L, hL, hr⟩ := run_clear_k (P := Try.prog) wr 66 96 0 (.agg #[.int .i64 0, .int .i64 0]) 2 Try.underlying66 Try.zeroWt rfl (fun u hu => by simp [Value.cells] at hu; rcases hu with rfl | rfl <;> rfl) g (i * 2) (j - i) (c - i) (by omega) hcc hcf
      have hA2 : AtF (wr.setCells g (i * 2) L) g (wcells (flW id ms)) := by
        refine ⟨⟨?_, fun q u hu => ?_⟩, fun q => (World.frozen?_setCells _ _ _ _ _).trans (hA.2 q)⟩
        · rw [size_setCells]; exact hA.1.1
        · have hq := (List.getElem?_eq_some_iff.1 hu).1
          rw [wcells_len, hil] at hq
          rw [World.cell?_setCells_out _ _ _ _ _ (fun _ _ => .inl hq)]
          refine hA.1.2 q u ?_
          rw [← HFL.out] at hu
          have e : wcells R = wcells (R.take i) ++ wcells (R.drop i) := by rw [← wcells_app, List.take_append_drop]
          rw [e, List.getElem?_append_left (by rw [wcells_len, List.length_take]; omega)]
          exact hu
      have HBE4 : Hid (∀ a0, Bel a0 w → a0.heap.size ≤ g → Bel a0 (wr.setCells g (i * 2) L)) := Lib.hid (fun a0 h0 h1 => bel_setCells L (HBE.out a0 h0 h1) h1)
      have HA2 := Lib.hid hA2
      clear hA2 hcc hcf
      go_wp2
      go_ret
      exact ⟨by rw [hil]; rfl, HA2.out, HBE4.out⟩

set_option maxRecDepth 100000 in
set_option maxHeartbeats 4000000 in
theorem stop_any (L s id : Int) (v : Value) (ms : List Wt) (w : World) (h : Rd w v 2 ms.length (wcells ms)) (hn : ms.length ≤ 1000) :
    Calls Try.prog 48 #[.agg #[.int .i64 L, v, .int .i64 s], .int .i64 id] w fun e w' => ∃ (A : Option Addr) (c : Nat), e = .returned (.agg #[.int .i64 L, .slice A (flW id ms).length c, .int .i64 s]) ∧ Rd w' (.slice A (flW id ms).length c) 2 (flW id ms).length (wcells (flW id ms)) ∧ (∀ k, (Value.slice A (flW id ms).length c).ownBlock = some k → w.heap.size ≤ k) ∧ Bel w w' := by
  have eg := enters_of Try.func82 (by kernel_rfl) rfl
  have HN : Hid (∀ (v' : Value) (W : World) (B : Nat), Rd W v' 2 ms.length (wcells ms) → W.cell? ⟨B, 0, none⟩ = some (.int .i64 id) → (ms.any fun x => x.id == id) = false → Calls Try.prog 81 #[v', .func (.func 82) #[] #[.pointer (some ⟨B, 0, none⟩)]] W fun e w' => e = .returned v' ∧ Bel W w') := Lib.hid (fun v' W B hR hB hno =>
    deleteNo_any ms v' 82 #[.pointer (some ⟨B, 0, none⟩)] (fun x => x.id == id) W hR hno eg (fun W' x hW _ => stop1_any x id B W' ((hW.cellAt _ _ (World.block_lt_of_cell? _ _ hB)).trans hB)))
  have HY : Hid (∀ (g c B : Nat) (W : World), AtF W g (wcells ms) → ms.length ≤ c → c ≤ maxLen → W.cell? ⟨B, 0, none⟩ = some (.int .i64 id) → B < g → (ms.any fun x => x.id == id) = true → Calls Try.prog 81 #[.slice (some ⟨g, 0, none⟩) ms.length c, .func (.func 82) #[] #[.pointer (some ⟨B, 0, none⟩)]] W fun e w' => e = .returned (.slice (some ⟨g, 0, none⟩) (flW id ms).length c) ∧ AtF w' g (wcells (flW id ms)) ∧ ∀ a0, Bel a0 W → a0.heap.size ≤ g → Bel a0 w') := Lib.hid (fun g c B W h1 h2 h3 h4 h5 h6 => deleteYes_any ms id g c B W h1 h2 h3 hn h4 h5 h6)
  have HC := Lib.hid (fun w' (hb : Bel w w') => cloneWt_any _ _ _ w' (h.bel hb) (wcells_one ms) hn)
  have HFN : Hid ((ms.any fun x => x.id == id) = false → flW id ms = ms) := Lib.hid flW_none
  obtain ⟨A, c, rfl, hc1, hc2⟩ := h.form
  have hpos : (ms.any fun x => x.id == id) = true → 0 < ms.length := fun h => by
    cases ms with
    | nil => simp at h
    | cons m l => simp
  have HLF : Hid (wcells (flW id ms) = wcells (flW id ms) ∧ (wcells (flW id ms)).length = (flW id ms).length * 2) := Lib.hid ⟨rfl, wcells_len _⟩
  obtain ⟨n, Hn⟩ : ∃ n, Hid (n = ms.length) := ⟨_, rfl⟩
  rw [← Hn.out] at HC HN HY hn hpos ⊢
  generalize (ms.any fun x => x.id == id) = an at *
  obtain ⟨F, HFF⟩ : ∃ F, Hid (F = flW id ms) := ⟨_, rfl⟩
  rw [← HFF.out] at HY HFN HLF ⊢
  clear h hc1 hc2 eg
  have hX := ((AtF.new_at (w := w) rfl 68 [.int .i64 L, .slice A n c, .int .i64 s]).alloc (.cells [.int .i64 id].toArray 3)).alloc (.cells [.int .i64 0, .slice none 0 0, .int .i64 0].toArray 68)
  have hI := (AtF.new_at (w := w.alloc (.cells [.int .i64 L, .slice A n c, .int .i64 s].toArray 68)) (g := w.heap.size + 1) (by simp) 3 [.int .i64 id]).alloc (.cells [.int .i64 0, .slice none 0 0, .int .i64 0].toArray 68)
  have hR := AtF.new_at (w := (w.alloc (.cells [.int .i64 L, .slice A n c, .int .i64 s].toArray 68)).alloc (.cells [.int .i64 id].toArray 3)) (g := w.heap.size + 1 + 1) (by simp) 68 [.int .i64 0, .slice none 0 0, .int .i64 0]
  have hbw : Bel w (((w.alloc (.cells [.int .i64 L, .slice A n c, .int .i64 s].toArray 68)).alloc (.cells [.int .i64 id].toArray 3)).alloc (.cells [.int .i64 0, .slice none 0 0, .int .i64 0].toArray 68)) := (by repeat (first | (with_reducible exact Bel.refl _) | (with_reducible assumption) | (with_reducible refine Bel.drewN ?_ _) | (with_reducible refine Bel.drew ?_) | (with_reducible refine Bel.alloc ?_ _) | (with_reducible refine Bel.setNew ?_ ?_ _) | (with_reducible refine Bel.trans ?_ (by assumption)) | (focus (simp; done)) | (focus (simp; omega))))
  simp only [List.toArray] at hX hI hR hbw
  go_enter Try.func48, Try.ntmps48
  go_wp2_with fail
  refine (HC.out _ hbw).mono ?_; rintro e w1 ⟨v', rfl, hown, hb1⟩
  have hX1 := hX.bel hb1
  have hI1 := hI.bel hb1
  have hR1 := hR.bel hb1
  have hbw1 := hbw.trans hb1
  have hown0 := hown
  simp only [World.size_alloc] at hown
  cases an
  · obtain ⟨A', c', rfl⟩ := own_slice hown
    have HF2 : Hid (F = ms) := Lib.hid (HFN.out rfl)
    go_wp2_with fail
    refine (HN.out _ _ _ (Rd.own hown) (hI1.1.2 0 _ rfl) (by simp)).mono ?_; rintro e w2 ⟨rfl, hb2⟩
    have hrd : Rd w2 (.slice A' n c') 2 n (wcells ms) := (Rd.own hown).bel hb2
    have hne := own_ne hown (k := w.heap.size) (.inl (by omega))
    have hneR := own_ne hown (k := w.heap.size + 1 + 1) (.inl (by omega))
    have hX2 := hX1.bel hb2
    have hR2 := hR1.bel hb2
    have hb3 := hbw1.trans hb2
    have HK : Hid (∀ k, (Value.slice A' n c').ownBlock = some k → w.heap.size ≤ k) := Lib.hid (fun k hk => by have := (hown.lt k hk).1; omega)
    have a0 := hX2.1.2 0 _ rfl
    have a1 := hX2.1.2 1 _ rfl
    have a2 := hX2.1.2 2 _ rfl
    have af := hX2.2
    have al := hX2.1.1
    have r0 := hR2.1.2 0 _ rfl
    have r1 := hR2.1.2 1 _ rfl
    have r2 := hR2.1.2 2 _ rfl
    have rf := hR2.2
    have rl := hR2.1.1
    have hR3 := (hR2.other (C := w.heap.size) (by omega) 1 (.slice A' n c')).setRow [.int .i64 L, .slice A' n c', .int .i64 s] rfl
    have hrd3 := (hrd.far (p := ⟨w.heap.size, 1, none⟩) hne (.slice A' n c')).setRow (B := w.heap.size + 1 + 1) (i := 0) [.int .i64 L, .slice A' n c', .int .i64 s] hneR
    have hb4 := (hb3.setNew (p := ⟨w.heap.size, 1, none⟩) (Nat.le_refl _) (.slice A' n c')).setRow (B := w.heap.size + 1 + 1) (i := 0) [.int .i64 L, .slice A' n c', .int .i64 s] (by omega)
    have HX5 := Lib.hid (And.intro hrd3 hb4)
    clear hrd3 hb4
    go_wp2
    clear r0 r1 r2
    have r0 := hR3.1.2 0 _ rfl
    have r1 := hR3.1.2 1 _ rfl
    have r2 := hR3.1.2 2 _ rfl
    exact bodyPost_ret (v := .agg #[.int .i64 L, .slice A' n c', .int .i64 s]) (by simp only [setRow] at r0 r1 r2; simp [results, Try.results48, go_sem, r0, r1, r2]) rfl ⟨A', c', by first | (rw [← Hfl.out]; done) | (rw [HF2.out, ← Hn.out]; done), by first | (rw [← Hfl.out]; exact HX5.out.1) | (rw [HF2.out, ← Hn.out]; exact HX5.out.1), (by first | exact HK.out | (rw [HF2.out, ← Hn.out]; exact HK.out)), HX5.out.2⟩
  · have hp := hpos rfl
    obtain ⟨g', c', rfl, hg1, hg2⟩ := hown.form hp
    obtain ⟨A2, c2, h1, h2, h3⟩ := (Rd.own hown).form
    injection h1 with h4 h5 h6
    subst h4 h6
    have hrow : AtF w1 g' (wcells ms) := ⟨⟨hg2, fun j u hu => by
      have := hown.cells (g := g') rfl j u hu
      rw [add_zero_off] at this
      exact this⟩, fun j => hown.frozenAt j⟩
    go_wp2_with fail
    refine (HY.out g' c' (w.heap.size + 1) w1 hrow h2 h3 (hI1.1.2 0 _ rfl) (by omega) (by simp)).mono ?_; rintro e w2 ⟨rfl, hrow2, HBE⟩
    have hbx := HBE _ hb1 (by simp; omega)
    have hb3 : Bel w w2 := hbw.trans hbx
    have hX2 := hX.bel hbx
    have hR2 := hR.bel hbx
    have hFl : F.length ≤ n := by
      have e : F.length ≤ ms.length := by rw [HFF.out]; exact List.length_filter_le _ _
      rw [Hn.out]; exact e
    have hrd : Rd w2 (.slice (some ⟨g', 0, none⟩) F.length c') 2 F.length (wcells F) := ⟨HLF.out.2, _, c', rfl, by omega, h3, fun _ => ⟨g', 0, rfl, hrow2.1.1, fun j u hu => by rw [Nat.zero_add]; exact hrow2.1.2 j u hu⟩⟩
    have hne : (Value.slice (some ⟨g', 0, none⟩) F.length c').ownBlock ≠ some w.heap.size := by simp [Value.ownBlock]; omega
    have hneR : (Value.slice (some ⟨g', 0, none⟩) F.length c').ownBlock ≠ some (w.heap.size + 1 + 1) := by simp [Value.ownBlock]; omega
    obtain ⟨fl, Hfl⟩ : ∃ k, Hid (k = F.length) := ⟨_, rfl⟩
    rw [← Hfl.out] at hrd hne hneR ⊢
    have HK : Hid (∀ k, (Value.slice (some ⟨g', 0, none⟩) fl c').ownBlock = some k → w.heap.size ≤ k) := Lib.hid (fun k hk => by simp [Value.ownBlock] at hk; omega)
    have HF2 : Hid (F = F) := Lib.hid rfl
    clear hown hown0 hrow hrow2 h2 h3 HBE hbx hX hI hR hbw hb1 hX1 hI1 hR1 hbw1
    have a0 := hX2.1.2 0 _ rfl
    have a1 := hX2.1.2 1 _ rfl
    have a2 := hX2.1.2 2 _ rfl
    have af := hX2.2
    have al := hX2.1.1
    have r0 := hR2.1.2 0 _ rfl
    have r1 := hR2.1.2 1 _ rfl
    have r2 := hR2.1.2 2 _ rfl
    have rf := hR2.2
    have rl := hR2.1.1
    have hR3 := (hR2.other (C := w.heap.size) (by omega) 1 (.slice (some ⟨g', 0, none⟩) fl c')).setRow [.int .i64 L, .slice (some ⟨g', 0, none⟩) fl c', .int .i64 s] rfl
    have hrd3 := (hrd.far (p := ⟨w.heap.size, 1, none⟩) hne (.slice (some ⟨g', 0, none⟩) fl c')).setRow (B := w.heap.size + 1 + 1) (i := 0) [.int .i64 L, .slice (some ⟨g', 0, none⟩) fl c', .int .i64 s] hneR
    have hb4 := (hb3.setNew (p := ⟨w.heap.size, 1, none⟩) (Nat.le_refl _) (.slice (some ⟨g', 0, none⟩) fl c')).setRow (B := w.heap.size + 1 + 1) (i := 0) [.int .i64 L, .slice (some ⟨g', 0, none⟩) fl c', .int .i64 s] (by omega)
    have HX5 := Lib.hid (And.intro hrd3 hb4)
    clear hrd3 hb4
    go_wp2
    clear r0 r1 r2
    have r0 := hR3.1.2 0 _ rfl
    have r1 := hR3.1.2 1 _ rfl
    have r2 := hR3.1.2 2 _ rfl
    exact bodyPost_ret (v := .agg #[.int .i64 L, .slice (some ⟨g', 0, none⟩) fl c', .int .i64 s]) (by simp only [setRow] at r0 r1 r2; simp [results, Try.results48, go_sem, r0, r1, r2]) rfl ⟨(some ⟨g', 0, none⟩), c', by first | (rw [← Hfl.out]; done) | (rw [HF2.out, ← Hn.out]; done), by first | (rw [← Hfl.out]; exact HX5.out.1) | (rw [HF2.out, ← Hn.out]; exact HX5.out.1), (by first | exact HK.out | (rw [HF2.out, ← Hn.out]; exact HK.out)), HX5.out.2⟩
end Go.Proofs.Ytbijfmpmgmfpgaa
