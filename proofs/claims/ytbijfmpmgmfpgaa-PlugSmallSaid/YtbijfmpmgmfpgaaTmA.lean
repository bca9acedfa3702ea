/- Lists of watched commands: slices.Clone, IndexFunc, ContainsFunc over them; limit and since. -/
import Derived.Test.YtbijfmpmgmfpgaaStr
import Derived.Lib.SliceRun
namespace Go.Proofs.Ytbijfmpmgmfpgaa
open Go.RowKit
set_option linter.unusedSimpArgs false

/-- A watched command. -/
structure Wt where
  id : Int
  at_ : Int
def Wt.cells (m : Wt) : List Value := [.int .i64 m.id, .int .i64 m.at_]
theorem Wt.cells_len (m : Wt) : m.cells.length = 2 := rfl
def wcells (l : List Wt) : List Value := l.flatMap Wt.cells
theorem wcells_len (l : List Wt) : (wcells l).length = l.length * 2 := flat_len Wt.cells_len l
theorem wcells_app (l m : List Wt) : wcells (l ++ m) = wcells l ++ wcells m := by simp [wcells]
theorem wcells_one (l : List Wt) : ∀ u ∈ wcells l, u.oneCell' = true := flat_one (fun a u hu => by
  simp [Wt.cells] at hu
  rcases hu with rfl | rfl <;> rfl) l
theorem wts_at {w : World} {A : Option Addr} {c : Nat} {ms : List Wt} {k : Nat} {m : Wt} (h : Rd w (.slice A ms.length c) 2 ms.length (wcells ms)) (hk : ms[k]? = some m) :
    ∃ b o, A = some ⟨b, o, none⟩ ∧ b < w.heap.size ∧ InRow w b (o + k * 2) m.cells := by
  have h0 := (List.getElem?_eq_some_iff.1 hk).1
  obtain ⟨b, o, c', hv, hb, hc⟩ := h.at (by omega)
  cases hv
  exact ⟨b, o, rfl, hb, row_at Wt.cells_len hc hk⟩

theorem Try.infoWt : (Try.prog.info? 96).map (fun i => (i.zero, i.size, i.bytes)) = some (some (.agg #[.int .i64 0, .int .i64 0]), 2, 16) := by kernel_rfl
set_option maxHeartbeats 2000000 in
theorem cloneWt_any (cs : List Value) (n : Nat) (v : Value) (w : World) (h : Rd w v 2 n cs) (hone : ∀ u ∈ cs, u.oneCell' = true) (hn : n ≤ 1000) :
    Calls Try.prog 72 #[v] w fun e w' => ∃ v', e = .returned v' ∧ w'.ownsRow w.heap.size 96 2 v' n cs ∧ Bel w w' := by
  obtain ⟨hl, A, cp, rfl, hcp, hmx, hr⟩ := h
  have hone := Lib.hid hone
  have q22 : ∀ (w : World) (a : Option Addr) (n c n' c' : Nat), (binOp .eql 66 (.slice a n c) (.slice none n' c')).run Try.prog w = .ok (.bool a.isNone) w := fun w a n c n' c' => Lib.run_eql_slice_nil w _ _ a n c n' c' Try.underlying66
  obtain ⟨i0, hi, hz0, hz1, hz2⟩ := info_parts Try.infoWt
  have HR := Lib.hid hr
  clear hr
  cases A with
  | none =>
    obtain rfl : n = 0 := by
      rcases Nat.eq_zero_or_pos n with h0 | h0
      · exact h0
      · obtain ⟨b, o, hA, _⟩ := HR.out h0; cases hA
    obtain rfl : cs = [] := by simpa using hl
    go_enter Try.func72, Try.ntmps72
    go_wp2
    go_ret
    exact ⟨_, rfl, ⟨by simp, Or.inl ⟨rfl, rfl⟩⟩, (by repeat (first | (with_reducible exact Bel.refl _) | (with_reducible assumption) | (with_reducible refine Bel.drewN ?_ _) | (with_reducible refine Bel.drew ?_) | (with_reducible refine Bel.alloc ?_ _) | (with_reducible refine Bel.setNew ?_ ?_ _) | (with_reducible refine Bel.trans ?_ (by assumption)) | (focus (simp; done)) | (focus (simp; omega))))⟩
  | some p =>
    go_enter Try.func72, Try.ntmps72
    go_wp2_with (at_builtin; go_must (refine wpList_append_own_at _ rfl _ _ 66 rfl w.heap.size 96 i0 _ 2 16 Try.underlying66 hi hz0 hz1 hz2 rfl (by omega) _ 0 [] rfl (World.ownsRow_made w #[] 0 (Nat.le_refl _) (Nat.zero_le _) rfl) p n cp cs rfl hl ?q1 hone.out (by unfold maxLen; omega) (by omega) (by simp) ?_))
    case q1 =>
      intro j u hj
      have hjn := (List.getElem?_eq_some_iff.1 hj).1
      obtain ⟨b, o, hA, hlb, hcell⟩ := HR.out (by omega)
      cases hA
      rw [Addr.add_lit]
      refine Lib.cell?_alloc_some _ ?_
      exact hcell j u hj
    intro v' w3 hown hg _ _
    go_wp2
    go_ret
    exact ⟨v', rfl, by simpa using hown, bel_own ((Bel.refl _).alloc _) (World.ownsRow_made (base := w.heap.size) (e := 96) (size := 2) w #[] 0 (Nat.le_refl _) (Nat.zero_le _) rfl) hg (Nat.le_refl _)⟩

set_option maxHeartbeats 4000000 in
theorem indexWt_any (ms : List Wt) (v : Value) (g : Nat) (lb : Array Value) (p : Wt → Bool) (w : World) (h : Rd w v 2 ms.length (wcells ms))
    (eg : ∀ args w, (callFunc g args).run Try.prog w = .ok (.enter g args) w)
    (hg : ∀ W x, Bel w W → x ∈ ms → Calls Try.prog g (#[.agg #[.int .i64 x.id, .int .i64 x.at_]] ++ lb) W fun e w' => e = .returned (.bool (p x)) ∧ Bel W w') :
    Calls Try.prog 89 #[v, .func (.func g) #[] lb] w fun e w' => e = .returned (.int .i64 (idxB p ms)) ∧ Bel w w' := by
  obtain ⟨A, c, rfl, hc1, hc2⟩ := h.form
  unfold maxLen at hc2
  have HAT := Lib.hid (fun k m (hk : ms[k]? = some m) => wts_at h hk)
  have HG := Lib.hid hg
  obtain ⟨n, Hn⟩ : ∃ n, Hid (n = ms.length) := ⟨_, rfl⟩
  obtain ⟨R, HR⟩ : ∃ R, Hid (R = idxB p ms) := ⟨_, rfl⟩
  rw [← HR.out]
  rw [← Hn.out] at hc1 ⊢
  clear h hg
  go_enter Try.func89, Try.ntmps89
  go_wp2
  go_loopw [8] (fun iv wr => ∃ i : Nat, iv = .int .i64 i ∧ i ≤ n ∧ Hid ((ms.take i).any p = false) ∧ Bel w wr) (fun iv _ => n - (intOf iv).toNat)
  case atStart => exact ⟨0, rfl, by omega, by simp [Hid], Bel.refl _⟩
  case round =>
    obtain ⟨i, rfl, p1, HA, hbr⟩ := hrel
    by_cases hlt : i < n
    · have i1 : (i : Int) < (n : Int) := by omega
      obtain ⟨x, hx⟩ : ∃ x, ms[i]? = some x := ⟨ms[i]'(by have := Hn.out; omega), List.getElem?_eq_getElem _⟩
      obtain ⟨b, o, rfl, hlb, hrow⟩ := HAT.out i x hx
      have hrow := hrow.bel hbr hlb
      have d0 := hrow.cell 0 rfl
      have d1 := hrow.cell 1 rfl
      rw [Nat.add_zero] at d0
      have HX := Lib.hid hx
      have HS := Lib.hid (any_take_succ' (p := p) hx)
      have hmem := List.mem_of_getElem? hx
      clear hx hrow
      go_wp2_with fail
      refine (HG.out _ x hbr hmem).mono ?_; rintro e w1 ⟨rfl, hb1⟩
      cases hp : p x
      · have HA2 : Hid ((ms.take (i + 1)).any p = false) := by show _ = _; rw [HS.out, HA.out, hp]; rfl
        clear hp
        go_wp2
        go_roundw
        case rel => exact ⟨i + 1, by go_num, by omega, HA2, hbr.trans hb1⟩
        case measure => simp [intOf]; omega
      · have HF : Hid (R = (i : Int)) := by show _ = _; rw [HR.out]; exact idxB_at HX.out hp HA.out
        clear hp
        go_wp2
        go_ret
        exact ⟨ret_int HF.out.symm, hbr.trans hb1⟩
    · obtain rfl : i = n := by omega
      have i1 : decide ((i : Int) < (i : Int)) = false := by simp
      have HF : Hid (R = -1) := by
        show _ = _
        rw [HR.out]
        exact idxB_no (by rw [← HA.out, List.take_of_length_le (by have := Hn.out; omega)])
      go_wp2
      go_ret
      exact ⟨ret_int HF.out.symm, hbr⟩

set_option maxHeartbeats 2000000 in
theorem containsWt_any (ms : List Wt) (v : Value) (g : Nat) (lb : Array Value) (p : Wt → Bool) (w : World) (h : Rd w v 2 ms.length (wcells ms))
    (eg : ∀ args w, (callFunc g args).run Try.prog w = .ok (.enter g args) w)
    (hg : ∀ W x, Bel w W → x ∈ ms → Calls Try.prog g (#[.agg #[.int .i64 x.id, .int .i64 x.at_]] ++ lb) W fun e w' => e = .returned (.bool (p x)) ∧ Bel W w') :
    Calls Try.prog 75 #[v, .func (.func g) #[] lb] w fun e w' => e = .returned (.bool (ms.any p)) ∧ Bel w w' := by
  have HI := Lib.hid (indexWt_any ms v g lb p w h eg hg)
  have HV := Lib.hid (idxB_any p ms)
  generalize idxB p ms = k at *
  generalize ms.any p = bb at *
  obtain ⟨A, c, rfl, _, _⟩ := h.form
  clear h hg eg
  go_enter Try.func75, Try.ntmps75
  go_wp2_with fail
  refine HI.out.mono ?_; rintro e w1 ⟨rfl, hb1⟩
  go_wp2
  go_ret
  exact ⟨ret_bool HV.out, hb1⟩

def limB (L : Int) : Bool := decide (1 ≤ L ∧ L ≤ 1000000)
def sncB (n : Int) : Bool := decide (0 ≤ n ∧ n ≤ 1099511627776)
set_option maxHeartbeats 1000000 in
theorem tmLimit_any (L s : Int) (v : Value) (w : World) : Calls Try.prog 73 #[.agg #[.int .i64 L, v, .int .i64 s]] w fun e w' => e = .returned (.bool (limB L)) ∧ Bel w w' := by
  go_enter Try.func73, Try.ntmps73
  go_wp2
  all_goals
    go_ret
    exact ⟨ret_bool (by first | (simp [limB, *]; done) | (simp [limB, *]; omega) | (simp [limB]; omega) | (rw [Bool.eq_iff_iff]; simp [limB, *]; omega)), (by repeat (first | (with_reducible exact Bel.refl _) | (with_reducible assumption) | (with_reducible refine Bel.drewN ?_ _) | (with_reducible refine Bel.drew ?_) | (with_reducible refine Bel.alloc ?_ _) | (with_reducible refine Bel.setNew ?_ ?_ _) | (with_reducible refine Bel.trans ?_ (by assumption)) | (focus (simp; done)) | (focus (simp; omega))))⟩
set_option maxHeartbeats 1000000 in
theorem refLimit_any (L s : Int) (v : Value) (w : World) : Calls Try.prog 78 #[.agg #[.int .i64 L, v, .int .i64 s]] w fun e w' => e = .returned (.bool (limB L)) ∧ Bel w w' := by
  go_enter Try.func78, Try.ntmps78
  go_wp2
  all_goals
    go_ret
    exact ⟨ret_bool (by first | (simp [limB, *]; done) | (simp [limB, *]; omega) | (simp [limB]; omega) | (rw [Bool.eq_iff_iff]; simp [limB, *]; omega)), (by repeat (first | (with_reducible exact Bel.refl _) | (with_reducible assumption) | (with_reducible refine Bel.drewN ?_ _) | (with_reducible refine Bel.drew ?_) | (with_reducible refine Bel.alloc ?_ _) | (with_reducible refine Bel.setNew ?_ ?_ _) | (with_reducible refine Bel.trans ?_ (by assumption)) | (focus (simp; done)) | (focus (simp; omega))))⟩
set_option maxHeartbeats 1000000 in
theorem since_any (n : Int) (w : World) : Calls Try.prog 74 #[.int .i64 n] w fun e w' => e = .returned (.bool (sncB n)) ∧ w = w' := by
  go_enter Try.func74, Try.ntmps74
  go_wp2
  all_goals
    go_ret
    exact ⟨ret_bool (by first | (simp [sncB, *]; done) | (simp [sncB, *]; omega) | (simp [sncB]; omega) | (rw [Bool.eq_iff_iff]; simp [sncB, *]; omega)), rfl⟩
set_option maxHeartbeats 1000000 in
theorem early_any (n : Int) (w : World) : Calls Try.prog 79 #[.int .i64 n] w fun e w' => e = .returned (.bool (sncB n)) ∧ w = w' := by
  go_enter Try.func79, Try.ntmps79
  go_wp2
  all_goals
    go_ret
    exact ⟨ret_bool (by first | (simp [sncB, *]; done) | (simp [sncB, *]; omega) | (simp [sncB]; omega) | (rw [Bool.eq_iff_iff]; simp [sncB, *]; omega)), rfl⟩
end Go.Proofs.Ytbijfmpmgmfpgaa
