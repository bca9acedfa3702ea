/- merge.strangers; slices.ContainsFunc over members. -/
import Derived.Test.YtbijfmpmgmfpgaaJoinP
import Derived.Test.YtbijfmpmgmfpgaaValL
import Derived.Shelf.Abstract
namespace Go.Proofs.Ytbijfmpmgmfpgaa
open Go.RowKit Go.Maps
set_option linter.unusedSimpArgs false

/-- Where the first element is for which p holds; -1: nowhere. -/
def idxB {α : Type} (p : α → Bool) (l : List α) : Int := match l.findIdx? p with
  | some k => (k : Int)
  | none => -1
theorem idxB_any {α : Type} (p : α → Bool) (l : List α) : decide (0 ≤ idxB p l) = l.any p := by
  unfold idxB
  cases h : l.findIdx? p with
  | none =>
    rw [List.findIdx?_eq_none_iff] at h
    have : l.any p = false := by rw [List.any_eq_false]; intro x hx; rw [h x hx]; simp
    rw [this]; rfl
  | some k =>
    rw [List.findIdx?_eq_some_iff_getElem] at h
    obtain ⟨h1, h2, _⟩ := h
    have : l.any p = true := List.any_eq_true.2 ⟨_, List.getElem_mem h1, h2⟩
    rw [this]; simp
theorem idxB_at {α : Type} {p : α → Bool} {l : List α} {k : Nat} {x : α} (h : l[k]? = some x) (hp : p x = true) (hb : (l.take k).any p = false) : idxB p l = (k : Int) := by
  have : l.findIdx? p = some k := by
    rw [List.findIdx?_eq_some_iff_getElem]
    obtain ⟨g1, g2⟩ := List.getElem?_eq_some_iff.1 h
    refine ⟨g1, by rw [g2]; exact hp, fun j hj => ?_⟩
    rw [List.any_eq_false] at hb
    exact hb _ (List.mem_take_iff_getElem.2 ⟨j, by omega, rfl⟩)
  unfold idxB
  rw [this]
theorem idxB_no {α : Type} {p : α → Bool} {l : List α} (h : l.any p = false) : idxB p l = -1 := by
  unfold idxB
  rw [List.findIdx?_eq_none_iff.2 (fun x hx => by rw [List.any_eq_false] at h; simpa using h x hx)]
theorem any_take_succ' {α : Type} {L : List α} {p : α → Bool} {j : Nat} {x : α} (h : L[j]? = some x) : (L.take (j + 1)).any p = ((L.take j).any p || p x) := by
  rw [List.take_add_one, h, List.any_append]
  simp

set_option maxHeartbeats 4000000 in
theorem indexMem_any (ms : List Mem) (v : Value) (g : Nat) (lb : Array Value) (p : Mem → Bool) (w : World) (h : Rd w v 3 ms.length (mcells ms))
    (eg : ∀ args w, (callFunc g args).run Try.prog w = .ok (.enter g args) w)
    (hg : ∀ W x, Bel w W → x ∈ ms → Calls Try.prog g (#[.agg #[.int .i64 x.id, .int .i64 x.off, .int .i64 x.cnt]] ++ lb) W fun e w' => e = .returned (.bool (p x)) ∧ Bel W w') :
    Calls Try.prog 94 #[v, .func (.func g) #[] lb] w fun e w' => e = .returned (.int .i64 (idxB p ms)) ∧ Bel w w' := by
  obtain ⟨A, c, rfl, hc1, hc2⟩ := h.form
  unfold maxLen at hc2
  have HAT := Lib.hid (fun k m (hk : ms[k]? = some m) => mems_at h hk)
  have HG := Lib.hid hg
  obtain ⟨n, Hn⟩ : ∃ n, Hid (n = ms.length) := ⟨_, rfl⟩
  obtain ⟨R, HR⟩ : ∃ R, Hid (R = idxB p ms) := ⟨_, rfl⟩
  rw [← HR.out]
  rw [← Hn.out] at hc1 ⊢
  clear h hg
  go_enter Try.func94, Try.ntmps94
  go_wp2
  go_loopw [8] (fun iv wr => ∃ i : Nat, iv = .int .i64 i ∧ i ≤ n ∧ Hid ((ms.take i).any p = false) ∧ Bel w wr) (fun iv _ => n - (intOf iv).toNat)
  case atStart => exact ⟨0, rfl, by omega, by simp [Hid], Bel.refl _⟩
  case round =>
    obtain ⟨i, rfl, p1, HA, hbr⟩ := hrel
    by_cases hlt : i < n
    · have i1 : (i : Int) < (n : Int) := by omega
      obtain ⟨x, hx⟩ : ∃ x, ms[i]? = some x := ⟨ms[i]'(by have := Hn.out; omega), List.getElem?_eq_getElem _⟩
      obtain ⟨b, o, rfl, hlb, hrow⟩ := HAT.out i x hx
      have hrow := hrow.bel hbr hlb
      have d0 := hrow.cell 0 rfl
      have d1 := hrow.cell 1 rfl
      have d2 := hrow.cell 2 rfl
      rw [Nat.add_zero] at d0
      have HX := Lib.hid hx
      have HS := Lib.hid (any_take_succ' (p := p) hx)
      have hmem := List.mem_of_getElem? hx
      clear hx hrow
      go_wp2_with fail
      refine (HG.out _ x hbr hmem).mono ?_; rintro e w1 ⟨rfl, hb1⟩
      cases hp : p x
      · have HA2 : Hid ((ms.take (i + 1)).any p = false) := by show _ = _; rw [HS.out, HA.out, hp]; rfl
        clear hp
        go_wp2
        go_roundw
        case rel => exact ⟨i + 1, by go_num, by omega, HA2, hbr.trans hb1⟩
        case measure => simp [intOf]; omega
      · have HF : Hid (R = (i : Int)) := by show _ = _; rw [HR.out]; exact idxB_at HX.out hp HA.out
        clear hp
        go_wp2
        go_ret
        exact ⟨ret_int HF.out.symm, hbr.trans hb1⟩
    · obtain rfl : i = n := by omega
      have i1 : decide ((i : Int) < (i : Int)) = false := by simp
      have HF : Hid (R = -1) := by
        show _ = _
        rw [HR.out]
        exact idxB_no (by rw [← HA.out, List.take_of_length_le (by have := Hn.out; omega)])
      go_wp2
      go_ret
      exact ⟨ret_int HF.out.symm, hbr⟩

set_option maxHeartbeats 2000000 in
theorem containsMem_any (ms : List Mem) (v : Value) (g : Nat) (lb : Array Value) (p : Mem → Bool) (w : World) (h : Rd w v 3 ms.length (mcells ms))
    (eg : ∀ args w, (callFunc g args).run Try.prog w = .ok (.enter g args) w)
    (hg : ∀ W x, Bel w W → x ∈ ms → Calls Try.prog g (#[.agg #[.int .i64 x.id, .int .i64 x.off, .int .i64 x.cnt]] ++ lb) W fun e w' => e = .returned (.bool (p x)) ∧ Bel W w') :
    Calls Try.prog 83 #[v, .func (.func g) #[] lb] w fun e w' => e = .returned (.bool (ms.any p)) ∧ Bel w w' := by
  have HI := Lib.hid (indexMem_any ms v g lb p w h eg hg)
  have HV := Lib.hid (idxB_any p ms)
  generalize idxB p ms = k at *
  generalize ms.any p = bb at *
  obtain ⟨A, c, rfl, _, _⟩ := h.form
  clear h hg eg
  go_enter Try.func83, Try.ntmps83
  go_wp2_with fail
  refine HI.out.mono ?_; rintro e w1 ⟨rfl, hb1⟩
  go_wp2
  go_ret
  exact ⟨ret_bool HV.out, hb1⟩
end Go.Proofs.Ytbijfmpmgmfpgaa
