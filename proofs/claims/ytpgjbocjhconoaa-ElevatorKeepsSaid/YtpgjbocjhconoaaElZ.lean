/- The law's place: the bunch that has a member. -/
import Derived.Test.YtpgjbocjhconoaaElT
namespace Go.Proofs.Ytpgjbocjhconoaa
open Go.RowKit Go.Maps
set_option linter.unusedSimpArgs false

/-- Where the first bunch lies that has a member. -/
def PlcOk (L : List BM) (id r : Int) : Prop :=
  (∃ (k : Nat) (x : BM), r = (k : Int) ∧ L[k]? = some x ∧ id ∈ idsU x.bu ∧ ∀ (j : Nat) (y : BM), j < k → L[j]? = some y → id ∉ idsU y.bu) ∨ (r = -1 ∧ ∀ (j : Nat) (y : BM), L[j]? = some y → id ∉ idsU y.bu)

set_option maxRecDepth 100000 in
set_option maxHeartbeats 8000000 in
theorem place_any (L : List BM) (id : Int) (v : Value) (w : World) (h : BL w v L) (hn : L.length ≤ 1000) (hm : ∀ x ∈ L, x.ms.length ≤ 1000) :
    Calls Try.prog 28 #[v, .int .i64 id] w fun e w' => ∃ r, e = .returned (.int .i64 r) ∧ PlcOk L id r ∧ Bel w w' := by
  have HAT := Lib.hid (fun k x (hk : L[k]? = some x) => h.at hk)
  obtain ⟨A, c, rfl, hc1, hc2⟩ := h.form
  unfold maxLen at hc2
  obtain ⟨n, Hn⟩ : ∃ n, Hid (L.length = n) := ⟨_, rfl⟩
  rw [Hn.out] at HAT hc1 hn ⊢
  have HM := Lib.hid hm
  clear h hm
  go_enter Try.func28, Try.ntmps28
  go_wp2
  go_loopw [5] (fun iv wr => ∃ i : Nat, iv = .int .i64 i ∧ i ≤ n ∧ Hid (∀ (j : Nat) (y : BM), j < i → L[j]? = some y → id ∉ idsU y.bu) ∧ Bel w wr) (fun iv _ => n - (intOf iv).toNat)
  case atStart => exact ⟨0, rfl, by omega, fun j y hj => absurd hj (by omega), Bel.refl _⟩
  case round =>
    obtain ⟨i, rfl, p1, HN, hbr⟩ := hrel
    obtain ⟨W1, rfl⟩ : ∃ X, X = wr := ⟨_, rfl⟩
    by_cases hlt : i < n
    · have hin : (i : Int) < (n : Int) := by omega
      have HLT := Lib.hid hlt
      obtain ⟨x, hx⟩ : ∃ x, L[i]? = some x := ⟨L[i]'(by have := Hn.out; omega), List.getElem?_eq_getElem _⟩
      obtain ⟨g, o, cx, hat⟩ := HAT.out i x hx
      have hf := hat.form
      injection hf with hf1 hf2 hf3
      subst hf1 hf3
      clear hf2
      have HX := Lib.hid hx
      have hml := HM.out x (List.mem_of_getElem? hx)
      have hmx := hat.mem.bel hbr
      have hrow := hat.row.bel hbr hat.lt
      have e7 := hrow.cell 7 rfl
      rw [hmx.len] at e7
      have gl : g < W1.heap.size := Nat.lt_of_lt_of_le hat.lt hbr.size
      obtain ⟨nm, Hnm⟩ : ∃ k, Hid (x.ms.length = k) := ⟨_, rfl⟩
      rw [Hnm.out] at e7 hml
      clear hat hx hrow
      go_wp2
      go_loopw [6] (fun jv wr => ∃ j : Nat, jv = .int .i64 j ∧ j ≤ nm ∧ Hid (∀ (q : Nat) (m : Mem), q < j → x.ms[q]? = some m → m.id ≠ id) ∧ Bel W1 wr) (fun jv _ => nm - (intOf jv).toNat)
      case atStart => exact ⟨0, rfl, by omega, fun q m hq => absurd hq (by omega), Bel.refl _⟩
      case round =>
        obtain ⟨j, rfl, r1, HJ, hbj⟩ := hrel
        obtain ⟨W2, rfl⟩ : ∃ X, X = wr := ⟨_, rfl⟩
        have f7 := (hbj.cellAt g _ gl).trans e7
        have gl2 : g < W2.heap.size := Nat.lt_of_lt_of_le gl hbj.size
        by_cases hjl : j < nm
        · have hjn : (j : Int) < (nm : Int) := by omega
          have HJL := Lib.hid hjl
          obtain ⟨m, hm⟩ : ∃ m, x.ms[j]? = some m := ⟨x.ms[j]'(by have := Hnm.out; omega), List.getElem?_eq_getElem _⟩
          obtain ⟨gm, om, cm, hfm, hgm, hcm⟩ := (hmx.bel hbj).rd.at (by have := Hnm.out; omega)
          have q0 := hcm _ _ (flat_at (l := x.ms) (f := Mem.cells) Mem.cells_len hm (j := 0) rfl)
          rw [Nat.add_zero] at q0
          injection hfm with h1 h2 h3
          rw [h1] at f7
          have HMJ := Lib.hid hm
          clear hcm hm h2 h3
          by_cases hid : m.id = id
          · have HR : Hid (PlcOk L id (i : Int)) := .inl ⟨i, x, rfl, HX.out, by
              unfold idsU
              rw [List.mem_map]
              exact ⟨m, List.mem_of_getElem? HMJ.out, hid⟩, HN.out⟩
            rw [hid] at q0
            have hbf := hbr.trans hbj
            clear hid h1
            go_wp2
            go_ret
            exact ⟨_, rfl, HR.out, hbf⟩
          · have hidb : (m.id == id) = false := by simpa using hid
            have HJ2 : Hid (∀ (q : Nat) (m : Mem), q < j + 1 → x.ms[q]? = some m → m.id ≠ id) := fun q m' hq hm' => by
              by_cases e : q < j
              · exact HJ.out q m' e hm'
              · obtain rfl : q = j := by omega
                rw [HMJ.out] at hm'
                injection hm' with hm'
                rw [← hm']; exact hid
            clear hid h1
            go_wp2
            go_roundw
            case rel => exact ⟨j + 1, by go_num, HJL.out, HJ2, hbj⟩
            case measure => have := HJL.out; simp [intOf]; omega
        · obtain rfl : j = nm := by omega
          have jk : decide ((j : Int) < (j : Int)) = false := by simp
          have HN2 : Hid (∀ (q : Nat) (y : BM), q < i + 1 → L[q]? = some y → id ∉ idsU y.bu) := fun q y hq hy => by
            by_cases e : q < i
            · exact HN.out q y e hy
            · obtain rfl : q = i := by omega
              rw [HX.out] at hy
              injection hy with hy
              rw [← hy]
              unfold idsU
              rw [List.mem_map]
              rintro ⟨m, hm, he⟩
              obtain ⟨k, hk⟩ := List.getElem?_of_mem (show m ∈ x.ms from hm)
              exact HJ.out k m (by have := (List.getElem?_eq_some_iff.1 hk).1; have := Hnm.out; omega) hk he
          have hbf := hbr.trans hbj
          go_wp2
          go_roundw
          case rel => exact ⟨i + 1, by go_num, HLT.out, HN2, hbf⟩
          case measure => have := HLT.out; simp [intOf]; omega
    · obtain rfl : i = n := by omega
      have jk : decide ((i : Int) < (i : Int)) = false := by simp
      have HR : Hid (PlcOk L id (-1)) := .inr ⟨rfl, fun j y hy => HN.out j y (by have := (List.getElem?_eq_some_iff.1 hy).1; have := Hn.out; omega) hy⟩
      go_wp2
      go_ret
      exact ⟨_, rfl, HR.out, hbr⟩
end Go.Proofs.Ytpgjbocjhconoaa
