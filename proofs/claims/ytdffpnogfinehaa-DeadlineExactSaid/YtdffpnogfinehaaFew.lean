/- The law's few. -/
import Derived.Test.YtdffpnogfinehaaQ
namespace Go.Proofs.Ytdffpnogfinehaa
open Go.RowKit Go.Maps
set_option linter.unusedSimpArgs false

def FewE (n n' : Nat) (w : World) (e : Ending) (w' : World) : Prop := ∃ f : Bool, e = .returned (.bool f) ∧ (f = true → n ≤ 10 ∧ n' ≤ 10) ∧ Bel w w'

set_option maxRecDepth 100000 in
set_option maxHeartbeats 4000000 in
theorem few_any (L : List QM) (B : List BM) (v bv : Value) (w : World) (hv : QL w v L) (hb : BL w bv B) :
    Calls Try.prog 18 #[v, bv] w (FewE L.length B.length w) := by
  obtain ⟨A, c, rfl, hc1, hc2⟩ := hv.form
  obtain ⟨A', c', rfl, hc1', hc2'⟩ := hb.form
  have HAT := Lib.hid (fun k x (hk : L[k]? = some x) => hv.at hk)
  have HBT := Lib.hid (fun k x (hk : B[k]? = some x) => hb.at hk)
  obtain ⟨n, Hn⟩ : ∃ n, Hid (n = L.length) := ⟨_, rfl⟩
  obtain ⟨n', Hn'⟩ : ∃ n, Hid (n = B.length) := ⟨_, rfl⟩
  rw [← Hn.out] at hc1 HAT ⊢
  rw [← Hn'.out] at hc1' HBT ⊢
  unfold maxLen at hc2 hc2'
  clear hv hb
  go_enter Try.func18, Try.ntmps18
  go_wp2
  go_loopw [5] (fun iv wr => ∃ i : Nat, iv = .int .i64 i ∧ i ≤ n ∧ i ≤ 11 ∧ Bel w wr) (fun iv _ => n - (intOf iv).toNat)
  case atStart => exact ⟨0, rfl, by omega, by omega, Bel.refl _⟩
  case round =>
    obtain ⟨i, rfl, p1, p2, hbr⟩ := hrel
    by_cases hlt : i < n ∧ i ≤ 10
    · obtain ⟨h1, h2⟩ := hlt
      have i1 : (i : Int) < (n : Int) := by omega
      have i2 : (i : Int) ≤ 10 := by omega
      obtain ⟨x, hx⟩ : ∃ x, L[i]? = some x := ⟨L[i]'(by have := Hn.out; omega), List.getElem?_eq_getElem _⟩
      obtain ⟨b, o, c9, hX⟩ := HAT.out i x hx
      have hf := hX.form
      simp only [Value.slice.injEq] at hf
      obtain ⟨rfl, _, rfl⟩ := hf
      have hX := hX.bel hbr
      have x5 := hX.row.cell 5 rfl
      have x7 := hX.row.cell 7 rfl
      clear hx
      by_cases d1 : (1200 : Int) < (x.q.b.dat.size : Int)
      · go_wp2
        go_ret
        exact ⟨false, rfl, (fun h => by cases h), hbr⟩
      · by_cases d2 : (10 : Int) < (x.q.b.mL : Int)
        · go_wp2
          go_ret
          exact ⟨false, rfl, (fun h => by cases h), hbr⟩
        · go_wp2
          go_roundw
          case rel => exact ⟨i + 1, by go_num, by omega, by omega, hbr⟩
          case measure => simp [intOf]; omega
    · by_cases h1 : i < n
      · have i1 : (i : Int) < (n : Int) := by omega
        have i2 : (10 : Int) < (i : Int) := by omega
        go_wp2
        obtain ⟨W, rfl⟩ : ∃ W, W = wr := ⟨_, rfl⟩
        go_loopw [6] (fun iv wr => ∃ i : Nat, iv = .int .i64 i ∧ i ≤ n' ∧ i ≤ 11 ∧ Bel w wr) (fun iv _ => n' - (intOf iv).toNat)
        case atStart => exact ⟨0, rfl, by omega, by omega, hbr⟩
        case round =>
          obtain ⟨j, rfl, q1, q2, hbq⟩ := hrel
          by_cases hlt' : j < n' ∧ j ≤ 10
          · obtain ⟨g1, g2⟩ := hlt'
            have j1 : (j : Int) < (n' : Int) := by omega
            have j2 : (j : Int) ≤ 10 := by omega
            obtain ⟨x, hx⟩ : ∃ x, B[j]? = some x := ⟨B[j]'(by have := Hn'.out; omega), List.getElem?_eq_getElem _⟩
            obtain ⟨b, o, c9, hX⟩ := HBT.out j x hx
            have hf := hX.form
            simp only [Value.slice.injEq] at hf
            obtain ⟨rfl, _, rfl⟩ := hf
            have hX := hX.bel hbq
            have x5 := hX.row.cell 5 rfl
            have x7 := hX.row.cell 7 rfl
            clear hx
            by_cases d1 : (1200 : Int) < (x.b.dat.size : Int)
            · go_wp2
              go_ret
              exact ⟨false, rfl, (fun h => by cases h), hbq⟩
            · by_cases d2 : (10 : Int) < (x.b.mL : Int)
              · go_wp2
                go_ret
                exact ⟨false, rfl, (fun h => by cases h), hbq⟩
              · go_wp2
                go_roundw
                case rel => exact ⟨j + 1, by go_num, by omega, by omega, hbq⟩
                case measure => simp [intOf]; omega
          · by_cases g1 : j < n'
            · have j1 : (j : Int) < (n' : Int) := by omega
              have j2 : (10 : Int) < (j : Int) := by omega
              go_wp2
              all_goals
                go_ret
                refine ⟨_, rfl, fun h => ?_, hbq⟩
                first | omega | (simp at h; done) | (simp at h; omega)
            · have j1 : (n' : Int) ≤ (j : Int) := by omega
              go_wp2
              all_goals
                go_ret
                refine ⟨_, rfl, fun h => ?_, hbq⟩
                first | omega | (simp at h; done) | (simp at h; omega)
      · have i1 : (n : Int) ≤ (i : Int) := by omega
        go_wp2
        obtain ⟨W, rfl⟩ : ∃ W, W = wr := ⟨_, rfl⟩
        go_loopw [6] (fun iv wr => ∃ i : Nat, iv = .int .i64 i ∧ i ≤ n' ∧ i ≤ 11 ∧ Bel w wr) (fun iv _ => n' - (intOf iv).toNat)
        case atStart => exact ⟨0, rfl, by omega, by omega, hbr⟩
        case round =>
          obtain ⟨j, rfl, q1, q2, hbq⟩ := hrel
          by_cases hlt' : j < n' ∧ j ≤ 10
          · obtain ⟨g1, g2⟩ := hlt'
            have j1 : (j : Int) < (n' : Int) := by omega
            have j2 : (j : Int) ≤ 10 := by omega
            obtain ⟨x, hx⟩ : ∃ x, B[j]? = some x := ⟨B[j]'(by have := Hn'.out; omega), List.getElem?_eq_getElem _⟩
            obtain ⟨b, o, c9, hX⟩ := HBT.out j x hx
            have hf := hX.form
            simp only [Value.slice.injEq] at hf
            obtain ⟨rfl, _, rfl⟩ := hf
            have hX := hX.bel hbq
            have x5 := hX.row.cell 5 rfl
            have x7 := hX.row.cell 7 rfl
            clear hx
            by_cases d1 : (1200 : Int) < (x.b.dat.size : Int)
            · go_wp2
              go_ret
              exact ⟨false, rfl, (fun h => by cases h), hbq⟩
            · by_cases d2 : (10 : Int) < (x.b.mL : Int)
              · go_wp2
                go_ret
                exact ⟨false, rfl, (fun h => by cases h), hbq⟩
              · go_wp2
                go_roundw
                case rel => exact ⟨j + 1, by go_num, by omega, by omega, hbq⟩
                case measure => simp [intOf]; omega
          · by_cases g1 : j < n'
            · have j1 : (j : Int) < (n' : Int) := by omega
              have j2 : (10 : Int) < (j : Int) := by omega
              go_wp2
              all_goals
                go_ret
                refine ⟨_, rfl, fun h => ?_, hbq⟩
                first | omega | (simp at h; done) | (simp at h; omega)
            · have j1 : (n' : Int) ≤ (j : Int) := by omega
              go_wp2
              all_goals
                go_ret
                refine ⟨_, rfl, fun h => ?_, hbq⟩
                first | omega | (simp at h; done) | (simp at h; omega)
end Go.Proofs.Ytdffpnogfinehaa
