/- plug.Order, plain. -/
import Derived.Test.YtbijfmpmgmfpgaaPlE
namespace Go.Proofs.Ytbijfmpmgmfpgaa
open Go.RowKit Go.Maps
set_option linter.unusedSimpArgs false

def offB (T : List Bool) (i : Nat) : Bool := match T[i]? with
  | some false => true
  | _ => false
def freeP (P : List Bu) (T : List Bool) (i : Nat) : Bool := offB T i && !waitsP P T i
def secI (P : List Bu) (i : Nat) : Int := match P[i]? with
  | some a => a.sec
  | none => 0
/-- The free one of the least sector among the first i. -/
def pickO (P : List Bu) (T : List Bool) : Nat → Option Nat
  | 0 => none
  | i + 1 => match pickO P T i with
    | none => if freeP P T i then some i else none
    | some b => if freeP P T i && decide (secI P i < secI P b) then some i else some b
def ordR (P : List Bu) : Nat → List Bool × List Nat
  | 0 => (List.replicate P.length false, [])
  | r + 1 => match pickO P (ordR P r).1 P.length with
    | some b => ((ordR P r).1.set b true, (ordR P r).2 ++ [b])
    | none => ordR P r
def ordP (P : List Bu) : List Nat := (ordR P P.length).2
def bestI : Option Nat → Int
  | none => -1
  | some b => (b : Int)

theorem offB_iff {T : List Bool} {i : Nat} : offB T i = true ↔ T[i]? = some false := by
  unfold offB
  split
  · rename_i h; simp [h]
  · rename_i h
    constructor
    · intro h2; cases h2
    · intro h2; exact absurd h2 h
theorem pickO_none {P : List Bu} {T : List Bool} : ∀ {n : Nat}, pickO P T n = none → ∀ i < n, freeP P T i = false
  | 0, _, i, hi => by omega
  | n + 1, h, i, hi => by
    unfold pickO at h
    split at h
    · rename_i h0
      split at h
      · cases h
      · rename_i hf
        by_cases hin : i < n
        · exact pickO_none h0 i hin
        · obtain rfl : i = n := by omega
          simpa using hf
    · split at h <;> cases h
theorem pickO_some {P : List Bu} {T : List Bool} : ∀ {n b : Nat}, pickO P T n = some b → b < n ∧ freeP P T b = true ∧ ∀ i < n, freeP P T i = true → secI P b ≤ secI P i
  | 0, b, h => by cases h
  | n + 1, b, h => by
    unfold pickO at h
    split at h
    · rename_i h0
      split at h
      · rename_i hf
        cases h
        refine ⟨by omega, hf, fun i hi hfi => ?_⟩
        by_cases hin : i < n
        · rw [pickO_none h0 i hin] at hfi; cases hfi
        · obtain rfl : i = n := by omega
          exact Int.le_refl _
      · cases h
    · rename_i c h0
      obtain ⟨g1, g2, g3⟩ := pickO_some h0
      split at h
      · rename_i hf
        cases h
        rw [Bool.and_eq_true, decide_eq_true_eq] at hf
        refine ⟨by omega, hf.1, fun i hi hfi => ?_⟩
        by_cases hin : i < n
        · have := g3 i hin hfi; omega
        · obtain rfl : i = n := by omega
          exact Int.le_refl _
      · rename_i hf
        cases h
        refine ⟨by omega, g2, fun i hi hfi => ?_⟩
        by_cases hin : i < n
        · exact g3 i hin hfi
        · obtain rfl : i = n := by omega
          rw [Bool.and_eq_true, decide_eq_true_eq] at hf
          have : ¬ secI P i < secI P b := fun h => hf ⟨hfi, h⟩
          omega
theorem off_first : ∀ (T : List Bool), T.count true < T.length → ∃ i : Nat, T[i]? = some false ∧ ∀ j : Nat, j < i → T[j]? = some true
  | [], h => by simp at h
  | false :: T, _ => ⟨0, rfl, fun j hj => by omega⟩
  | true :: T, h => by
    obtain ⟨i, h1, h2⟩ := off_first T (by simpa using h)
    refine ⟨i + 1, by simpa using h1, fun j hj => ?_⟩
    cases j with
    | zero => rfl
    | succ j => simpa using h2 j (by omega)
theorem count_set_true : ∀ {T : List Bool} {b : Nat}, T[b]? = some false → (T.set b true).count true = T.count true + 1
  | [], b, h => by cases h
  | x :: T, 0, h => by
    obtain rfl : x = false := by simpa using h
    simp
  | x :: T, b + 1, h => by
    have := count_set_true (T := T) (b := b) (by simpa using h)
    rw [List.set_cons_succ, List.count_cons, List.count_cons, this]
    omega

/-- What holds behind r rounds. -/
structure OrdR (P : List Bu) (r : Nat) (T : List Bool) (o : List Nat) : Prop where
  len : T.length = P.length
  olen : o.length = r
  cnt : T.count true = r
  off : ∀ i : Nat, T[i]? = some true ↔ i ∈ o
  nd : o.Nodup
  lt : ∀ i ∈ o, i < P.length
theorem ord_zero (P : List Bu) : OrdR P 0 (List.replicate P.length false) [] := by
  refine ⟨by simp, rfl, by simp [List.count_replicate], fun i => ?_, List.nodup_nil, fun i h => by cases h⟩
  simp [List.getElem?_replicate]
theorem ord_next {P : List Bu} {r : Nat} {T : List Bool} {o : List Nat} (h : OrdR P r T o) (hr : r < P.length) : ∃ b, pickO P T P.length = some b ∧ b < P.length ∧ T[b]? = some false ∧ OrdR P (r + 1) (T.set b true) (o ++ [b]) := by
  obtain ⟨i, h1, h2⟩ := off_first T (by rw [h.cnt, h.len]; exact hr)
  have hi : i < P.length := by rw [← h.len]; exact (List.getElem?_eq_some_iff.1 h1).1
  have hf : freeP P T i = true := by
    unfold freeP
    rw [offB_iff.2 h1, waitsP_no (fun k hk => by unfold wAt; rw [h2 k hk])]
    rfl
  cases hp : pickO P T P.length with
  | none => rw [pickO_none hp i hi] at hf; cases hf
  | some b =>
    obtain ⟨g1, g2, _⟩ := pickO_some hp
    unfold freeP at g2
    rw [Bool.and_eq_true] at g2
    have hb := offB_iff.1 g2.1
    have hlt : b < T.length := by rw [h.len]; exact g1
    refine ⟨b, rfl, g1, hb, ⟨by simp [h.len], by simp [h.olen], by rw [count_set_true hb, h.cnt], fun i => ?_, ?_, fun i hi => ?_⟩⟩
    · rw [List.getElem?_set, List.mem_append, List.mem_singleton, ← h.off]
      by_cases hbi : b = i
      · subst hbi
        rw [if_pos rfl, if_pos hlt]; simp
      · rw [if_neg hbi]
        constructor
        · exact fun h => .inl h
        · rintro (h | h)
          · exact h
          · exact absurd h.symm hbi
    · rw [List.nodup_append]
      refine ⟨h.nd, by simp, fun x hx y hy e => ?_⟩
      rw [List.mem_singleton] at hy
      subst hy; subst e
      rw [(h.off _).2 hx] at hb
      cases hb
    · rw [List.mem_append, List.mem_singleton] at hi
      rcases hi with hi | rfl
      · exact h.lt i hi
      · exact g1
theorem ordR_ok (P : List Bu) : ∀ r ≤ P.length, OrdR P r (ordR P r).1 (ordR P r).2
  | 0, _ => ord_zero P
  | r + 1, h => by
    have ih := ordR_ok P r (by omega)
    obtain ⟨b, h1, h2, h3, h4⟩ := ord_next ih (by omega)
    unfold ordR
    rw [h1]
    exact h4
theorem ordR_succ {P : List Bu} {r : Nat} (hr : r < P.length) : ∃ b, pickO P (ordR P r).1 P.length = some b ∧ b < P.length ∧ (ordR P r).1[b]? = some false ∧ ordR P (r + 1) = ((ordR P r).1.set b true, (ordR P r).2 ++ [b]) := by
  obtain ⟨b, h1, h2, h3, _⟩ := ord_next (ordR_ok P r (by omega)) hr
  refine ⟨b, h1, h2, h3, ?_⟩
  rw [ordR, h1]
theorem bcells_setP (T : List Bool) (b : Nat) (x : Bool) : (bcells T).set b (.bool x) = bcells (T.set b x) := by
  unfold bcells
  rw [List.map_set]
end Go.Proofs.Ytbijfmpmgmfpgaa
