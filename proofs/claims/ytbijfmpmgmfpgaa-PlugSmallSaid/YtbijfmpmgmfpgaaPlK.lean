/- plug.Order where nothing conflicts: sectors ascend. -/
import Derived.Test.YtbijfmpmgmfpgaaPlI
import Derived.Test.YtbijfmpmgmfpgaaPlain
namespace Go.Proofs.Ytbijfmpmgmfpgaa
open Go.RowKit Go.Maps
set_option linter.unusedSimpArgs false

theorem ordR_pre {P : List Bu} {i : Nat} : ∀ {s : Nat}, i < s → s ≤ P.length → (ordR P s).2[i]? = (ordR P (i + 1)).2[i]?
  | 0, h, _ => by omega
  | s + 1, h, hs => by
    by_cases e : i = s
    · subst e; rfl
    · obtain ⟨b, _, _, _, h4⟩ := ordR_succ (P := P) (r := s) (by omega)
      rw [h4, ← ordR_pre (s := s) (by omega) (by omega)]
      have := (ordR_ok P s (by omega)).olen
      rw [List.getElem?_append_left (by omega)]
/-- The round i of the order. -/
theorem ord_at {P : List Bu} {i : Nat} (hi : i < P.length) : ∃ b, (ordP P)[i]? = some b ∧ b < P.length ∧ (ordR P i).1[b]? = some false ∧ (ordR P (i + 1)).1 = (ordR P i).1.set b true := by
  obtain ⟨b, _, h2, h3, h4⟩ := ordR_succ hi
  refine ⟨b, ?_, h2, h3, by rw [h4]⟩
  unfold ordP
  rw [ordR_pre hi (Nat.le_refl _), h4]
  have := (ordR_ok P i (by omega)).olen
  rw [List.getElem?_append_right (by omega), this, Nat.sub_self]
  rfl
theorem ordP_len (P : List Bu) : (ordP P).length = P.length := (ordR_ok P P.length (Nat.le_refl _)).olen
theorem ordR_asc {P : List Bu} (hw : ∀ T i, waitsP P T i = false) : ∀ r ≤ P.length, (∀ j a b, (ordR P r).2[j]? = some a → (ordR P r).2[j + 1]? = some b → secI P a ≤ secI P b) ∧ (∀ a, (ordR P r).2.getLast? = some a → ∀ i < P.length, (ordR P r).1[i]? = some false → secI P a ≤ secI P i)
  | 0, _ => ⟨fun j a b h => (by cases h), fun a h => (by cases h)⟩
  | r + 1, hr => by
    obtain ⟨g1, g2⟩ := ordR_asc hw r (by omega)
    obtain ⟨b, h1, h2, h3, h4⟩ := ordR_succ (P := P) (r := r) (by omega)
    obtain ⟨-, -, k3⟩ := pickO_some h1
    have hol := (ordR_ok P r (by omega)).olen
    rw [h4]
    refine ⟨fun j a c ha hc => ?_, fun a ha i hi hoff => ?_⟩
    · by_cases e : j + 1 < (ordR P r).2.length
      · rw [List.getElem?_append_left (by omega)] at ha hc
        exact g1 j a c ha hc
      · have hj : j + 1 = (ordR P r).2.length := by
          have := (List.getElem?_eq_some_iff.1 hc).1
          rw [List.length_append] at this
          simp at this
          omega
        rw [List.getElem?_append_left (by omega)] at ha
        rw [List.getElem?_append_right (by omega), hj, Nat.sub_self] at hc
        obtain rfl : b = c := by simpa using hc
        refine g2 a ?_ b h2 h3
        rw [List.getLast?_eq_getElem?, ← ha]
        congr 1
        omega
    · simp only [List.getLast?_append, List.getLast?_singleton, Option.some_or, Option.some.injEq] at ha
      subst ha
      rw [List.getElem?_set] at hoff
      split at hoff
      · split at hoff <;> cases hoff
      · refine k3 i hi ?_
        unfold freeP
        rw [offB_iff.2 hoff, hw]
        rfl
theorem ordP_asc {P : List Bu} (hw : ∀ T i, waitsP P T i = false) {j a b : Nat} (ha : (ordP P)[j]? = some a) (hb : (ordP P)[j + 1]? = some b) : secI P a ≤ secI P b := (ordR_asc hw P.length (Nat.le_refl _)).1 j a b ha hb
/-- Reads conflict with nothing of their kind. -/
theorem reads_free {P : List Bu} (h : ∀ u ∈ P, u.knd = 1) (T : List Bool) (i : Nat) : waitsP P T i = false := by
  refine waitsP_no fun k hk => ?_
  unfold wAt
  split
  · rename_i a b e1 e2 e3
    cases hc : confU a b with
    | false => rfl
    | true =>
      have := h a (List.mem_of_getElem? e2)
      have := h b (List.mem_of_getElem? e3)
      rcases confU_write hc with h | h <;> omega
  · rfl
theorem plok_reads {t : Int} {m : Nat} {L : List BM} (h : PlOk t m L) : ∀ u ∈ L.map BM.bu, u.knd = 1 := fun u hu => by
  rw [List.mem_map] at hu
  obtain ⟨x, hx, rfl⟩ := hu
  obtain ⟨k, hk⟩ := List.mem_iff_getElem?.1 hx
  exact (h.2 k x hk).knd
end Go.Proofs.Ytbijfmpmgmfpgaa
