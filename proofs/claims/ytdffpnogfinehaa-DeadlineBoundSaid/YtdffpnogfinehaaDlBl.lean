/- The plain law of DeadlineBound. -/
import Derived.Test.YtdffpnogfinehaaDlaw
namespace Go.Proofs.Ytdffpnogfinehaa
open Go.RowKit Go.Maps

/-- Entry p waits for entry f, or is it. -/
inductive Waits (L : List QM) (f : Nat) : Nat → Prop
  | refl : Waits L f f
  | step {j p : Nat} : Waits L f j → j < p → confAt L j p = true → Waits L f p
theorem Waits.le {L : List QM} {f p : Nat} (h : Waits L f p) : f ≤ p := by
  induction h with
  | refl => exact Nat.le_refl _
  | step _ h2 _ ih => omega
theorem chn_waits {L : List QM} {f : Nat} : ∀ m p, p ∈ chn L f m → Waits L f p
  | 0, p, h => by
    simp [chn] at h
    subst h
    exact .refl
  | m + 1, p, h => by
    unfold chn at h
    split at h
    · rename_i ha
      rw [List.mem_append] at h
      rcases h with h | h
      · exact chn_waits m p h
      · rw [List.mem_singleton] at h
        subst h
        rw [List.any_eq_true] at ha
        obtain ⟨j, hj, hc⟩ := ha
        have := chn_bd L f m j hj
        exact .step (chn_waits m j hj) (by omega) hc
    · exact chn_waits m p h
theorem chn_mono {L : List QM} {f p : Nat} : ∀ {m n}, m ≤ n → p ∈ chn L f m → p ∈ chn L f n
  | m, 0, h, hp => by
    have : m = 0 := by omega
    subst this; exact hp
  | m, n + 1, h, hp => by
    by_cases e : m = n + 1
    · subst e; exact hp
    · have := chn_mono (n := n) (by omega) hp
      unfold chn
      split
      · exact List.mem_append_left _ this
      · exact this
theorem waits_chn {L : List QM} {f p : Nat} (h : Waits L f p) : p ∈ chn L f (p - f) := by
  induction h with
  | refl => simp [chn]
  | step h1 h2 h3 ih =>
    rename_i j p
    have hle := h1.le
    have hj : j ∈ chn L f (p - f - 1) := chn_mono (by omega) ih
    obtain ⟨d, hd⟩ : ∃ d, p - f = d + 1 := ⟨p - f - 1, by omega⟩
    rw [hd]
    rw [hd] at hj
    unfold chn
    have hp : f + 1 + d = p := by omega
    rw [Nat.add_sub_cancel] at hj
    have ha : (chn L f d).any (fun n => confAt L n p) = true := List.any_eq_true.2 ⟨j, hj, h3⟩
    rw [hp, if_pos ha]
    simp
theorem lst_le {L : List QM} {f : Nat} : ∀ m p, p ∈ chn L f m → lst L f m ≤ dueAt L p
  | 0, p, h => by
    simp [chn] at h
    subst h
    exact Int.le_refl _
  | m + 1, p, h => by
    unfold chn at h
    unfold lst
    split at h
    · rename_i ha
      rw [if_pos ha]
      rw [List.mem_append] at h
      rcases h with h | h
      · have := lst_le m p h; omega
      · rw [List.mem_singleton] at h
        subst h
        omega
    · rename_i ha
      rw [if_neg ha]
      exact lst_le m p h
theorem lst_is {L : List QM} {f : Nat} : ∀ m, ∃ p, p ∈ chn L f m ∧ lst L f m = dueAt L p
  | 0 => ⟨f, by simp [chn], rfl⟩
  | m + 1 => by
    obtain ⟨p, h1, h2⟩ := lst_is (L := L) (f := f) m
    unfold chn lst
    split
    · by_cases hm : lst L f m ≤ dueAt L (f + 1 + m)
      · exact ⟨p, List.mem_append_left _ h1, by rw [← h2]; omega⟩
      · exact ⟨f + 1 + m, by simp, by omega⟩
    · exact ⟨p, h1, h2⟩
theorem urg_le {L : List QM} {f p : Nat} (h : Waits L f p) (hp : p < L.length) : urgN L f ≤ dueAt L p := by
  have := h.le
  exact lst_le _ p (chn_mono (by omega) (waits_chn h))
theorem urg_is {L : List QM} {f : Nat} (hf : f < L.length) : ∃ p, p < L.length ∧ Waits L f p ∧ urgN L f = dueAt L p := by
  obtain ⟨p, h1, h2⟩ := lst_is (L := L) (f := f) (L.length - (f + 1))
  have := chn_bd L f _ p h1
  exact ⟨p, by omega, chn_waits _ _ h1, h2⟩
/-- Whoever waits, waits for one that is not blocked. -/
theorem waits_free {L : List QM} : ∀ p, p < L.length → ∃ f, f < L.length ∧ Waits L f p ∧ blkN L f [] = false := by
  intro p
  induction p using Nat.strongRecOn with
  | _ p ih =>
    intro hp
    cases hb : blkN L p []
    · exact ⟨p, hp, .refl, hb⟩
    · unfold blkN at hb
      rw [List.getElem?_eq_getElem hp] at hb
      simp only [List.any_nil, Bool.or_false, List.any_eq_true] at hb
      obtain ⟨x, hx, hc⟩ := hb
      rw [List.mem_take_iff_getElem] at hx
      obtain ⟨j, hj, rfl⟩ := hx
      obtain ⟨f, h1, h2, h3⟩ := ih j (by omega) (by omega)
      refine ⟨f, h1, .step h2 (by omega) ?_, h3⟩
      unfold confAt
      rw [List.getElem?_eq_getElem (by omega), List.getElem?_eq_getElem hp]
      exact hc
/-- L is what is left of L0: at the places I. -/
structure SubL (L0 L : List QM) (I : List Nat) : Prop where
  len : I.length = L.length
  lies : ∀ (j i : Nat), I[j]? = some i → L[j]? = L0[i]?
  up : I.Pairwise (· < ·)
  bd : ∀ i ∈ I, i < L0.length
theorem SubL.start (L0 : List QM) : SubL L0 L0 (List.range L0.length) :=
  ⟨by simp, fun j i h => by
    obtain ⟨h1, h2⟩ := List.getElem?_eq_some_iff.1 h
    simp at h2; subst h2; rfl, List.pairwise_lt_range, fun i hi => by simpa using hi⟩
theorem SubL.erase {L0 L : List QM} {I : List Nat} (h : SubL L0 L I) (x : Nat) : SubL L0 (L.eraseIdx x) (I.eraseIdx x) := by
  refine ⟨by rw [List.length_eraseIdx, List.length_eraseIdx, h.len], fun j i hj => ?_, h.up.sublist (List.eraseIdx_sublist ..), fun i hi => h.bd i (List.mem_of_mem_eraseIdx hi)⟩
  rw [List.getElem?_eraseIdx] at hj ⊢
  split at hj
  · rename_i hjx; rw [if_pos hjx]; exact h.lies j i hj
  · rename_i hjx; rw [if_neg hjx]; exact h.lies (j + 1) i hj
theorem SubL.conf {L0 L : List QM} {I : List Nat} (h : SubL L0 L I) {j p i k : Nat} (hj : I[j]? = some i) (hp : I[p]? = some k) : confAt L j p = confAt L0 i k := by
  unfold confAt
  rw [h.lies j i hj, h.lies p k hp]
theorem SubL.due {L0 L : List QM} {I : List Nat} (h : SubL L0 L I) {j i : Nat} (hj : I[j]? = some i) : dueAt L j = dueAt L0 i := by
  unfold dueAt
  rw [h.lies j i hj]
theorem SubL.waits {L0 L : List QM} {I : List Nat} (h : SubL L0 L I) {f p i : Nat} (hw : Waits L f p) (hi : I[f]? = some i) : ∀ {k}, p < L.length → I[p]? = some k → Waits L0 i k := by
  induction hw with
  | refl => intro k _ hk; rw [hi] at hk; cases hk; exact .refl
  | step h1 h2 h3 ih =>
    rename_i j p
    intro k hp hk
    obtain ⟨i', hi'⟩ : ∃ i', I[j]? = some i' := ⟨I[j]'(by rw [h.len]; omega), List.getElem?_eq_getElem _⟩
    refine .step (ih (by omega) hi') ?_ ?_
    · obtain ⟨g1, g2⟩ := List.getElem?_eq_some_iff.1 hi'
      obtain ⟨g3, g4⟩ := List.getElem?_eq_some_iff.1 hk
      have := (List.pairwise_iff_getElem.1 h.up) j p g1 g3 h2
      omega
    · rw [← h.conf hi' hk]; exact h3
theorem SubL.urg {L0 L : List QM} {I : List Nat} (h : SubL L0 L I) {x i : Nat} (hi : I[x]? = some i) : urgN L0 i ≤ urgN L x := by
  have hx : x < L.length := by rw [← h.len]; exact (List.getElem?_eq_some_iff.1 hi).1
  obtain ⟨p, h1, h2, h3⟩ := urg_is hx
  obtain ⟨k, hk⟩ : ∃ k, I[p]? = some k := ⟨I[p]'(by rw [h.len]; exact h1), List.getElem?_eq_getElem _⟩
  rw [h3, h.due hk]
  exact urg_le (h.waits h2 hi h1 hk) (h.bd k (List.mem_of_getElem? hk))
theorem urg_nat {L : List QM} {i : Nat} (h : i < L.length) : urg L i = urgN L i := by unfold urg; rw [if_pos (by omega), Int.toNat_natCast]

/-- What may be picked ahead of entry k. -/
def inS (L0 : List QM) (k : Nat) (due : Int) (i : Nat) : Bool := decide (i ≠ k ∧ urgN L0 i ≤ due)
def remS (L0 : List QM) (k : Nat) (due : Int) (I : List Nat) : Nat := (I.filter (inS L0 k due)).length
theorem filter_erase {p : Nat → Bool} : ∀ {I : List Nat} {x i : Nat}, I[x]? = some i → p i = true → ((I.eraseIdx x).filter p).length + 1 = (I.filter p).length
  | [], x, i, h, _ => by simp at h
  | a :: I, 0, i, h, hp => by
    simp at h; subst h
    simp [List.eraseIdx, hp]
  | a :: I, x + 1, i, h, hp => by
    have ih := filter_erase (I := I) (x := x) (by simpa using h) hp
    simp only [List.eraseIdx_cons_succ, List.filter_cons]
    split
    · simp; omega
    · exact ih
/-- One step. -/
theorem bound_step {L0 L : List QM} {I : List Nat} {k : Nat} (due head : Int) (h : SubL L0 L I) (hk : k ∈ I) (hd : dueAt L0 k = due) :
    ∃ x i, pickD L (freeN L [] L.length) head due L.length = some x ∧ x < L.length ∧ I[x]? = some i ∧ (i = k ∨ (inS L0 k due i = true ∧ k ∈ I.eraseIdx x ∧ remS L0 k due (I.eraseIdx x) + 1 = remS L0 k due I)) := by
  obtain ⟨p, hp⟩ := List.getElem?_of_mem hk
  have hpL : p < L.length := by rw [← h.len]; exact (List.getElem?_eq_some_iff.1 hp).1
  obtain ⟨f, hf, hw, hb⟩ := waits_free p hpL
  have hu : urgN L f ≤ due := by
    have := urg_le hw hpL
    rw [h.due hp, hd] at this
    exact this
  obtain ⟨x, hx⟩ := pickB_some (good := fun i => mayAt (freeN L [] L.length) i && decide (urg L i ≤ due)) (key := fun i => urg L i) hf (by
    simp only [Bool.and_eq_true, decide_eq_true_eq]
    exact ⟨by rw [freeN_at hf, hb]; rfl, by rw [urg_nat hf]; exact hu⟩)
  have hgood := pickB_lt _ _ _ _ hx
  simp only [Bool.and_eq_true, decide_eq_true_eq] at hgood
  obtain ⟨h1, h2, h3⟩ := hgood
  have hpd : pickD L (freeN L [] L.length) head due L.length = some x := by unfold pickD; rw [hx]
  obtain ⟨i, hi⟩ : ∃ i, I[x]? = some i := ⟨I[x]'(by rw [h.len]; exact h1), List.getElem?_eq_getElem _⟩
  refine ⟨x, i, hpd, h1, hi, ?_⟩
  by_cases e : i = k
  · exact .inl e
  · right
    have hin : inS L0 k due i = true := by
      unfold inS
      rw [urg_nat h1] at h3
      have := h.urg hi
      exact decide_eq_true ⟨e, by omega⟩
    refine ⟨hin, ?_, filter_erase hi hin⟩
    rw [List.mem_eraseIdx_iff_getElem?]
    refine ⟨p, fun e2 => ?_, hp⟩
    subst e2
    rw [hp] at hi
    cases hi
    exact e rfl
end Go.Proofs.Ytdffpnogfinehaa
