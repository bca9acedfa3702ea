/- Plain laws of DeadlineSweep and DeadlineSorts: reads alone. -/
import Derived.Test.YtdffpnogfinehaaDlaw
namespace Go.Proofs.Ytdffpnogfinehaa
open Go.RowKit Go.Maps

theorem pickB_least {good : Nat → Bool} {key : Nat → Int} : ∀ {n k : Nat}, pickB good key n = some k → k < n ∧ good k = true ∧ ∀ i, i < n → good i = true → key k ≤ key i ∧ (i < k → key k < key i)
  | 0, k, h => by simp [pickB] at h
  | n + 1, k, h => by
    unfold pickB at h
    split at h
    · rename_i hg
      split at h
      · rename_i hn
        cases h
        refine ⟨by omega, hg, fun i hi hgi => ?_⟩
        by_cases e : i = n
        · subst e; exact ⟨Int.le_refl _, fun h => absurd h (by omega)⟩
        · obtain ⟨k', hk'⟩ := pickB_some (good := good) (key := key) (n := n) (i := i) (by omega) hgi
          rw [hn] at hk'; cases hk'
      · rename_i b hb
        have ih := pickB_least hb
        split at h
        · rename_i hlt
          cases h
          refine ⟨by omega, hg, fun i hi hgi => ?_⟩
          by_cases e : i = n
          · subst e; exact ⟨Int.le_refl _, fun h => absurd h (by omega)⟩
          · have := ih.2.2 i (by omega) hgi
            exact ⟨by omega, fun _ => by omega⟩
        · rename_i hlt
          cases h
          refine ⟨by omega, ih.2.1, fun i hi hgi => ?_⟩
          by_cases e : i = n
          · subst e; exact ⟨by omega, fun h => absurd h (by omega)⟩
          · exact ih.2.2 i (by omega) hgi
    · rename_i hg
      have ih := pickB_least h
      refine ⟨by omega, ih.2.1, fun i hi hgi => ?_⟩
      by_cases e : i = n
      · subst e; exact absurd hgi hg
      · exact ih.2.2 i (by omega) hgi
theorem pickB_none {good : Nat → Bool} {key : Nat → Int} {n : Nat} (h : pickB good key n = none) : ∀ i, i < n → good i = false := by
  intro i hi
  cases hg : good i
  · rfl
  · obtain ⟨k, hk⟩ := pickB_some (key := key) hi hg
    rw [h] at hk; cases hk

/-- Reads alone. -/
def AllR (L : List QM) : Prop := ∀ x ∈ L, x.q.b.knd = 1
theorem AllR.erase {L : List QM} (h : AllR L) (k : Nat) : AllR (L.eraseIdx k) := fun x hx => h x (List.mem_of_mem_eraseIdx hx)
theorem conf_reads {x y : BM} (hx : x.b.knd = 1) (hy : y.b.knd = 1) : confB x y = false := by
  have : meetB x.b y.b = false := by
    unfold meetB
    rw [hx, hy]
    simp
  simp [confB, this]
theorem AllR.conf {L : List QM} (h : AllR L) (i j : Nat) : confAt L i j = false := by
  unfold confAt
  split
  · rename_i x y hx hy
    exact conf_reads (h x (List.mem_of_getElem? hx)) (h y (List.mem_of_getElem? hy))
  · rfl
theorem AllR.chn {L : List QM} (h : AllR L) (i : Nat) : ∀ k, Proofs.Ytdffpnogfinehaa.chn L i k = [i] ∧ lst L i k = dueAt L i
  | 0 => ⟨rfl, rfl⟩
  | k + 1 => by
    obtain ⟨h1, h2⟩ := h.chn i k
    have ha : (Proofs.Ytdffpnogfinehaa.chn L i k).any (fun n => confAt L n (i + 1 + k)) = false := by rw [h1]; simp [h.conf]
    unfold Proofs.Ytdffpnogfinehaa.chn lst
    rw [ha]
    exact ⟨h1, h2⟩
theorem AllR.urg {L : List QM} (h : AllR L) {i : Nat} (hi : i < L.length) : Proofs.Ytdffpnogfinehaa.urg L i = dueAt L i := by
  unfold Proofs.Ytdffpnogfinehaa.urg urgN
  rw [if_pos (by omega), Int.toNat_natCast]
  exact (h.chn i _).2
theorem AllR.free {L : List QM} (h : AllR L) {k : Nat} (hk : k < L.length) : mayAt (freeN L [] L.length) k = true := by
  rw [freeN_at hk]
  unfold blkN
  rw [List.getElem?_eq_getElem hk]
  have : (L.take k).any (fun x => confB x.bm L[k].bm) = false := by
    rw [List.any_eq_false]
    intro x hx
    rw [conf_reads (h x (List.mem_of_mem_take hx)) (h _ (List.getElem_mem _))]
    simp
  simp [this]

/-- The state of a sweep: at most one turn back; behind it nothing lies below the last sector. -/
def SwI (L : List QM) (wraps : Nat) (last : Int) : Prop := AllR L ∧ (∀ x ∈ L, x.q.due = 1000) ∧ (wraps = 0 ∨ (wraps = 1 ∧ ∀ x ∈ L, last ≤ x.q.b.sec))
theorem sweep_step {L : List QM} {wraps : Nat} {last : Int} (h : SwI L wraps last) (h0 : 0 < L.length) :
    ∃ k y, pickD L (freeN L [] L.length) last 10 L.length = some k ∧ k < L.length ∧ L[k]? = some y ∧ SwI (L.eraseIdx k) (if y.q.b.sec < last then wraps + 1 else wraps) y.q.b.sec := by
  obtain ⟨hR, hD, hW⟩ := h
  have hdue : ∀ i, i < L.length → Proofs.Ytdffpnogfinehaa.urg L i = 1000 := fun i hi => by
    rw [hR.urg hi]
    unfold dueAt
    rw [List.getElem?_eq_getElem hi]
    exact hD _ (List.getElem_mem _)
  have h1 : pickB (fun i => mayAt (freeN L [] L.length) i && decide (Proofs.Ytdffpnogfinehaa.urg L i ≤ 10)) (fun i => Proofs.Ytdffpnogfinehaa.urg L i) L.length = none := by
    cases hp : pickB (fun i => mayAt (freeN L [] L.length) i && decide (Proofs.Ytdffpnogfinehaa.urg L i ≤ 10)) (fun i => Proofs.Ytdffpnogfinehaa.urg L i) L.length with
    | none => rfl
    | some k =>
      obtain ⟨g1, g2, _⟩ := pickB_least hp
      simp only [Bool.and_eq_true, decide_eq_true_eq] at g2
      rw [hdue k g1] at g2
      omega
  have hsec : ∀ i y, L[i]? = some y → secAt L i = y.q.b.sec := fun i y hy => by unfold secAt; rw [hy]
  have keep : ∀ k y, L[k]? = some y → ∀ x ∈ L.eraseIdx k, ∃ j, j < L.length ∧ j ≠ k ∧ L[j]? = some x := fun k y _ x hx => by
    rw [List.mem_eraseIdx_iff_getElem?] at hx
    obtain ⟨j, hj, hjx⟩ := hx
    exact ⟨j, (List.getElem?_eq_some_iff.1 hjx).1, hj, hjx⟩
  have hgoal : ∀ k, k < L.length → pickD L (freeN L [] L.length) last 10 L.length = some k → (∀ i, i < L.length → wraps = 1 → secAt L k ≤ secAt L i) → (secAt L k < last → wraps = 0 ∧ ∀ i, i < L.length → secAt L k ≤ secAt L i) →
      ∃ k y, pickD L (freeN L [] L.length) last 10 L.length = some k ∧ k < L.length ∧ L[k]? = some y ∧ SwI (L.eraseIdx k) (if y.q.b.sec < last then wraps + 1 else wraps) y.q.b.sec := by
    intro k hk hp hw1 hw0
    have hy : L[k]? = some L[k] := List.getElem?_eq_getElem hk
    refine ⟨k, L[k], hp, hk, hy, hR.erase k, fun x hx => hD x (List.mem_of_mem_eraseIdx hx), ?_⟩
    rw [← hsec k _ hy]
    by_cases hlt : secAt L k < last
    · rw [if_pos hlt]
      obtain ⟨g1, g2⟩ := hw0 hlt
      refine .inr ⟨by omega, fun x hx => ?_⟩
      obtain ⟨j, hj, _, hjx⟩ := keep k _ hy x hx
      rw [← hsec j x hjx]
      exact g2 j hj
    · rw [if_neg hlt]
      rcases hW with e | ⟨e, _⟩
      · exact .inl e
      · refine .inr ⟨e, fun x hx => ?_⟩
        obtain ⟨j, hj, _, hjx⟩ := keep k _ hy x hx
        rw [← hsec j x hjx]
        exact hw1 j hj e
  cases h2 : pickB (fun i => mayAt (freeN L [] L.length) i && decide (last ≤ secAt L i)) (secAt L) L.length with
  | some k =>
    obtain ⟨g1, g2, g3⟩ := pickB_least h2
    simp only [Bool.and_eq_true, decide_eq_true_eq] at g2 g3
    refine hgoal k g1 (by unfold pickD; rw [h1]; simp only; rw [h2]) (fun i hi e => ?_) (fun e => absurd e (by omega))
    rcases hW with e2 | ⟨_, hall⟩
    · omega
    · have hi2 := hall _ (List.getElem_mem hi)
      rw [← hsec i _ (List.getElem?_eq_getElem hi)] at hi2
      exact (g3 i hi ⟨hR.free hi, hi2⟩).1
  | none =>
    have h3 := pickB_none h2
    obtain ⟨k, hk⟩ := pickB_some (good := mayAt (freeN L [] L.length)) (key := secAt L) h0 (hR.free h0)
    obtain ⟨g1, g2, g3⟩ := pickB_least hk
    have hno : ∀ i, i < L.length → ¬ last ≤ secAt L i := fun i hi => by
      have := h3 i hi
      rw [hR.free hi] at this
      simpa using this
    refine hgoal k g1 (by unfold pickD; rw [h1]; simp only; rw [h2]; exact hk) (fun i hi _ => (g3 i hi (hR.free hi)).1) (fun _ => ⟨?_, fun i hi => (g3 i hi (hR.free hi)).1⟩)
    rcases hW with e | ⟨_, hall⟩
    · exact e
    · have hi2 := hall _ (List.getElem_mem h0)
      rw [← hsec 0 _ (List.getElem?_eq_getElem h0)] at hi2
      exact absurd hi2 (hno 0 h0)

/-- The state of a sort by due times. -/
def SoI (L : List QM) (last id : Int) : Prop := AllR L ∧ (∀ x ∈ L, x.q.due ≤ 1000) ∧ L.Pairwise (fun x y => x.q.b.id < y.q.b.id) ∧ ∀ x ∈ L, last < x.q.due ∨ (last = x.q.due ∧ id < x.q.b.id)
theorem sort_step {L : List QM} {last id : Int} (head : Int) (h : SoI L last id) (h0 : 0 < L.length) :
    ∃ k y, pickD L (freeN L [] L.length) head 1000 L.length = some k ∧ k < L.length ∧ L[k]? = some y ∧ last ≤ y.q.due ∧ (last = y.q.due → id < y.q.b.id) ∧ SoI (L.eraseIdx k) y.q.due y.q.b.id := by
  obtain ⟨hR, hD, hP, hA⟩ := h
  have hdue : ∀ (i : Nat) y, L[i]? = some y → Proofs.Ytdffpnogfinehaa.urg L i = y.q.due := fun i y hy => by
    rw [hR.urg (List.getElem?_eq_some_iff.1 hy).1]
    unfold dueAt
    rw [hy]
  have hg : ∀ i : Nat, i < L.length → (mayAt (freeN L [] L.length) i && decide (Proofs.Ytdffpnogfinehaa.urg L i ≤ 1000)) = true := fun i hi => by
    rw [hR.free hi, hdue i _ (List.getElem?_eq_getElem hi)]
    simpa using hD _ (List.getElem_mem hi)
  obtain ⟨k, hk⟩ := pickB_some (good := fun i => mayAt (freeN L [] L.length) i && decide (Proofs.Ytdffpnogfinehaa.urg L i ≤ 1000)) (key := fun i => Proofs.Ytdffpnogfinehaa.urg L i) h0 (hg 0 h0)
  obtain ⟨g1, _, g3⟩ := pickB_least hk
  have hy : L[k]? = some L[k] := List.getElem?_eq_getElem g1
  have ha := hA _ (List.getElem_mem g1)
  refine ⟨k, L[k], by unfold pickD; rw [hk], g1, hy, by omega, fun e => by omega, hR.erase k, fun x hx => hD x (List.mem_of_mem_eraseIdx hx), hP.sublist (List.eraseIdx_sublist ..), fun x hx => ?_⟩
  rw [List.mem_eraseIdx_iff_getElem?] at hx
  obtain ⟨j, hjk, hjx⟩ := hx
  obtain ⟨hj, hjx2⟩ := List.getElem?_eq_some_iff.1 hjx
  have h5 := g3 j hj (hg j hj)
  rw [hdue k _ hy, hdue j _ hjx] at h5
  rcases Nat.lt_or_gt_of_ne hjk with hlt | hlt
  · exact .inl (h5.2 hlt)
  · have h6 := (List.pairwise_iff_getElem.1 hP) k j g1 hj hlt
    rw [hjx2] at h6
    by_cases e : L[k].q.due = x.q.due
    · exact .inr ⟨e, h6⟩
    · exact .inl (by omega)
end Go.Proofs.Ytdffpnogfinehaa
