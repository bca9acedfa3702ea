/- Plain laws of ElevatorKeeps: the clock goes on. -/
import Derived.Test.YtpgjbocjhconoaaElV
import Derived.Test.YtpgjbocjhconoaaElF
namespace Go.Proofs.Ytpgjbocjhconoaa
open Go.RowKit Go.Maps
set_option linter.unusedSimpArgs false

/-- A bucket that was changed last at T at the latest. -/
structure BkT (b : Bk) (T : Int) : Prop where
  ok : bkOk b = true
  bu : b.burst ≤ 4
  ra : b.rate = 0 ∨ 100 ≤ b.rate
  la : b.last ≤ T
theorem BkT.mono {b : Bk} {T T' : Int} (h : BkT b T) (ht : T ≤ T') : BkT b T' := ⟨h.ok, h.bu, h.ra, Int.le_trans h.la ht⟩
theorem BkT.right {b : Bk} {T now c : Int} (h : BkT b T) (h0 : 0 ≤ now) (h1 : now ≤ 2000) (c1 : 1 ≤ c) : rightB b now (min c b.burst) = true := by
  obtain ⟨r, u, l, t⟩ := b
  have hb := h.bu
  have ho := h.ok
  have h2 := bkOk_iff.1 ho
  simp only at hb
  unfold rightB
  rw [ho]
  simp only [Bool.true_and, Bool.and_eq_true, decide_eq_true_eq]
  exact ⟨tickB_iff.2 ⟨by omega, by omega⟩, by omega, by omega⟩
/-- Forty ticks fill what an entry costs. -/
theorem BkT.late {b : Bk} {T now c : Int} (h : BkT b T) (h0 : 0 ≤ T) (h1 : T + 40 ≤ now) (h2 : now ≤ 2000) (c1 : 1 ≤ c) : (takeB b now (min c b.burst)).2 = true := by
  have hr := h.right (now := now) (by omega) h2 c1
  unfold takeB
  rw [if_pos hr]
  by_cases hz : b.rate = 0
  · rw [if_pos hz]
  · rw [if_neg hz]
    have hl : ¬ (refill b now).level < 1000 * min c b.burst := by
      have hra := h.ra.resolve_left hz
      have hla := h.la
      have hb4 := h.bu
      have ho := h.ok
      obtain ⟨r, u, l, t⟩ := b
      have h3 := bkOk_iff.1 ho
      simp only at hra hla hb4 hz
      unfold refill
      rw [if_pos (by rw [ho]; simp only [Bool.true_and, Bool.and_eq_true, decide_eq_true_eq]; exact ⟨tickB_iff.2 ⟨by omega, by omega⟩, by omega⟩)]
      have hm : 100 * 40 ≤ r * (now - t) := Int.mul_le_mul hra (by omega) (by omega) (by omega)
      show ¬ min (1000 * u) (l + r * (now - t)) < 1000 * min c u
      omega
    rw [if_neg hl]
theorem BkT.take {b : Bk} {T now c : Int} (h : BkT b T) (ht : T ≤ now) (c0 : 0 ≤ c) : BkT (takeB b now c).1 now := by
  unfold takeB
  split
  · rename_i hr
    by_cases hz : b.rate = 0
    · rw [if_pos hz]; exact h.mono ht
    · rw [if_neg hz]
      split
      · exact h.mono ht
      · rename_i hlv
        have ho := h.ok
        have hb4 := h.bu
        have hra := h.ra
        have hla := h.la
        obtain ⟨r, u, l, t⟩ := b
        have h3 := bkOk_iff.1 ho
        have h4 := refill_ok (now := now) ho
        simp only at hb4 hra hla hz
        simp only [rightB, Bool.and_eq_true, decide_eq_true_eq] at hr
        have h5 := tickB_iff.1 hr.1.2
        have h6 : (refill ⟨r, u, l, t⟩ now).last ≤ now := by unfold refill; split <;> simp <;> omega
        refine ⟨?_, hb4, hra, h6⟩
        show bkOk ⟨r, u, (refill ⟨r, u, l, t⟩ now).level - 1000 * c, (refill ⟨r, u, l, t⟩ now).last⟩ = true
        rw [bkOk_iff]
        omega
  · exact h.mono ht
/-- When the tokens come: behind now, and within forty ticks. -/
theorem BkT.when {b : Bk} {T now c : Int} (h : BkT b T) (h0 : 0 ≤ T) (h1 : T ≤ now) (h2 : now ≤ 1000) (c1 : 1 ≤ c) :
    (whenB b (now + 1) (min c b.burst)).2 = true ∧ now + 1 ≤ (whenB b (now + 1) (min c b.burst)).1 ∧ (whenB b (now + 1) (min c b.burst)).1 ≤ max (now + 1) (T + 40) := by
  have hr := h.right (now := now + 1) (by omega) (by omega) c1
  have hra := h.ra
  have hla := h.la
  have hb4 := h.bu
  have ho := h.ok
  obtain ⟨r, u, l, t⟩ := b
  have h3 := bkOk_iff.1 ho
  simp only at hra hla hb4 hr ⊢
  unfold whenB
  rw [if_pos (by rw [hr]; simp; omega)]
  split
  · exact ⟨rfl, Int.le_refl _, by omega⟩
  · rename_i hc
    have hz : r ≠ 0 := fun e => hc (.inl e)
    have hlv : (refill ⟨r, u, l, t⟩ (now + 1)).level < 1000 * min c u := by
      rcases Int.lt_or_le (refill ⟨r, u, l, t⟩ (now + 1)).level (1000 * min c u) with h9 | h9
      · exact h9
      · exact absurd (.inr h9) hc
    obtain ⟨f1, f2, f3, f4⟩ := when_facts hr hz (by omega) hlv
    have hra2 := hra.resolve_left hz
    have hq : (1000 * min c u - l + r - 1) / r ≤ 40 := by
      have : 1000 * min c u - l + r - 1 < 41 * r := by
        have : (4000 : Int) ≤ 40 * r := by omega
        omega
      have := Int.ediv_lt_of_lt_mul (show 0 < r by omega) this
      omega
    have ht : tickB (t + (1000 * min c u - l + r - 1) / r) = true := tickB_iff.2 ⟨by omega, by omega⟩
    simp only [ht, if_true]
    exact ⟨trivial, f1, by omega⟩
/-- A scheduler whose buckets were changed last at T at the latest. -/
structure KpE (E : El) (T : Int) : Prop where
  len : E.bk.length = 4
  bk : ∀ b ∈ E.bk, BkT b T
  en : ∀ x ∈ E.en, 0 ≤ x.u.ten ∧ x.u.ten < 4 ∧ okU x.u = true
theorem KpE.get {E : El} {T : Int} (h : KpE E T) {x : Qu} (hx : x ∈ E.en) : ∃ b, E.bk[x.u.ten.toNat]? = some b ∧ BkT b T ∧ (∀ now, payE E x.u now = takeB b now (min x.u.cnt b.burst)) ∧ bktE E.bk x.u.ten x.u.cnt = (b, min x.u.cnt b.burst, true) ∧ 1 ≤ x.u.cnt := by
  obtain ⟨t0, t4, hok⟩ := h.en x hx
  have hl : x.u.ten.toNat < E.bk.length := by rw [h.len]; omega
  refine ⟨E.bk[x.u.ten.toNat], List.getElem?_eq_getElem hl, h.bk _ (List.getElem_mem hl), fun now => ?_, ?_, (okU_range hok).2.2.1⟩
  · unfold payE bkAt
    rw [if_pos t0, List.getElem?_eq_getElem hl]
  · unfold bktE
    rw [if_pos t0, List.getElem?_eq_getElem hl]
/-- What is not sent is early. -/
theorem KpE.fail {E : El} {T now : Int} (h : KpE E T) (h0 : 0 ≤ T) (h2 : now ≤ 2000) (he : 0 < E.en.length) (hf : nextE E now [] = none) : now < T + 40 := by
  rcases Int.lt_or_le now (T + 40) with h1 | h1
  · exact h1
  · exfalso
    obtain ⟨b, _, hb, hp, _, hc⟩ := h.get (List.getElem_mem he)
    have h3 := hb.late h0 h1 h2 hc
    have h4 := nextE_none hf (List.getElem?_eq_getElem he) (by rw [hp]; exact h3)
    rw [blkQ_first he] at h4
    cases h4
theorem KpE.next {E E' : El} {T now : Int} {x : Qu} {k : Nat} (h : KpE E T) (ht : T ≤ now) (hn : NextS E now [] E' x k) : KpE E' now := by
  have hx := List.mem_of_getElem? hn.at_
  obtain ⟨b, hb1, hb, hp, _, hc⟩ := h.get hx
  refine ⟨by rw [hn.bk, List.length_set]; exact h.len, fun y hy => ?_, fun y hy => ?_⟩
  · rw [hn.bk] at hy
    rcases List.mem_or_eq_of_mem_set hy with hy | rfl
    · exact (h.bk y hy).mono ht
    · rw [hp]
      have hbu : 1 ≤ b.burst := by
        have ho := hb.ok
        obtain ⟨r, u, l, t⟩ := b
        have := bkOk_iff.1 ho
        simp only; omega
      exact hb.take ht (by omega)
  · rw [hn.en] at hy
    exact h.en y (List.mem_of_mem_eraseIdx hy)
/-- Wake tells a tick behind now, within forty of the last change. -/
theorem KpE.wake {E : El} {T now : Int} (h : KpE E T) (h0 : 0 ≤ T) (h1 : T ≤ now) (h2 : now ≤ 1000) (he : 0 < E.en.length) : ∃ t, wakL E.bk now E.en = some t ∧ now < t ∧ t ≤ max (now + 1) (T + 40) := by
  have hw : ∀ x ∈ E.en, ∃ t, wakT E.bk now x = some t ∧ now < t ∧ t ≤ max (now + 1) (T + 40) := fun x hx => by
    obtain ⟨b, _, hb, _, hbk, hc⟩ := h.get hx
    obtain ⟨g1, g2, g3⟩ := hb.when h0 h1 h2 hc
    refine ⟨_, ?_, by omega, g3⟩
    unfold wakT
    rw [hbk]
    simp only [g1, Bool.and_self, if_true]
  unfold wakL
  rw [if_pos (by unfold tickE; rw [decide_eq_true_eq]; omega)]
  have gen : ∀ (l : List Qu) (o : Option Int), (∀ x ∈ l, ∃ t, wakT E.bk now x = some t ∧ now < t ∧ t ≤ max (now + 1) (T + 40)) → (∀ v, o = some v → now < v ∧ v ≤ max (now + 1) (T + 40)) → (l ≠ [] ∨ o.isSome = true) →
      ∃ t, l.foldl (fun o x => wakO o (wakT E.bk now x)) o = some t ∧ now < t ∧ t ≤ max (now + 1) (T + 40) := by
    intro l
    induction l with
    | nil =>
      intro o _ ho hs
      cases o with
      | none => rcases hs with hs | hs <;> simp at hs
      | some v => exact ⟨v, rfl, ho v rfl⟩
    | cons x l ih =>
      intro o hl ho _
      obtain ⟨t, ht, ht2⟩ := hl x (by simp)
      rw [List.foldl_cons]
      refine ih _ (fun y hy => hl y (by simp [hy])) (fun v hv => ?_) (.inr ?_)
      · rw [ht] at hv
        unfold wakO at hv
        cases o with
        | none =>
          simp only at hv
          injection hv with hv
          rw [← hv]; exact ht2
        | some l0 =>
          simp only at hv
          split at hv
          · injection hv with hv
            rw [← hv]; exact ht2
          · exact ho v hv
      · rw [ht]
        unfold wakO
        cases o with
        | none => rfl
        | some l0 =>
          simp only
          split <;> rfl
  exact gen E.en none hw (fun v hv => by cases hv) (.inl (by intro e; rw [e] at he; simp at he))
theorem fil_kp {n knd : Int} {Q : List Bu} {m : Nat} {E : El} (h : FilI n knd Q m E) : KpE E 0 := by
  refine ⟨by rw [h.bk, madeK_len], fun b hb => ?_, fun x hx => ?_⟩
  · rw [h.bk] at hb
    obtain ⟨k, hk⟩ := List.getElem?_of_mem hb
    obtain ⟨g1, g2, g3, g4, g5⟩ := madeK_in hk
    have h2 := madeK_ok n
    rw [List.all_eq_true] at h2
    refine ⟨h2 b hb, g4, ?_, by omega⟩
    rcases g5 with g5 | g5
    · exact .inl g5
    · exact .inr g5.1
  · have h1 := h.sch.each x.u (List.mem_map_of_mem hx)
    exact ⟨h1.ten.1, h1.ten.2, h1.ok⟩
end Go.Proofs.Ytpgjbocjhconoaa
