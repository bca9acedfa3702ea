/- A region that draws its order: quiet operations are taken as soon as they can be; where only operations are ready that add memory (calls, new blocks), the walk goes on with each of them. -/
import Derived.Test.YtbijfmpmgmfpgaaLex
namespace Go.Proofs.Ytbijfmpmgmfpgaa
open Go.RowKit Go.Sort

section
variable {P : Program} {ops : Array Oper} {md : Region.Mode} {C : World → Prop}

def EffUpon2 (P : Program) (C : World → Prop) (K : Value → World → Prop) : Result Next → Prop
  | .ok (.value v) w' => C w' ∧ K v w'
  | .ok .skip w' => C w' ∧ K undef w'
  | .ok (.enter f args) w' => C w' ∧ Calls P f args w' (fun e w'' => ∃ v, e = .returned v ∧ C w'' ∧ K v w'')
  | _ => False
def EffOp2 (P : Program) (C : World → Prop) (o : Oper) (a : Act) (w : World) (K : Value → World → Prop) : Prop := EffUpon2 P C K ((execOp a.eval o).run P w)

theorem EffUpon2.mono {K K' : Value → World → Prop} {r : Result Next} (h : ∀ v w', C w' → K v w' → K' v w') (hh : EffUpon2 P C K r) : EffUpon2 P C K' r := by
  cases r with
  | ok n w' =>
    cases n <;> simp only [EffUpon2] at hh ⊢
    case value v => exact ⟨hh.1, h _ _ hh.1 hh.2⟩
    case skip => exact ⟨hh.1, h _ _ hh.1 hh.2⟩
    case enter f args => exact ⟨hh.1, Calls.mono hh.2 fun e w'' ⟨v, he, hb, hk⟩ => ⟨v, he, hb, h _ _ hb hk⟩⟩
  | halt x w' => simp only [EffUpon2] at hh

def lOp2 (P : Program) (ops : Array Oper) (C : World → Prop) (kd : Nat → Nat) (i : Nat) (K : Act → World → Prop) (a : Act) (w : World) : Prop :=
  match ops[i]? with
  | none => K a w
  | some o =>
    if kd i = 2 then False else
    if Region.wanted o (yielded ops a.tmps) then (if kd i = 1 then EffOp2 P C o a w (fun v w' => K (a.put o.dst v) w') else o.quiet P a C (fun a' => K a' w))
    else K (a.put o.dst undef) w

def wpAnyL2 (P : Program) (md : Region.Mode) (ops : Array Oper) (C : World → Prop) (kd : Nat → Nat) (F : Array Bool → Act → World → Prop) : Nat → Array Bool → Act → World → Prop
  | 0, listed, a, w => (∀ i ∈ Region.ready md ops listed, kd i = 2) ∧ F listed a w
  | fuel + 1, listed, a, w =>
    Region.ready md ops listed ≠ [] ∧
    ∀ i ∈ Region.ready md ops listed, lOp2 P ops C kd i (wpAnyL2 P md ops C kd F fuel (listed.setIfInBounds i true)) a w

variable {kd : Nat → Nat} {F : Array Bool → Act → World → Prop}

theorem lOp2_mono {i : Nat} {a : Act} {w : World} {K K' : Act → World → Prop} (hw : C w) (h : ∀ a w', C w' → K a w' → K' a w') (hh : lOp2 P ops C kd i K a w) : lOp2 P ops C kd i K' a w := by
  unfold lOp2 at *
  split
  · exact h _ _ hw (by simpa [*] using hh)
  · rename_i o ho
    simp only [ho] at hh
    split
    · rename_i h2; simp only [h2, if_true] at hh
    · rename_i h2
      simp only [h2, if_false] at hh
      split
      · rename_i hwt
        simp only [hwt, if_true] at hh
        split
        · rename_i h1; simp only [h1, if_true] at hh; exact EffUpon2.mono (fun v w' hb hk => h _ _ hb hk) hh
        · rename_i h1; simp only [h1, if_false] at hh; exact Oper.quiet_mono (fun a' hk => h _ _ hw hk) hh
      · rename_i hwt; simp only [hwt] at hh; exact h _ _ hw hh

theorem lOp2_of_goes {i : Nat} {o : Oper} {v : Value} {a : Act} {w : World} (hi : ops[i]? = some o) (hy : Goes P ops C kd i o v a) {K : Act → World → Prop} (h : K (a.put o.dst v) w) : lOp2 P ops C kd i K a w := by
  rcases hy with ⟨hk, hy⟩ | ⟨hk, hw, rfl⟩
  · unfold lOp2
    simp only [hi, hk]
    rw [if_neg (show ¬ ((0 : Nat) = 2) by omega), if_neg (show ¬ ((0 : Nat) = 1) by omega)]
    rcases hy with ⟨hw, hv⟩ | ⟨hw, rfl⟩
    · rw [if_pos hw]; exact ⟨v, hv, h⟩
    · rw [if_neg (by rw [hw]; simp)]; exact h
  · unfold lOp2
    simp only [hi]
    rw [if_neg hk, if_neg (by rw [hw]; simp)]
    exact h

theorem lOp2_put {i j : Nat} {oi oj : Oper} {v : Value} (hj : ops[j]? = some oj) (hap : oi.apart ops oj = true)
    (hsi : ∀ cs b, oi.op ≠ .select cs b) (hsj : ∀ cs b, oj.op ≠ .select cs b) {K : Act → World → Prop} {a : Act} {w : World}
    (hy : Goes P ops C kd i oi v a) (h : lOp2 P ops C kd j K (a.put oi.dst v) w) :
    lOp2 P ops C kd j (fun a' w' => Goes P ops C kd i oi v a' ∧ K (a'.put oi.dst v) w') a w := by
  obtain ⟨h1, h2, h3⟩ := Oper.apart_spec hap
  have keep : ∀ (a : Act), Goes P ops C kd i oi v a → ∀ u, Goes P ops C kd i oi v (a.put oj.dst u) := fun a hy u =>
    hy.same (execOp_put oi hsi a oj.dst u h3) (wanted_put oi a oj.dst u h3)
  unfold lOp2 at *
  simp only [hj] at *
  split
  · rename_i hk; rw [if_pos hk] at h; exact h
  · rename_i hk
    rw [if_neg hk, wanted_put oj a oi.dst v h1] at h
    split
    · rename_i hw
      rw [if_pos hw] at h
      split
      · rename_i hk1
        rw [if_pos hk1] at h
        unfold EffOp2 at *
        rw [execOp_put oj hsj a oi.dst v h1] at h
        exact EffUpon2.mono (fun u w' _ hn => ⟨keep a hy u, by rw [← Act.put_comm a v u h2]; exact hn⟩) h
      · rename_i hk1
        rw [if_neg hk1] at h
        obtain ⟨u, hu, hn⟩ := h
        refine ⟨u, fun w hw' => ?_, keep a hy u, by rw [← Act.put_comm a v u h2]; exact hn⟩
        have := hu w hw'
        unfold Oper.quietAt at *
        rwa [execOp_put oj hsj a oi.dst v h1] at this
    · rename_i hw
      rw [if_neg hw] at h
      exact ⟨keep a hy _, by rw [← Act.put_comm a v undef h2]; exact h⟩

/-- A quiet operation may be taken first. -/
theorem anyL2_quiet {i : Nat} {oi : Oper} {v : Value} (hi : ops[i]? = some oi) (hsel : ∀ (j : Nat) (o : Oper) cs b, ops[j]? = some o → o.op ≠ .select cs b) :
    ∀ (fuel : Nat) (listed : Array Bool) (a : Act) (w : World), C w → Clo md ops listed →
      (∀ j oj, ops[j]? = some oj → j ≠ i → listed.getD j true = false → (∀ e ∈ oj.after, Region.binds md e = true → e.on ≠ i) → oi.apart ops oj = true) →
      (∀ j oj, ops[j]? = some oj → j ≠ i → kd j = 2 → Pre md ops j i) →
      i ∈ Region.ready md ops listed → Goes P ops C kd i oi v a →
      wpAnyL2 P md ops C kd F fuel (listed.setIfInBounds i true) (a.put oi.dst v) w → wpAnyL2 P md ops C kd F (fuel + 1) listed a w := by
  intro fuel
  induction fuel with
  | zero =>
    intro listed a w _ hc hfree htail hr hy H
    refine ⟨fun h => (by rw [h] at hr; cases hr), fun j hj => ?_⟩
    by_cases hji : j = i
    · subst hji; exact lOp2_of_goes hi hy H
    · have h2 := H.1 j (ready_mono hj hji)
      obtain ⟨_, oj, hoj, _⟩ := mem_ready.1 hj
      exact absurd hj (Pre.not_ready hc (htail j oj hoj hji h2) hr)
  | succ fuel ih =>
    intro listed a w hw hc hfree htail hr hy H
    refine ⟨fun h => (by rw [h] at hr; cases hr), fun j hj => ?_⟩
    by_cases hji : j = i
    · subst hji; exact lOp2_of_goes hi hy H
    · have h1 := H.2 j (ready_mono hj hji)
      obtain ⟨hjun, oj, hoj, hall⟩ := mem_ready.1 hj
      have h2 := lOp2_put hoj (hfree j oj hoj hji hjun (not_on hr hall)) (fun cs b => hsel i oi cs b hi) (fun cs b => hsel j oj cs b hoj) hy h1
      have hfree' : ∀ k ok, ops[k]? = some ok → k ≠ i → (listed.setIfInBounds j true).getD k true = false →
          (∀ e ∈ ok.after, Region.binds md e = true → e.on ≠ i) → oi.apart ops ok = true := fun k ok hk hki hun hno => by
        refine hfree k ok hk hki ?_ hno
        by_cases hjk : j = k
        · subst hjk; exact hjun
        · rw [getD_set_ne true hjk] at hun; exact hun
      refine lOp2_mono hw (fun a' w' hw' h3 => ih (listed.setIfInBounds j true) a' w' hw' (hc.set_ hj) hfree' htail (ready_mono hr (Ne.symm hji)) h3.1 ?_) h2
      rw [Array.setIfInBounds_comm _ _ hji]
      exact h3.2

theorem wpOp_of_lOp2 {Q : Exit → Act → World → Prop} {i : Nat} {a : Act} {w : World} {K K' : Act → World → Prop} (hw0 : C w) (hplain : ∀ j oj, ops[j]? = some oj → kd j = 0 → plainOp oj.op = true) (hkd : ∀ j, kd j ≤ 2)
    (h : ∀ a w', C w' → K a w' → K' a w') (hh : lOp2 P ops C kd i K a w) : wpOp P ops Q i K' a w := by
  unfold lOp2 at hh
  unfold wpOp
  cases ho : ops[i]? with
  | none => simp only [ho] at hh; exact h _ _ hw0 hh
  | some o =>
    simp only [ho] at hh
    by_cases hk2 : kd i = 2
    · rw [if_pos hk2] at hh; exact hh.elim
    · rw [if_neg hk2] at hh
      by_cases hw : Region.wanted o (yielded ops a.tmps) = true
      · simp only [if_pos hw] at hh ⊢
        refine .inl ?_
        by_cases hk1 : kd i = 1
        · rw [if_pos hk1] at hh
          unfold EffOp2 at hh
          unfold Oper.wp
          generalize (execOp a.eval o).run P w = r at *
          cases r with
          | ok n w' =>
            cases n <;> simp only [EffUpon2] at hh
            case value v => exact h _ _ hh.1 hh.2
            case skip => exact h _ _ hh.1 hh.2
            case enter f args =>
              rw [Oper.upon_enter]
              exact Calls.mono hh.2 fun e w'' ⟨v, he, hb, hk⟩ => by subst he; exact h _ _ hb hk
          | halt x w' => simp only [EffUpon2] at hh
        · rw [if_neg hk1] at hh
          have hk0 : kd i = 0 := by have := hkd i; omega
          obtain ⟨v, h1, h2⟩ := hh
          have h3 := h1 w hw0
          unfold Oper.quietAt at h3
          unfold Oper.wp
          cases hr : (execOp a.eval o).run P w with
          | ok n w' =>
            obtain ⟨u, rfl⟩ := plain_value (hplain i o ho hk0) hr
            rw [hr] at h3
            obtain ⟨rfl, rfl⟩ := h3
            exact h _ _ hw0 h2
          | halt x w' =>
            rw [hr] at h3
            simp only [Oper.quietUpon] at h3
      · simp only [if_neg hw] at hh ⊢
        exact h _ _ hw0 hh

theorem any_of_L2 {Q : Exit → Act → World → Prop} {t : Nat} (hplain : ∀ j oj, ops[j]? = some oj → kd j = 0 → plainOp oj.op = true) (hkd : ∀ j, kd j ≤ 2) :
    ∀ (fuel : Nat) (listed : Array Bool) (a : Act) (w : World), C w → wpAnyL2 P md ops C kd (fun listed a w => wpAny P md ops Q t listed a w) fuel listed a w → wpAny P md ops Q (fuel + t) listed a w
  | 0, _, _, _, _, h => by rw [Nat.zero_add]; exact h.2
  | fuel + 1, listed, a, w, hw, h => by
    rw [show fuel + 1 + t = fuel + t + 1 by omega]
    exact ⟨fun e => absurd e h.1, fun i hi => wpOp_of_lOp2 hw hplain hkd (fun a' w' hb h' => any_of_L2 hplain hkd fuel _ a' w' hb h') (h.2 i hi)⟩

/-- What has come up. -/
def listedOf (n : Nat) (dn : List Nat) : Array Bool := dn.foldl (fun l i => l.setIfInBounds i true) (Array.replicate n false)
theorem listedOf_snoc (n : Nat) (dn : List Nat) (i : Nat) : listedOf n (dn ++ [i]) = (listedOf n dn).setIfInBounds i true := by simp [listedOf]

/-- The state of the walk: dn has come up; m operations are ahead of the forced tail. -/
def wpSt (P : Program) (ops : Array Oper) (C : World → Prop) (E : List Nat) (m : Nat) (Q : Exit → Act → World → Prop) (dn : List Nat) (a : Act) (w : World) : Prop :=
  C w → Clo .any ops (listedOf ops.size dn) → wpAnyL2 P .any ops C (kindOf E m) (fun listed a w => wpAny P .any ops Q (ops.size - m) listed a w) (m - dn.length) (listedOf ops.size dn) a w

def quietB (ops : Array Oper) (E : List Nat) (m : Nat) (dn : List Nat) (i : Nat) : Bool :=
  (Region.ready .any ops (listedOf ops.size dn)).contains i && Region.free .any ops (listedOf ops.size dn) i && (kindOf E m i == 0) && decide (dn.length < m) &&
  (List.range ops.size).all fun j => j == i || (kindOf E m j != 2) || ((Region.before ops).getD j 0).testBit i
def segB (ops : Array Oper) (E : List Nat) (m : Nat) : List Nat → List Nat → Bool
  | _, [] => true
  | dn, i :: is => quietB ops E m dn i && segB ops E m (dn ++ [i]) is
def baseB (ops : Array Oper) (E : List Nat) (m : Nat) : Bool :=
  Region.noSelect ops && preOk .any ops (Region.before ops) && ((List.range ops.size).all fun j => match ops[j]? with
    | some o => kindOf E m j != 0 || plainOp o.op
    | none => true) && decide (m ≤ ops.size)

theorem st_seg {E : List Nat} {m : Nat} {Q : Exit → Act → World → Prop} {w : World} (hB : baseB ops E m = true) : ∀ (is dn : List Nat) (a : Act), segB ops E m dn is = true →
    wpQuiet P ops C (fun a' => wpSt P ops C E m Q (dn ++ is) a' w) (is.filterMap (ops[·]?)) a → wpSt P ops C E m Q dn a w
  | [], dn, a, _, h => by simpa [wpQuiet] using h
  | i :: is, dn, a, hs, h => by
    simp only [baseB, Bool.and_eq_true] at hB
    have hB0 : baseB ops E m = true := by simp only [baseB, Bool.and_eq_true]; exact hB
    obtain ⟨⟨⟨hsel, hP⟩, _⟩, _⟩ := hB
    simp only [segB, quietB, Bool.and_eq_true, beq_iff_eq, decide_eq_true_eq, List.all_eq_true, List.mem_range, Bool.or_eq_true, bne_iff_ne] at hs
    obtain ⟨⟨⟨⟨⟨hr, hf⟩, hk⟩, hlen⟩, hall⟩, hs'⟩ := hs
    have hr' : i ∈ Region.ready .any ops (listedOf ops.size dn) := by simpa using hr
    obtain ⟨_, o, ho, _⟩ := mem_ready.1 hr'
    rw [List.filterMap_cons_some ho] at h
    intro hw hc
    have htail : ∀ j oj, ops[j]? = some oj → j ≠ i → kindOf E m j = 2 → Pre .any ops j i := by
      intro j oj hoj hjk hj2
      have hlt := (Array.getElem?_eq_some_iff.1 hoj).1
      rcases hall j hlt with (h1 | h1) | h1
      · exact absurd h1 hjk
      · exact absurd hj2 h1
      · exact pre_of_bit hP j i hlt h1
    rw [show m - dn.length = (m - (dn ++ [i]).length) + 1 by simp; omega]
    have next : ∀ a', wpQuiet P ops C (fun a' => wpSt P ops C E m Q (dn ++ i :: is) a' w) (is.filterMap (ops[·]?)) a' →
        wpAnyL2 P .any ops C (kindOf E m) (fun listed a w => wpAny P .any ops Q (ops.size - m) listed a w) (m - (dn ++ [i]).length) ((listedOf ops.size dn).setIfInBounds i true) a' w := by
      intro a' h'
      rw [← listedOf_snoc]
      refine st_seg hB0 is (dn ++ [i]) a' hs' ?_ hw (by rw [listedOf_snoc]; exact hc.set_ hr')
      simpa using h'
    unfold wpQuiet at h
    split at h
    · rename_i hwt
      obtain ⟨v, h1, h2⟩ := h
      exact anyL2_quiet ho (Region.noSelect_spec hsel) _ _ a w hw hc (Region.free_spec ho hf) htail hr' (.inl ⟨hk, .inl ⟨hwt, h1⟩⟩) (next _ h2)
    · rename_i hwt
      exact anyL2_quiet ho (Region.noSelect_spec hsel) _ _ a w hw hc (Region.free_spec ho hf) htail hr' (.inr ⟨by omega, by simpa using hwt, rfl⟩) (next _ h)

/-- One operation that may add memory. -/
def wpEff (P : Program) (ops : Array Oper) (C : World → Prop) (E : List Nat) (m : Nat) (Q : Exit → Act → World → Prop) (dn : List Nat) (j : Nat) (o : Oper) (a : Act) (w : World) : Prop :=
  if Region.wanted o (yielded ops a.tmps) then EffOp2 P C o a w (fun v w' => wpSt P ops C E m Q (dn ++ [j]) (a.put o.dst v) w') else wpSt P ops C E m Q (dn ++ [j]) (a.put o.dst undef) w

def branchB (ops : Array Oper) (E : List Nat) (m : Nat) (dn js : List Nat) : Bool :=
  (Region.ready .any ops (listedOf ops.size dn) == js) && (js.all fun j => kindOf E m j == 1) && decide (dn.length < m) && !js.isEmpty
theorem st_branch {E : List Nat} {m : Nat} {Q : Exit → Act → World → Prop} {dn : List Nat} {a : Act} {w : World} (js : List Nat) (hb : branchB ops E m dn js = true)
    (h : ∀ j ∈ js, ∀ o, ops[j]? = some o → wpEff P ops C E m Q dn j o a w) : wpSt P ops C E m Q dn a w := by
  simp only [branchB, Bool.and_eq_true, beq_iff_eq, decide_eq_true_eq, List.all_eq_true] at hb
  obtain ⟨⟨⟨hr, hk⟩, hlen⟩, hne⟩ := hb
  intro hw hc
  rw [show m - dn.length = (m - (dn.length + 1)) + 1 by omega]
  refine ⟨by rw [hr]; intro e; rw [e] at hne; simp at hne, fun i hi => ?_⟩
  have hi' : i ∈ js := by rw [← hr]; exact hi
  obtain ⟨_, o, ho, _⟩ := mem_ready.1 hi
  have h1 := h i hi' o ho
  have hcl := hc.set_ hi
  rw [← listedOf_snoc] at hcl
  unfold lOp2
  simp only [ho, hk i hi']
  rw [if_neg (show ¬ ((1 : Nat) = 2) by omega)]
  unfold wpEff at h1
  have conv : ∀ a' w', C w' → wpSt P ops C E m Q (dn ++ [i]) a' w' → wpAnyL2 P .any ops C (kindOf E m) (fun listed a w => wpAny P .any ops Q (ops.size - m) listed a w) (m - (dn.length + 1)) ((listedOf ops.size dn).setIfInBounds i true) a' w' := by
    intro a' w' hw' h'
    have := h' hw' hcl
    rw [listedOf_snoc] at this
    simpa using this
  split
  · rename_i hwt
    rw [if_pos hwt] at h1
    simp only [if_true]
    exact EffUpon2.mono (fun v w' hw' h' => conv _ _ hw' h') h1
  · rename_i hwt
    rw [if_neg hwt] at h1
    exact conv _ _ hw h1

def endB (ops : Array Oper) (E : List Nat) (m : Nat) (dn : List Nat) : Bool :=
  decide (dn.length = m) && ((Region.ready .any ops (listedOf ops.size dn)).all fun i => kindOf E m i == 2) && forcedB .any ops (ops.size - m) m (listedOf ops.size dn)
end

section
variable {P : Program} {C : World → Prop}
/-- The operations at some indices. -/
def picked (l : List Oper) : List Nat → List Oper
  | [] => []
  | i :: is => (l[i]?).toList ++ picked l is
theorem picked_eq (l : List Oper) : ∀ is : List Nat, is.filterMap (l.toArray[·]?) = picked l is
  | [] => rfl
  | i :: is => by
    unfold picked
    rw [← picked_eq l is]
    cases h : l[i]? <;> simp [h]
theorem st_sel {l : List Oper} {E : List Nat} {m : Nat} {Q : Exit → Act → World → Prop} {w : World} {dn : List Nat} {a : Act} (is : List Nat) (hB : baseB l.toArray E m = true) (hs : segB l.toArray E m dn is = true)
    (h : wpQuiet P l.toArray C (fun a' => wpSt P l.toArray C E m Q (dn ++ is) a' w) (picked l is) a) : wpSt P l.toArray C E m Q dn a w :=
  st_seg hB is dn a hs (by rw [picked_eq]; exact h)

theorem st_end {l : List Oper} {E : List Nat} {m : Nat} {Q : Exit → Act → World → Prop} {dn : List Nat} {a : Act} {w : World} (hb : endB l.toArray E m dn = true) (h : wpList P l.toArray Q (l.drop m) a w) : wpSt P l.toArray C E m Q dn a w := by
  simp only [endB, Bool.and_eq_true, decide_eq_true_eq, List.all_eq_true, beq_iff_eq] at hb
  obtain ⟨⟨hlen, hr⟩, hf⟩ := hb
  intro hw hc
  rw [hlen, Nat.sub_self]
  refine ⟨hr, ?_⟩
  have hl : (l.drop m).length = l.toArray.size - m := by simp
  have := any_forced (P := P) (ops := l.toArray) (md := .any) (Q := Q) (l.drop m) m (listedOf l.toArray.size dn) a w (fun j => by simp [List.getElem?_drop]) (by rw [hl]; exact hf) h
  rwa [hl] at this

/-- THE REGION. -/
theorem wp_region_st {id : Nat} {Q : Exit → Act → World → Prop} {a : Act} {w : World} {l : List Oper} (E : List Nat) (m : Nat) (hm : P.follows .mixedOrders = true) (hB : baseB l.toArray E m = true)
    (h : wpSt P l.toArray (fun w' => ∃ p : Regrown, w' = grow (redrawn w p.d) p.os) E m Q [] a w.drew) : (Code.region id l.toArray true).wp P Q a w := by
  simp only [baseB, Bool.and_eq_true, decide_eq_true_eq] at hB
  obtain ⟨⟨⟨hs, hP⟩, hpl⟩, hn⟩ := hB
  have hplain : ∀ j oj, l.toArray[j]? = some oj → kindOf E m j = 0 → plainOp oj.op = true := by
    intro j oj hoj hk
    have hlt := (Array.getElem?_eq_some_iff.1 hoj).1
    have h1 := List.all_eq_true.1 hpl j (by simpa using hlt)
    simp only [hoj, hk, bne_self_eq_false, Bool.false_or] at h1
    exact h1
  have hC0 : (fun w' => ∃ p : Regrown, w' = grow (redrawn w p.d) p.os) w.drew := regrown_of_below (w := w) (Bel.drew (Bel.refl w))
  refine wp_region_any hm ?_
  have h1 := h hC0 Clo.start
  have h2 := any_of_L2 (P := P) (md := .any) (t := l.toArray.size - m) hplain (kindOf_le E m) _ _ _ _ hC0 h1
  rw [show m - ([] : List Nat).length + (l.toArray.size - m) = l.toArray.size by simp at hn ⊢; omega] at h2
  exact h2

theorem cls_of {w0 w : World} (h : Bel w0 w) : (fun w' => ∃ p : Regrown, w' = grow (redrawn w0 p.d) p.os) w := regrown_of_below h

variable {ops : Array Oper} {E : List Nat} {m : Nat} {Q : Exit → Act → World → Prop} {dn : List Nat} {j : Nat} {o : Oper} {a : Act} {w w0 : World}
theorem eff_call (f : FuncId) {args : Array Value} (hw : Region.wanted o (yielded ops a.tmps) = true) (hr : (execOp a.eval o).run P w = .ok (.enter f args) w) (hb0 : Bel w0 w)
    (h : Calls P f args w (fun e w' => ∃ v, e = .returned v ∧ Bel w w' ∧ wpSt P ops (fun w' => ∃ p : Regrown, w' = grow (redrawn w0 p.d) p.os) E m Q (dn ++ [j]) (a.put o.dst v) w')) :
    wpEff P ops (fun w' => ∃ p : Regrown, w' = grow (redrawn w0 p.d) p.os) E m Q dn j o a w := by
  unfold wpEff
  rw [if_pos hw]
  unfold EffOp2
  rw [hr]
  exact ⟨cls_of hb0, h.mono fun e w' ⟨v, he, hb, hk⟩ => ⟨v, he, cls_of (hb0.trans hb), hk⟩⟩
theorem eff_made {v : Value} {w' : World} (hw : Region.wanted o (yielded ops a.tmps) = true) (hr : (execOp a.eval o).run P w = .ok (.value v) w') (hb : Bel w0 w')
    (h : wpSt P ops (fun w' => ∃ p : Regrown, w' = grow (redrawn w0 p.d) p.os) E m Q (dn ++ [j]) (a.put o.dst v) w') : wpEff P ops (fun w' => ∃ p : Regrown, w' = grow (redrawn w0 p.d) p.os) E m Q dn j o a w := by
  unfold wpEff
  rw [if_pos hw]
  unfold EffOp2
  rw [hr]
  exact ⟨cls_of hb, h⟩
theorem eff_done {w' : World} (hw : Region.wanted o (yielded ops a.tmps) = true) (hr : (execOp a.eval o).run P w = .ok .skip w') (hb : Bel w0 w')
    (h : wpSt P ops (fun w' => ∃ p : Regrown, w' = grow (redrawn w0 p.d) p.os) E m Q (dn ++ [j]) (a.put o.dst undef) w') : wpEff P ops (fun w' => ∃ p : Regrown, w' = grow (redrawn w0 p.d) p.os) E m Q dn j o a w := by
  unfold wpEff
  rw [if_pos hw]
  unfold EffOp2
  rw [hr]
  exact ⟨cls_of hb, h⟩
theorem eff_skip {C : World → Prop} (hw : Region.wanted o (yielded ops a.tmps) = false) (h : wpSt P ops C E m Q (dn ++ [j]) (a.put o.dst undef) w) : wpEff P ops C E m Q dn j o a w := by
  unfold wpEff
  rw [if_neg (by rw [hw]; simp)]
  exact h
theorem branch1 {p : Nat → Oper → Prop} {i : Nat} {o : Oper} (hi : ops[i]? = some o) (h : p i o) : ∀ j ∈ [i], ∀ o, ops[j]? = some o → p j o := by
  intro j hj o' ho'
  rw [List.mem_singleton] at hj
  subst hj
  rw [hi] at ho'
  cases ho'
  exact h
theorem branch_cons {p : Nat → Oper → Prop} {i : Nat} {o : Oper} {js : List Nat} (hi : ops[i]? = some o) (h : p i o) (h' : ∀ j ∈ js, ∀ o, ops[j]? = some o → p j o) : ∀ j ∈ i :: js, ∀ o, ops[j]? = some o → p j o := by
  intro j hj o' ho'
  rw [List.mem_cons] at hj
  rcases hj with rfl | hj
  · rw [hi] at ho'
    cases ho'
    exact h
  · exact h' j hj o' ho'
theorem branch_nil {p : Nat → Oper → Prop} : ∀ j ∈ ([] : List Nat), ∀ o, ops[j]? = some o → p j o := fun j hj => by cases hj
end

/-- THE SAME UNDER A STATEMENT S OF ONE's OWN: S says what the quiet operations read; every operation that may turn the world shows S anew. -/
structure InS (S : World → Prop) where
  w : World
  h : S w
def ClS (S : World → Prop) : World → Prop := fun w' => ∃ p : InS S, w' = p.w
theorem cls_s {S : World → Prop} {w : World} (h : S w) : (fun w' => ∃ p : InS S, w' = p.w) w := ⟨⟨w, h⟩, rfl⟩

theorem wp_region_sts {P : Program} {id : Nat} {Q : Exit → Act → World → Prop} {a : Act} {w : World} {l : List Oper} (S : World → Prop) (E : List Nat) (m : Nat) (hm : P.follows .mixedOrders = true) (hB : baseB l.toArray E m = true) (hS : S w.drew)
    (h : wpSt P l.toArray (fun w' => ∃ p : InS S, w' = p.w) E m Q [] a w.drew) : (Code.region id l.toArray true).wp P Q a w := by
  simp only [baseB, Bool.and_eq_true, decide_eq_true_eq] at hB
  obtain ⟨⟨⟨hs, hP⟩, hpl⟩, hn⟩ := hB
  have hplain : ∀ j oj, l.toArray[j]? = some oj → kindOf E m j = 0 → plainOp oj.op = true := by
    intro j oj hoj hk
    have hlt := (Array.getElem?_eq_some_iff.1 hoj).1
    have h1 := List.all_eq_true.1 hpl j (by simpa using hlt)
    simp only [hoj, hk, bne_self_eq_false, Bool.false_or] at h1
    exact h1
  refine wp_region_any hm ?_
  have h1 := h (cls_s hS) Clo.start
  have h2 := any_of_L2 (P := P) (md := .any) (t := l.toArray.size - m) hplain (kindOf_le E m) _ _ _ _ (cls_s hS) h1
  rw [show m - ([] : List Nat).length + (l.toArray.size - m) = l.toArray.size by simp at hn ⊢; omega] at h2
  exact h2

section
variable {P : Program} {S : World → Prop} {ops : Array Oper} {E : List Nat} {m : Nat} {Q : Exit → Act → World → Prop} {dn : List Nat} {j : Nat} {o : Oper} {a : Act} {w : World}
theorem eff_call_s (f : FuncId) {args : Array Value} (hw : Region.wanted o (yielded ops a.tmps) = true) (hr : (execOp a.eval o).run P w = .ok (.enter f args) w) (hS : S w)
    (h : Calls P f args w (fun e w' => ∃ v, e = .returned v ∧ S w' ∧ wpSt P ops (fun w' => ∃ p : InS S, w' = p.w) E m Q (dn ++ [j]) (a.put o.dst v) w')) :
    wpEff P ops (fun w' => ∃ p : InS S, w' = p.w) E m Q dn j o a w := by
  unfold wpEff
  rw [if_pos hw]
  unfold EffOp2
  rw [hr]
  exact ⟨cls_s hS, h.mono fun e w' ⟨v, he, hb, hk⟩ => ⟨v, he, cls_s hb, hk⟩⟩
theorem eff_done_s {w' : World} (hw : Region.wanted o (yielded ops a.tmps) = true) (hr : (execOp a.eval o).run P w = .ok .skip w') (hS : S w')
    (h : wpSt P ops (fun w' => ∃ p : InS S, w' = p.w) E m Q (dn ++ [j]) (a.put o.dst undef) w') : wpEff P ops (fun w' => ∃ p : InS S, w' = p.w) E m Q dn j o a w := by
  unfold wpEff
  rw [if_pos hw]
  unfold EffOp2
  rw [hr]
  exact ⟨cls_s hS, h⟩
theorem eff_made_s {v : Value} {w' : World} (hw : Region.wanted o (yielded ops a.tmps) = true) (hr : (execOp a.eval o).run P w = .ok (.value v) w') (hS : S w')
    (h : wpSt P ops (fun w' => ∃ p : InS S, w' = p.w) E m Q (dn ++ [j]) (a.put o.dst v) w') : wpEff P ops (fun w' => ∃ p : InS S, w' = p.w) E m Q dn j o a w := by
  unfold wpEff
  rw [if_pos hw]
  unfold EffOp2
  rw [hr]
  exact ⟨cls_s hS, h⟩
end

/-- In block B lie the cells cs, and they may be written. -/
def AtF (w : World) (B : Nat) (cs : List Value) : Prop := At w B cs ∧ ∀ j, w.frozen? ⟨B, j, none⟩ = false
theorem AtF.bel {w w' : World} {B : Nat} {cs : List Value} (h : AtF w B cs) (hb : Bel w w') : AtF w' B cs :=
  ⟨h.1.bel hb, fun j => by rw [hb.frozenAt B j h.1.1]; exact h.2 j⟩
theorem AtF.new (w : World) (t : TypeId) (cs : List Value) : AtF (w.alloc (.cells cs.toArray t)) w.heap.size cs :=
  ⟨At.new w t cs, fun _ => World.frozen?_alloc_at _ _ _ _ rfl⟩
theorem AtF.drew {w : World} {B : Nat} {cs : List Value} (h : AtF w B cs) : AtF w.drew B cs := h.bel (Bel.drew (Bel.refl w))
theorem AtF.alloc {w : World} {B : Nat} {cs : List Value} (h : AtF w B cs) (o : Obj) : AtF (w.alloc o) B cs := h.bel ((Bel.refl w).alloc o)
theorem AtF.set {w : World} {B : Nat} {cs : List Value} (h : AtF w B cs) (i : Nat) (hi : i < cs.length) (v : Value) : AtF (w.setCell ⟨B, i, none⟩ v) B (cs.set i v) := by
  refine ⟨⟨?_, fun j u hu => ?_⟩, fun j => (World.frozen?_setCell _ _ _ _).trans (h.2 j)⟩
  · have := h.1.1; simpa [World.setCell] using this
  · have hc := h.1.2 i _ (List.getElem?_eq_getElem hi)
    by_cases e : i = j
    · subst e
      rw [List.getElem?_set_self hi] at hu
      cases hu
      exact World.cell?_setCell_same _ _ _ hc
    · rw [List.getElem?_set_ne e] at hu
      exact (World.cell?_setCell_other _ _ _ _ (by simp)).trans (h.1.2 j u hu)
theorem AtF.other {w : World} {B C : Nat} {cs : List Value} (h : AtF w B cs) (hne : B ≠ C) (i : Nat) (v : Value) : AtF (w.setCell ⟨C, i, none⟩ v) B cs := by
  refine ⟨⟨?_, fun j u hu => ?_⟩, fun j => (World.frozen?_setCell _ _ _ _).trans (h.2 j)⟩
  · have := h.1.1; simpa [World.setCell] using this
  · exact (World.cell?_setCell_other _ _ _ _ (by simp)).trans (h.1.2 j u hu)
end Go.Proofs.Ytbijfmpmgmfpgaa
