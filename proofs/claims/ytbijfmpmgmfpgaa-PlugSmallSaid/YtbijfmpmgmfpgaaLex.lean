/- A region that draws its order, whose operations read, call functions that only add memory, and end in a forced tail: one walk in the order of the text serves every order. -/
import Derived.Test.YtbijfmpmgmfpgaaBase
import Derived.Lib.QuietBelow
namespace Go.Proofs.Ytbijfmpmgmfpgaa
open Go.RowKit Go.Sort

section
variable {P : Program} {ops : Array Oper} {md : Region.Mode} {C : World → Prop}

/-- What an operation that may add memory leaves. -/
def EffUpon (P : Program) (w : World) (K : Value → World → Prop) : Result Next → Prop
  | .ok (.value v) w' => Bel w w' ∧ K v w'
  | .ok (.enter f args) w' => Bel w w' ∧ Calls P f args w' (fun e w'' => ∃ v, e = .returned v ∧ Bel w' w'' ∧ K v w'')
  | _ => False
def EffOp (P : Program) (o : Oper) (a : Act) (w : World) (K : Value → World → Prop) : Prop := EffUpon P w K ((execOp a.eval o).run P w)

theorem EffUpon.mono {w : World} {K K' : Value → World → Prop} {r : Result Next} (h : ∀ v w', Bel w w' → K v w' → K' v w') (hh : EffUpon P w K r) : EffUpon P w K' r := by
  cases r with
  | ok n w' =>
    cases n <;> simp only [EffUpon] at hh ⊢
    case value v => exact ⟨hh.1, h _ _ hh.1 hh.2⟩
    case enter f args => exact ⟨hh.1, Calls.mono hh.2 fun e w'' ⟨v, he, hb, hk⟩ => ⟨v, he, hb, h _ _ (hh.1.trans hb) hk⟩⟩
  | halt x w' => simp only [EffUpon] at hh
theorem EffUpon.some {w : World} {K : Value → World → Prop} {r : Result Next} (hh : EffUpon P w K r) : ∃ v w', Bel w w' ∧ K v w' := by
  cases r with
  | ok n w' =>
    cases n <;> simp only [EffUpon] at hh
    case value v => exact ⟨v, w', hh.1, hh.2⟩
    case enter f args =>
      obtain ⟨hb, hc⟩ := hh
      obtain ⟨e, w'', fr, ⟨v, he, hb', hk⟩, _⟩ := hc []
      exact ⟨v, w'', hb.trans hb', hk⟩
  | halt x w' => simp only [EffUpon] at hh

/-- Operation number i comes up: of kind 0 it is quiet, of kind 1 it may add memory, of kind 2 it must not come up yet. -/
def lOp (P : Program) (ops : Array Oper) (C : World → Prop) (kd : Nat → Nat) (i : Nat) (K : Act → World → Prop) (a : Act) (w : World) : Prop :=
  match ops[i]? with
  | none => K a w
  | some o =>
    if kd i = 2 then False else
    if Region.wanted o (yielded ops a.tmps) then (if kd i = 1 then EffOp P o a w (fun v w' => K (a.put o.dst v) w') else o.quiet P a C (fun a' => K a' w))
    else K (a.put o.dst undef) w

/-- Whatever order is picked, till fuel operations have come up. -/
def wpAnyL (P : Program) (md : Region.Mode) (ops : Array Oper) (C : World → Prop) (kd : Nat → Nat) (F : Array Bool → Act → World → Prop) : Nat → Array Bool → Act → World → Prop
  | 0, listed, a, w => (∀ i ∈ Region.ready md ops listed, kd i = 2) ∧ F listed a w
  | fuel + 1, listed, a, w =>
    Region.ready md ops listed ≠ [] ∧
    ∀ i ∈ Region.ready md ops listed, lOp P ops C kd i (wpAnyL P md ops C kd F fuel (listed.setIfInBounds i true)) a w

variable {kd : Nat → Nat} {F : Array Bool → Act → World → Prop}

theorem lOp_mono {i : Nat} {a : Act} {w : World} {K K' : Act → World → Prop} (h : ∀ a w', Bel w w' → K a w' → K' a w') (hh : lOp P ops C kd i K a w) : lOp P ops C kd i K' a w := by
  unfold lOp at *
  split
  · exact h _ _ (Bel.refl _) (by simpa [*] using hh)
  · rename_i o ho
    simp only [ho] at hh
    split
    · rename_i h2; simp only [h2, if_true] at hh
    · rename_i h2
      simp only [h2, if_false] at hh
      split
      · rename_i hw
        simp only [hw, if_true] at hh
        split
        · rename_i h1; simp only [h1, if_true] at hh; exact EffUpon.mono (fun v w' hb hk => h _ _ hb hk) hh
        · rename_i h1; simp only [h1, if_false] at hh; exact Oper.quiet_mono (fun a' hk => h _ _ (Bel.refl _) hk) hh
      · rename_i hw; simp only [hw] at hh; exact h _ _ (Bel.refl _) hh

/-- Every operation that has come up waits for none that has not. -/
def Clo (md : Region.Mode) (ops : Array Oper) (listed : Array Bool) : Prop :=
  ∀ j oj, ops[j]? = some oj → listed.getD j true = true → ∀ e ∈ oj.after, Region.binds md e = true → listed.getD e.on false = true
/-- Operation j waits for k, through others too. -/
def Pre (md : Region.Mode) (ops : Array Oper) (j k : Nat) : Prop :=
  ∀ listed : Array Bool, Clo md ops listed → (∀ oj, ops[j]? = some oj → ∀ e ∈ oj.after, Region.binds md e = true → listed.getD e.on false = true) → listed.getD k false = true

theorem getD_up {listed : Array Bool} {k : Nat} (h : listed.getD k false = true) : listed.getD k true = true := by
  rcases Nat.lt_or_ge k listed.size with hk | hk
  · simp [hk] at h ⊢; exact h
  · simp [Array.getElem?_eq_none hk] at h
theorem Clo.set_ {listed : Array Bool} {i : Nat} (h : Clo md ops listed) (hi : i ∈ Region.ready md ops listed) : Clo md ops (listed.setIfInBounds i true) := by
  intro j oj hj hl e he hb
  by_cases hji : i = j
  · subst hji
    obtain ⟨_, o, ho, hall⟩ := mem_ready.1 hi
    rw [hj] at ho
    cases ho
    exact getD_set_true (hall e he hb)
  · rw [getD_set_ne true hji] at hl
    exact getD_set_true (h j oj hj hl e he hb)
theorem Clo.start : Clo md ops (Array.replicate ops.size false) := by
  intro j oj hj hl
  have hlt : j < ops.size := (Array.getElem?_eq_some_iff.1 hj).1
  simp [hlt] at hl
/-- What waits for an operation that has not come up is not ready. -/
theorem Pre.not_ready {listed : Array Bool} {i j : Nat} (hc : Clo md ops listed) (hp : Pre md ops j i) (hi : i ∈ Region.ready md ops listed) : j ∉ Region.ready md ops listed := by
  intro hj
  obtain ⟨_, oj, hoj, hall⟩ := mem_ready.1 hj
  have h1 := hp listed hc (fun o ho e he hb => by rw [hoj] at ho; cases ho; exact hall e he hb)
  have h2 := getD_up h1
  rw [(mem_ready.1 hi).1] at h2
  cases h2

/-- The masks B tell whom each operation waits for. -/
def preOk (md : Region.Mode) (ops : Array Oper) (B : Array Nat) : Bool :=
  (List.range ops.size).all fun j => match ops[j]? with
    | none => true
    | some o => B.getD j 0 == o.after.toList.foldl (fun s e => if Region.binds md e && decide (e.on < j) then s ||| (2 ^ e.on ||| B.getD e.on 0) else s) 0

theorem bit_fold {α : Type} (p : α → Bool) (g : α → Nat) : ∀ (l : List α) (s k : Nat), (l.foldl (fun s e => if p e then s ||| g e else s) s).testBit k = true → s.testBit k = true ∨ ∃ e ∈ l, p e = true ∧ (g e).testBit k = true
  | [], s, k, h => .inl h
  | e :: l, s, k, h => by
    rw [List.foldl_cons] at h
    rcases bit_fold p g l _ k h with h1 | ⟨e', he', h2⟩
    · by_cases hp : p e = true
      · rw [if_pos hp, Nat.testBit_or, Bool.or_eq_true] at h1
        rcases h1 with h1 | h1
        · exact .inl h1
        · exact .inr ⟨e, by simp, hp, h1⟩
      · rw [if_neg hp] at h1
        exact .inl h1
    · exact .inr ⟨e', by simp [he'], h2⟩

theorem pre_of_bit {B : Array Nat} (h : preOk md ops B = true) : ∀ (j k : Nat), j < ops.size → (B.getD j 0).testBit k = true → Pre md ops j k := by
  intro j
  induction j using Nat.strongRecOn with
  | _ j ih =>
    intro k hj hb
    unfold preOk at h
    rw [List.all_eq_true] at h
    have h1 := h j (by simpa using hj)
    have hoj : ops[j]? = some ops[j] := Array.getElem?_eq_getElem hj
    simp only [hoj, beq_iff_eq] at h1
    rw [h1] at hb
    rcases bit_fold (fun e : Edge => Region.binds md e && decide (e.on < j)) (fun e => 2 ^ e.on ||| B.getD e.on 0) _ _ _ hb with h2 | ⟨e, he, hp, h2⟩
    · simp at h2
    · simp only [Bool.and_eq_true, decide_eq_true_eq] at hp
      intro listed hc hall
      have he' : e ∈ (ops[j]).after := by simpa using he
      have hl := hall _ hoj e he' hp.1
      rw [Nat.testBit_or, Bool.or_eq_true] at h2
      rcases h2 with h2 | h2
      · rw [Nat.testBit_two_pow, decide_eq_true_eq] at h2
        rw [← h2]
        exact hl
      · exact ih e.on hp.2 k (by omega) h2 listed hc (fun oe hoe e' he'' hb' => hc e.on oe hoe (getD_up hl) e' he'' hb')

/-- These never enter a Go function. -/
def plainOp : Op → Bool
  | .move _ | .assign _ | .pick .. | .load .. | .binOp .. | .unOp .. | .convert .. | .slice .. | .fieldAddr .. | .field .. | .indexAddr .. | .index .. | .lookup .. | .extract .. | .build .. => true
  | .call { callee := .builtin b, .. } => match b with
    | .len | .cap | .min | .max => true
    | _ => false
  | _ => false
theorem value_of_andThen {α : Type} {r : Result α} {g : α → Value} {n : Next} {w' : World} (h : r.andThen (fun x w => Result.ok (Next.value (g x)) w) = .ok n w') : ∃ v, n = .value v := by
  cases r with
  | ok x w1 => simp only [Result.andThen] at h; injection h with h1 _; exact ⟨_, h1.symm⟩
  | halt x w1 => simp only [Result.andThen] at h; cases h
theorem plain_value {o : Oper} {ρ : Operand → Value} {n : Next} {w w' : World} (hp : plainOp o.op = true) (h : (execOp ρ o).run P w = .ok n w') : ∃ v, n = .value v := by
  obtain ⟨dst, op, type, pos, after, guard⟩ := o
  simp only at hp
  cases op <;> simp only [plainOp, Bool.false_eq_true] at hp <;> simp only [execOp, Sem.run_bind, Sem.run_pure] at h
  case call c =>
    obtain ⟨callee, args, argTypes⟩ := c
    cases callee <;> simp only [Bool.false_eq_true] at hp
    rename_i b
    cases b <;> simp only [Bool.false_eq_true] at hp <;> simp only [resolve, invoke, builtin, Sem.run_bind, Sem.run_pure, Result.andThen_ok] at h <;> exact value_of_andThen h
  all_goals first
    | (injection h with h1 _; exact ⟨_, h1.symm⟩)
    | exact value_of_andThen h

theorem yieldsIn_unique {o : Oper} {v v' : Value} {a : Act} (hp : plainOp o.op = true) (hne0 : ∃ w, C w) (h : YieldsIn P ops C o v a) (h' : YieldsIn P ops C o v' a) : v = v' := by
  obtain ⟨w, hw⟩ := hne0
  rcases h with ⟨h1, h2⟩ | ⟨h1, h2⟩ <;> rcases h' with ⟨h3, h4⟩ | ⟨h3, h4⟩
  · have h5 := h2 w hw
    have h6 := h4 w hw
    unfold Oper.quietAt at h5 h6
    cases hr : (execOp a.eval o).run P w with
    | ok n w' =>
      obtain ⟨u, rfl⟩ := plain_value hp hr
      rw [hr] at h5 h6
      exact h5.2.symm.trans h6.2
    | halt x w' =>
      rw [hr] at h5
      simp only [Oper.quietUpon] at h5
  · rw [h1] at h3; cases h3
  · rw [h1] at h3; cases h3
  · rw [h2, h4]

theorem lOp_of_yields {i : Nat} {o : Oper} {v : Value} {a : Act} {w : World} (hi : ops[i]? = some o) (hk : kd i = 0) (hy : YieldsIn P ops C o v a) {K : Act → World → Prop} (h : K (a.put o.dst v) w) : lOp P ops C kd i K a w := by
  unfold lOp
  simp only [hi, hk]
  rw [if_neg (show ¬ ((0 : Nat) = 2) by omega), if_neg (show ¬ ((0 : Nat) = 1) by omega)]
  rcases hy with ⟨hw, hv⟩ | ⟨hw, rfl⟩
  · rw [if_pos hw]; exact ⟨v, hv, h⟩
  · rw [if_neg (by rw [hw]; simp)]; exact h
theorem yieldsIn_of_lOp {i : Nat} {o : Oper} {a : Act} {w : World} {K : Act → World → Prop} (hi : ops[i]? = some o) (hk : kd i = 0) (h : lOp P ops C kd i K a w) : ∃ v, YieldsIn P ops C o v a ∧ K (a.put o.dst v) w := by
  unfold lOp at h
  simp only [hi, hk] at h
  rw [if_neg (show ¬ ((0 : Nat) = 2) by omega), if_neg (show ¬ ((0 : Nat) = 1) by omega)] at h
  by_cases hw : Region.wanted o (yielded ops a.tmps) = true
  · rw [if_pos hw] at h
    obtain ⟨v, h1, h2⟩ := h
    exact ⟨v, .inl ⟨hw, h1⟩, h2⟩
  · rw [if_neg hw] at h
    exact ⟨undef, .inr ⟨by simpa using hw, rfl⟩, h⟩

/-- Operation i yields v in every world of the class, or is passed over. -/
def Goes (P : Program) (ops : Array Oper) (C : World → Prop) (kd : Nat → Nat) (i : Nat) (o : Oper) (v : Value) (a : Act) : Prop :=
  (kd i = 0 ∧ YieldsIn P ops C o v a) ∨ (kd i ≠ 2 ∧ Region.wanted o (yielded ops a.tmps) = false ∧ v = undef)
theorem Goes.same {i : Nat} {o : Oper} {v : Value} {a a' : Act} (hy : Goes P ops C kd i o v a) (he : execOp a'.eval o = execOp a.eval o)
    (hw : Region.wanted o (yielded ops a'.tmps) = Region.wanted o (yielded ops a.tmps)) : Goes P ops C kd i o v a' := by
  rcases hy with ⟨hk, hy⟩ | ⟨hk, hy, hv⟩
  · exact .inl ⟨hk, hy.of_same he hw⟩
  · exact .inr ⟨hk, hw.trans hy, hv⟩
theorem lOp_of_goes {i : Nat} {o : Oper} {v : Value} {a : Act} {w : World} (hi : ops[i]? = some o) (hy : Goes P ops C kd i o v a) {K : Act → World → Prop} (h : K (a.put o.dst v) w) : lOp P ops C kd i K a w := by
  rcases hy with ⟨hk, hy⟩ | ⟨hk, hw, rfl⟩
  · exact lOp_of_yields hi hk hy h
  · unfold lOp
    simp only [hi]
    rw [if_neg hk, if_neg (by rw [hw]; simp)]
    exact h

theorem lOp_put {i j : Nat} {oi oj : Oper} {v : Value} (hj : ops[j]? = some oj) (hap : oi.apart ops oj = true)
    (hsi : ∀ cs b, oi.op ≠ .select cs b) (hsj : ∀ cs b, oj.op ≠ .select cs b) {K : Act → World → Prop} {a : Act} {w : World}
    (hy : Goes P ops C kd i oi v a) (h : lOp P ops C kd j K (a.put oi.dst v) w) :
    lOp P ops C kd j (fun a' w' => Goes P ops C kd i oi v a' ∧ K (a'.put oi.dst v) w') a w := by
  obtain ⟨h1, h2, h3⟩ := Oper.apart_spec hap
  have keep : ∀ (a : Act), Goes P ops C kd i oi v a → ∀ u, Goes P ops C kd i oi v (a.put oj.dst u) := fun a hy u =>
    hy.same (execOp_put oi hsi a oj.dst u h3) (wanted_put oi a oj.dst u h3)
  unfold lOp at *
  simp only [hj] at *
  split
  · rename_i hk; rw [if_pos hk] at h; exact h
  · rename_i hk
    rw [if_neg hk, wanted_put oj a oi.dst v h1] at h
    split
    · rename_i hw
      rw [if_pos hw] at h
      split
      · rename_i hk1
        rw [if_pos hk1] at h
        unfold EffOp at *
        rw [execOp_put oj hsj a oi.dst v h1] at h
        exact EffUpon.mono (fun u w' _ hn => ⟨keep a hy u, by rw [← Act.put_comm a v u h2]; exact hn⟩) h
      · rename_i hk1
        rw [if_neg hk1] at h
        obtain ⟨u, hu, hn⟩ := h
        refine ⟨u, fun w hw' => ?_, keep a hy u, by rw [← Act.put_comm a v u h2]; exact hn⟩
        have := hu w hw'
        unfold Oper.quietAt at *
        rwa [execOp_put oj hsj a oi.dst v h1] at this
    · rename_i hw
      rw [if_neg hw] at h
      exact ⟨keep a hy _, by rw [← Act.put_comm a v undef h2]; exact h⟩

theorem not_on {listed : Array Bool} {i : Nat} {oj : Oper} (hi : i ∈ Region.ready md ops listed) (hall : ∀ e ∈ oj.after, Region.binds md e = true → listed.getD e.on false = true) :
    ∀ e ∈ oj.after, Region.binds md e = true → e.on ≠ i := fun e he hb heq => by
  have h1 := getD_up (hall e he hb)
  rw [heq, (mem_ready.1 hi).1] at h1
  cases h1

/-- A quiet operation may be taken first. -/
theorem anyL_quiet {i : Nat} {oi : Oper} {v : Value} (hi : ops[i]? = some oi) (hsel : ∀ (j : Nat) (o : Oper) cs b, ops[j]? = some o → o.op ≠ .select cs b) :
    ∀ (fuel : Nat) (listed : Array Bool) (a : Act) (w : World), Clo md ops listed →
      (∀ j oj, ops[j]? = some oj → j ≠ i → listed.getD j true = false → (∀ e ∈ oj.after, Region.binds md e = true → e.on ≠ i) → oi.apart ops oj = true) →
      (∀ j oj, ops[j]? = some oj → j ≠ i → kd j = 2 → Pre md ops j i) →
      i ∈ Region.ready md ops listed → Goes P ops C kd i oi v a →
      wpAnyL P md ops C kd F fuel (listed.setIfInBounds i true) (a.put oi.dst v) w → wpAnyL P md ops C kd F (fuel + 1) listed a w := by
  intro fuel
  induction fuel with
  | zero =>
    intro listed a w hc hfree htail hr hy H
    refine ⟨fun h => (by rw [h] at hr; cases hr), fun j hj => ?_⟩
    by_cases hji : j = i
    · subst hji; exact lOp_of_goes hi hy H
    · have h2 := H.1 j (ready_mono hj hji)
      obtain ⟨_, oj, hoj, _⟩ := mem_ready.1 hj
      exact absurd hj (Pre.not_ready hc (htail j oj hoj hji h2) hr)
  | succ fuel ih =>
    intro listed a w hc hfree htail hr hy H
    refine ⟨fun h => (by rw [h] at hr; cases hr), fun j hj => ?_⟩
    by_cases hji : j = i
    · subst hji; exact lOp_of_goes hi hy H
    · have h1 := H.2 j (ready_mono hj hji)
      obtain ⟨hjun, oj, hoj, hall⟩ := mem_ready.1 hj
      have h2 := lOp_put hoj (hfree j oj hoj hji hjun (not_on hr hall)) (fun cs b => hsel i oi cs b hi) (fun cs b => hsel j oj cs b hoj) hy h1
      have hfree' : ∀ k ok, ops[k]? = some ok → k ≠ i → (listed.setIfInBounds j true).getD k true = false →
          (∀ e ∈ ok.after, Region.binds md e = true → e.on ≠ i) → oi.apart ops ok = true := fun k ok hk hki hun hno => by
        refine hfree k ok hk hki ?_ hno
        by_cases hjk : j = k
        · subst hjk; exact hjun
        · rw [getD_set_ne true hjk] at hun; exact hun
      refine lOp_mono (fun a' w' _ h3 => ih (listed.setIfInBounds j true) a' w' (hc.set_ hj) hfree' htail (ready_mono hr (Ne.symm hji)) h3.1 ?_) h2
      rw [Array.setIfInBounds_comm _ _ hji]
      exact h3.2

/-- An operation that may add memory may be taken first, if all others of its kind wait for it. -/
theorem anyL_eff {i : Nat} {oi : Oper} (hi : ops[i]? = some oi) (hk : kd i = 1) (hne0 : ∃ w, C w) (hsel : ∀ (j : Nat) (o : Oper) cs b, ops[j]? = some o → o.op ≠ .select cs b)
    (hplain : ∀ j oj, ops[j]? = some oj → kd j = 0 → plainOp oj.op = true) :
    ∀ (fuel : Nat) (listed : Array Bool) (a : Act) (w : World), Clo md ops listed →
      (∀ j oj, ops[j]? = some oj → j ≠ i → listed.getD j true = false → (∀ e ∈ oj.after, Region.binds md e = true → e.on ≠ i) → oi.apart ops oj = true) →
      (∀ j oj, ops[j]? = some oj → j ≠ i → listed.getD j true = false → kd j ≠ 0 → Pre md ops j i) →
      i ∈ Region.ready md ops listed → Region.wanted oi (yielded ops a.tmps) = true →
      EffOp P oi a w (fun v w' => wpAnyL P md ops C kd F fuel (listed.setIfInBounds i true) (a.put oi.dst v) w') → wpAnyL P md ops C kd F (fuel + 1) listed a w := by
  have take : ∀ (fuel : Nat) (listed : Array Bool) (a : Act) (w : World), Region.wanted oi (yielded ops a.tmps) = true →
      EffOp P oi a w (fun v w' => wpAnyL P md ops C kd F fuel (listed.setIfInBounds i true) (a.put oi.dst v) w') →
      lOp P ops C kd i (wpAnyL P md ops C kd F fuel (listed.setIfInBounds i true)) a w := by
    intro fuel listed a w hw H
    unfold lOp
    simp only [hi, hk]
    rw [if_neg (show ¬ ((1 : Nat) = 2) by omega), if_pos hw]
    simp only [if_true]
    exact H
  intro fuel
  induction fuel with
  | zero =>
    intro listed a w hc hfree hpre hr hw H
    refine ⟨fun h => (by rw [h] at hr; cases hr), fun j hj => ?_⟩
    by_cases hji : j = i
    · subst hji; exact take 0 listed a w hw H
    · obtain ⟨v, w', _, H0⟩ := H.some
      have h2 := H0.1 j (ready_mono hj hji)
      obtain ⟨hjun, oj, hoj, _⟩ := mem_ready.1 hj
      exact absurd hj (Pre.not_ready hc (hpre j oj hoj hji hjun (by omega)) hr)
  | succ fuel ih =>
    intro listed a w hc hfree hpre hr hw H
    refine ⟨fun h => (by rw [h] at hr; cases hr), fun j hj => ?_⟩
    by_cases hji : j = i
    · subst hji; exact take (fuel + 1) listed a w hw H
    · obtain ⟨hjun, oj, hoj, hall⟩ := mem_ready.1 hj
      by_cases hk0 : kd j = 0
      · have hap := hfree j oj hoj hji hjun (not_on hr hall)
        obtain ⟨g1, g2, g3⟩ := Oper.apart_spec hap
        have same : ∀ (v u : Value), YieldsIn P ops C oj u (a.put oi.dst v) → YieldsIn P ops C oj u a := fun v u hy =>
          hy.of_same (execOp_put oj (fun cs b => hsel j oj cs b hoj) a oi.dst v g1).symm (wanted_put oj a oi.dst v g1).symm
        obtain ⟨v0, w0', _, H0⟩ := H.some
        obtain ⟨u, hy, _⟩ := yieldsIn_of_lOp hoj hk0 (H0.2 j (ready_mono hj hji))
        have hyu := same v0 u hy
        refine lOp_of_yields hoj hk0 hyu (ih (listed.setIfInBounds j true) (a.put oj.dst u) w (hc.set_ hj) ?_ ?_ (ready_mono hr (Ne.symm hji)) ?_ ?_)
        · intro k ok hkk hki hun hno
          refine hfree k ok hkk hki ?_ hno
          by_cases hjk : j = k
          · subst hjk; exact hjun
          · rw [getD_set_ne true hjk] at hun; exact hun
        · intro k ok hkk hki hun hkn
          refine hpre k ok hkk hki ?_ hkn
          by_cases hjk : j = k
          · subst hjk; exact hjun
          · rw [getD_set_ne true hjk] at hun; exact hun
        · rw [wanted_put oi a oj.dst u g3]; exact hw
        · unfold EffOp at *
          rw [execOp_put oi (fun cs b => hsel i oi cs b hi) a oj.dst u g3]
          refine EffUpon.mono (fun v w' _ hn => ?_) H
          obtain ⟨u', hy', hK⟩ := yieldsIn_of_lOp hoj hk0 (hn.2 j (ready_mono hj hji))
          have : u' = u := yieldsIn_unique (hplain j oj hoj hk0) hne0 (same v u' hy') hyu
          subst this
          rw [← Act.put_comm a v u' g2, ← Array.setIfInBounds_comm _ _ (Ne.symm hji)]
          exact hK
      · exact absurd hj (Pre.not_ready hc (hpre j oj hoj hji hjun hk0) hr)

/-- The walk in the order of the text. -/
def wpLex (P : Program) (ops : Array Oper) (C : World → Prop) (kd : Nat → Nat) (G : Act → World → Prop) : List Oper → Nat → Act → World → Prop
  | [], _, a, w => G a w
  | o :: rest, k, a, w =>
    if Region.wanted o (yielded ops a.tmps) then
      (if kd k = 1 then EffOp P o a w (fun v w' => wpLex P ops C kd G rest (k + 1) (a.put o.dst v) w') else o.quiet P a C (fun a' => wpLex P ops C kd G rest (k + 1) a' w))
    else wpLex P ops C kd G rest (k + 1) (a.put o.dst undef) w

/-- From operation k on the order is forced. -/
def forcedB (md : Region.Mode) (ops : Array Oper) : Nat → Nat → Array Bool → Bool
  | 0, _, listed => (Region.ready md ops listed).isEmpty
  | n + 1, k, listed => (Region.ready md ops listed == [k]) && forcedB md ops n (k + 1) (listed.setIfInBounds k true)

def lexStep (md : Region.Mode) (ops : Array Oper) (kd : Nat → Nat) (B : Array Nat) (k : Nat) (listed : Array Bool) : Bool :=
  (Region.ready md ops listed).contains k && Region.free md ops listed k && (kd k != 2) &&
  (List.range ops.size).all fun j => j == k || ((kd j != 2) && (kd k != 1 || kd j == 0 || listed.getD j true)) || (B.getD j 0).testBit k

def lexFromB (md : Region.Mode) (ops : Array Oper) (kd : Nat → Nat) (B : Array Nat) (t : Nat) : Nat → Nat → Array Bool → Bool
  | 0, k, listed => ((Region.ready md ops listed).all fun i => kd i == 2) && forcedB md ops t k listed
  | fuel + 1, k, listed => lexStep md ops kd B k listed && lexFromB md ops kd B t fuel (k + 1) (listed.setIfInBounds k true)

theorem any_forced {Q : Exit → Act → World → Prop} : ∀ (l : List Oper) (k : Nat) (listed : Array Bool) (a : Act) (w : World), (∀ j, l[j]? = ops[k + j]?) →
    forcedB md ops l.length k listed = true → wpList P ops Q l a w → wpAny P md ops Q l.length listed a w
  | [], _, _, _, _, _, hB, h => ⟨by simpa [forcedB] using hB, h⟩
  | o :: l, k, listed, a, w, hl, hB, h => by
    simp only [List.length_cons, forcedB, Bool.and_eq_true, beq_iff_eq] at hB
    obtain ⟨hr, hB'⟩ := hB
    have h0 : ops[k]? = some o := by simpa using (hl 0).symm
    have hl' : ∀ j, l[j]? = ops[k + 1 + j]? := fun j => by have := hl (j + 1); simpa [Nat.add_assoc, Nat.add_comm 1 j] using this
    refine ⟨fun e => (by rw [hr] at e; cases e), fun i hi => ?_⟩
    rw [hr, List.mem_singleton] at hi
    subst hi
    unfold wpOp
    simp only [h0]
    unfold wpList at h
    split at h
    · rename_i hw
      rw [if_pos hw]
      exact h.imp (Oper.wp_mono fun a' w' h' => any_forced l (i + 1) _ a' w' hl' hB' h') id
    · rename_i hw
      rw [if_neg hw]
      exact any_forced l (i + 1) _ _ w hl' hB' h

theorem anyL_lex {Q : Exit → Act → World → Prop} {B : Array Nat} {tl : List Oper} (hs : Region.noSelect ops = true) (hP : preOk md ops B = true) (hne0 : ∃ w, C w)
    (hplain : ∀ j oj, ops[j]? = some oj → kd j = 0 → plainOp oj.op = true) (hkd : ∀ j, kd j ≤ 2) :
    ∀ (l : List Oper) (k : Nat) (listed : Array Bool) (a : Act) (w : World), (∀ j, (l ++ tl)[j]? = ops[k + j]?) → Clo md ops listed →
    lexFromB md ops kd B tl.length l.length k listed = true → wpLex P ops C kd (fun a w => wpList P ops Q tl a w) l k a w →
    wpAnyL P md ops C kd (fun listed a w => wpAny P md ops Q tl.length listed a w) l.length listed a w
  | [], k, listed, a, w, hl, _, hB, h => by
    simp only [List.length_nil, lexFromB, Bool.and_eq_true, List.all_eq_true, beq_iff_eq] at hB
    exact ⟨hB.1, any_forced tl k listed a w (by simpa using hl) hB.2 h⟩
  | o :: l, k, listed, a, w, hl, hc, hB, h => by
    have h0 : ops[k]? = some o := by simpa using (hl 0).symm
    have hl' : ∀ j, (l ++ tl)[j]? = ops[k + 1 + j]? := fun j => by have := hl (j + 1); simpa [Nat.add_assoc, Nat.add_comm 1 j] using this
    simp only [List.length_cons, lexFromB, lexStep, Bool.and_eq_true, List.all_eq_true, List.mem_range, Bool.or_eq_true, beq_iff_eq, bne_iff_ne] at hB
    obtain ⟨⟨⟨⟨hr, hf⟩, hk2⟩, hall⟩, hB'⟩ := hB
    have hr' : k ∈ Region.ready md ops listed := by simpa using hr
    have hc' := hc.set_ hr'
    have htail : ∀ j oj, ops[j]? = some oj → j ≠ k → kd j = 2 → Pre md ops j k := by
      intro j oj hoj hjk hj2
      have hlt := (Array.getElem?_eq_some_iff.1 hoj).1
      rcases hall j hlt with (h1 | h1) | h1
      · exact absurd h1 hjk
      · exact absurd hj2 h1.1
      · exact pre_of_bit hP j k hlt h1
    by_cases hw : Region.wanted o (yielded ops a.tmps) = true
    · by_cases hk1 : kd k = 1
      · unfold wpLex at h
        rw [if_pos hw, if_pos hk1] at h
        refine anyL_eff h0 hk1 hne0 (Region.noSelect_spec hs) hplain l.length listed a w hc (Region.free_spec h0 hf) ?_ hr' hw ?_
        · intro j oj hoj hjk hun hj0
          have hlt := (Array.getElem?_eq_some_iff.1 hoj).1
          rcases hall j hlt with (h1 | h1) | h1
          · exact absurd h1 hjk
          · rcases h1.2 with (h2 | h2) | h2
            · exact absurd hk1 h2
            · exact absurd h2 hj0
            · rw [hun] at h2; cases h2
          · exact pre_of_bit hP j k hlt h1
        · exact EffUpon.mono (fun v w' _ h' => anyL_lex hs hP hne0 hplain hkd l (k + 1) _ _ w' hl' hc' hB' h') h
      · unfold wpLex at h
        rw [if_pos hw, if_neg hk1] at h
        have hk0 : kd k = 0 := by have := hkd k; omega
        obtain ⟨v, h1, h2⟩ := h
        exact anyL_quiet h0 (Region.noSelect_spec hs) l.length listed a w hc (Region.free_spec h0 hf) htail hr' (.inl ⟨hk0, .inl ⟨hw, h1⟩⟩) (anyL_lex hs hP hne0 hplain hkd l (k + 1) _ _ w hl' hc' hB' h2)
    · unfold wpLex at h
      rw [if_neg hw] at h
      exact anyL_quiet h0 (Region.noSelect_spec hs) l.length listed a w hc (Region.free_spec h0 hf) htail hr' (.inr ⟨hk2, by simpa using hw, rfl⟩) (anyL_lex hs hP hne0 hplain hkd l (k + 1) _ _ w hl' hc' hB' h)

theorem wpOp_of_lOp {Q : Exit → Act → World → Prop} {i : Nat} {a : Act} {w : World} {K K' : Act → World → Prop} (hw0 : C w) (hplain : ∀ j oj, ops[j]? = some oj → kd j = 0 → plainOp oj.op = true) (hkd : ∀ j, kd j ≤ 2)
    (h : ∀ a w', Bel w w' → K a w' → K' a w') (hh : lOp P ops C kd i K a w) : wpOp P ops Q i K' a w := by
  unfold lOp at hh
  unfold wpOp
  cases ho : ops[i]? with
  | none => simp only [ho] at hh; exact h _ _ (Bel.refl _) hh
  | some o =>
    simp only [ho] at hh
    by_cases hk2 : kd i = 2
    · rw [if_pos hk2] at hh; exact hh.elim
    · rw [if_neg hk2] at hh
      by_cases hw : Region.wanted o (yielded ops a.tmps) = true
      · simp only [if_pos hw] at hh ⊢
        refine .inl ?_
        by_cases hk1 : kd i = 1
        · rw [if_pos hk1] at hh
          unfold EffOp at hh
          unfold Oper.wp
          generalize (execOp a.eval o).run P w = r at *
          cases r with
          | ok n w' =>
            cases n <;> simp only [EffUpon] at hh
            case value v => exact h _ _ hh.1 hh.2
            case enter f args =>
              rw [Oper.upon_enter]
              exact Calls.mono hh.2 fun e w'' ⟨v, he, hb, hk⟩ => by subst he; exact h _ _ (hh.1.trans hb) hk
          | halt x w' => simp only [EffUpon] at hh
        · rw [if_neg hk1] at hh
          have hk0 : kd i = 0 := by have := hkd i; omega
          obtain ⟨v, h1, h2⟩ := hh
          have h3 := h1 w hw0
          unfold Oper.quietAt at h3
          unfold Oper.wp
          cases hr : (execOp a.eval o).run P w with
          | ok n w' =>
            obtain ⟨u, rfl⟩ := plain_value (hplain i o ho hk0) hr
            rw [hr] at h3
            obtain ⟨rfl, rfl⟩ := h3
            exact h _ _ (Bel.refl _) h2
          | halt x w' =>
            rw [hr] at h3
            simp only [Oper.quietUpon] at h3
      · simp only [if_neg hw] at hh ⊢
        exact h _ _ (Bel.refl _) hh

theorem any_of_L {Q : Exit → Act → World → Prop} {t : Nat} (hC : ∀ w w', C w → Bel w w' → C w') (hplain : ∀ j oj, ops[j]? = some oj → kd j = 0 → plainOp oj.op = true) (hkd : ∀ j, kd j ≤ 2) :
    ∀ (fuel : Nat) (listed : Array Bool) (a : Act) (w : World), C w → wpAnyL P md ops C kd (fun listed a w => wpAny P md ops Q t listed a w) fuel listed a w → wpAny P md ops Q (fuel + t) listed a w
  | 0, _, _, _, _, h => by rw [Nat.zero_add]; exact h.2
  | fuel + 1, listed, a, w, hw, h => by
    rw [show fuel + 1 + t = fuel + t + 1 by omega]
    exact ⟨fun e => absurd e h.1, fun i hi => wpOp_of_lOp hw hplain hkd (fun a' w' hb h' => any_of_L hC hplain hkd fuel _ a' w' (hC w w' hw hb) h') (h.2 i hi)⟩

/-- Which kind: from n on the forced tail; the operations E may add memory; the others are quiet. -/
def kindOf (E : List Nat) (n i : Nat) : Nat := if n ≤ i then 2 else if E.contains i then 1 else 0
def lexAll (E : List Nat) (n : Nat) (ops : Array Oper) : Bool :=
  Region.noSelect ops && preOk .any ops (Region.before ops) && ((List.range ops.size).all fun j => match ops[j]? with
    | some o => kindOf E n j != 0 || plainOp o.op
    | none => true) && lexFromB .any ops (kindOf E n) (Region.before ops) (ops.size - n) n 0 (Array.replicate ops.size false) && decide (n ≤ ops.size)

theorem kindOf_le (E : List Nat) (n i : Nat) : kindOf E n i ≤ 2 := by unfold kindOf; split <;> (try split) <;> omega

/-- ONE WALK IN THE ORDER OF THE TEXT SERVES EVERY ORDER. -/
theorem wp_region_lex {id : Nat} {Q : Exit → Act → World → Prop} {a : Act} {w : World} {l : List Oper} (E : List Nat) (n : Nat) (hm : P.follows .mixedOrders = true) (hB : lexAll E n l.toArray = true)
    (h : wpLex P l.toArray (fun w' => ∃ p : Regrown, w' = grow (redrawn w p.d) p.os) (kindOf E n) (fun a w => wpList P l.toArray Q (l.drop n) a w) (l.take n) 0 a w.drew) :
    (Code.region id l.toArray true).wp P Q a w := by
  simp only [lexAll, Bool.and_eq_true, decide_eq_true_eq] at hB
  obtain ⟨⟨⟨⟨hs, hP⟩, hpl⟩, hL⟩, hn⟩ := hB
  have hn' : n ≤ l.length := by simpa using hn
  have hplain : ∀ j oj, l.toArray[j]? = some oj → kindOf E n j = 0 → plainOp oj.op = true := by
    intro j oj hoj hk
    have hlt := (Array.getElem?_eq_some_iff.1 hoj).1
    have h1 := List.all_eq_true.1 hpl j (by simpa using hlt)
    simp only [hoj, hk, bne_self_eq_false, Bool.false_or] at h1
    exact h1
  have hC0 : (fun w' => ∃ p : Regrown, w' = grow (redrawn w p.d) p.os) w.drew := regrown_of_below (w := w) (Bel.drew (Bel.refl w))
  have hC : ∀ w1 w2, (fun w' => ∃ p : Regrown, w' = grow (redrawn w p.d) p.os) w1 → Bel w1 w2 → (fun w' => ∃ p : Regrown, w' = grow (redrawn w p.d) p.os) w2 := by
    rintro w1 w2 ⟨p, rfl⟩ hb
    exact regrown_of_below (w := w) (Bel.trans (a := w) (below_regrown _ _ _) hb)
  have hlen : (l.take n).length = n := by simp; omega
  have hlen2 : (l.drop n).length = l.toArray.size - n := by simp
  refine wp_region_any hm ?_
  have h1 := anyL_lex (P := P) (Q := Q) (md := .any) (kd := kindOf E n) (tl := l.drop n) (C := fun w' => ∃ p : Regrown, w' = grow (redrawn w p.d) p.os) hs hP ⟨_, hC0⟩ hplain (kindOf_le E n) (l.take n) 0 (Array.replicate l.toArray.size false) a w.drew
    (fun j => by rw [List.take_append_drop]; simp) Clo.start (by rw [hlen, hlen2]; exact hL) h
  have h2 := any_of_L hC hplain (kindOf_le E n) _ _ _ _ hC0 h1
  rw [show (l.take n).length + (l.drop n).length = l.toArray.size by simp; omega] at h2
  exact h2

/-- A stretch of quiet operations. -/
theorem lex_seg {G : Act → World → Prop} : ∀ (m : Nat) (l : List Oper) (k : Nat) (a : Act) (w : World), ((List.range m).all fun i => kd (k + i) != 1) = true →
    wpQuiet P ops C (fun a' => wpLex P ops C kd G (l.drop m) (k + m) a' w) (l.take m) a → wpLex P ops C kd G l k a w
  | 0, l, k, a, w, _, h => by simpa [wpQuiet] using h
  | m + 1, [], k, a, w, _, h => by simpa [wpQuiet, wpLex] using h
  | m + 1, o :: l, k, a, w, hk, h => by
    rw [List.all_eq_true] at hk
    have hk0 : kd k ≠ 1 := by simpa using hk 0 (by simp)
    have hk' : ((List.range m).all fun i => kd (k + 1 + i) != 1) = true := by
      rw [List.all_eq_true]
      intro i hi
      have := hk (i + 1) (by simpa using hi)
      rwa [show k + (i + 1) = k + 1 + i by omega] at this
    rw [List.take_succ_cons, List.drop_succ_cons] at h
    rw [show k + (m + 1) = k + 1 + m by omega] at h
    unfold wpQuiet at h
    unfold wpLex
    split
    · rename_i hw
      rw [if_pos hw] at h
      exact Oper.quiet_mono (fun a' h' => lex_seg m l (k + 1) a' w hk' h') h
    · rename_i hw
      rw [if_neg hw] at h
      exact lex_seg m l (k + 1) _ w hk' h

/-- A call whose contract ends in 'Bel'. -/
theorem lex_call {G : Act → World → Prop} {o : Oper} {rest : List Oper} {k : Nat} {a : Act} {w : World} (f : FuncId) {args : Array Value} (hk : kd k = 1) (hw : Region.wanted o (yielded ops a.tmps) = true)
    (hr : (execOp a.eval o).run P w = .ok (.enter f args) w) (h : Calls P f args w (fun e w' => ∃ v, e = .returned v ∧ Bel w w' ∧ wpLex P ops C kd G rest (k + 1) (a.put o.dst v) w')) :
    wpLex P ops C kd G (o :: rest) k a w := by
  unfold wpLex
  rw [if_pos hw, if_pos hk]
  unfold EffOp
  rw [hr]
  exact ⟨Bel.refl _, h⟩
/-- An operation that adds memory. -/
theorem lex_made {G : Act → World → Prop} {o : Oper} {rest : List Oper} {k : Nat} {a : Act} {w w' : World} {v : Value} (hk : kd k = 1) (hw : Region.wanted o (yielded ops a.tmps) = true)
    (hr : (execOp a.eval o).run P w = .ok (.value v) w') (hb : Bel w w') (h : wpLex P ops C kd G rest (k + 1) (a.put o.dst v) w') :
    wpLex P ops C kd G (o :: rest) k a w := by
  unfold wpLex
  rw [if_pos hw, if_pos hk]
  unfold EffOp
  rw [hr]
  exact ⟨hb, h⟩
/-- An operation that is passed over. -/
theorem lex_skip {G : Act → World → Prop} {o : Oper} {rest : List Oper} {k : Nat} {a : Act} {w : World} (hw : Region.wanted o (yielded ops a.tmps) = false)
    (h : wpLex P ops C kd G rest (k + 1) (a.put o.dst undef) w) : wpLex P ops C kd G (o :: rest) k a w := by
  unfold wpLex
  rw [if_neg (by rw [hw]; simp)]
  exact h
theorem lex_nil {G : Act → World → Prop} {k : Nat} {a : Act} {w : World} (h : G a w) : wpLex P ops C kd G [] k a w := h
end
end Go.Proofs.Ytbijfmpmgmfpgaa
