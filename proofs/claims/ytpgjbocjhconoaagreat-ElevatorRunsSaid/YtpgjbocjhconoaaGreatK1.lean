/- Lemmas and walks that the statements share, part K1. -/
import Derived.Test.YtpgjbocjhconoaaGreatRows
import Derived.WalkKit
import Derived.ProofKit
import Derived.OpenShut
import Derived.Deep.Draws
import Derived.Deep.QuietTactic
import Derived.BigQuiet
import Derived.Lib.Hide
import Derived.Deep.DeepMust
import Derived.Maps.AppendAt
import Derived.Deep.AppendLies
import Derived.Lib.QuietBelow
import Derived.Maps.OwnOps
import Derived.Maps.OwnSet
import Derived.Maps.Views
/- Small words and lemmas of this proof: a world that has only grown; endings; the contract of dock.Round. -/
namespace Go.Proofs.YtpgjbocjhconoaaGreat
open Go.RowKit

/-- Whatever lay in the world a lies in w as it was. -/
def Bel (a w : World) : Prop := Below a.heap.size a w
theorem Bel.refl (w : World) : Bel w w := Below.refl _ _
theorem Bel.trans {a b c : World} (h : Bel a b) (k : Bel b c) : Bel a c := Below.trans h (Below.mono k (Below.size h))
theorem Bel.drew {a w : World} (h : Bel a w) : Bel a w.drew := Below.drew h
theorem Bel.drewN {a w : World} (h : Bel a w) (n : Nat) : Bel a (w.drewN n) := by
  have k : Below a.heap.size a w := h
  exact ⟨k.os, k.tape, k.output, k.size, k.block⟩
theorem Bel.alloc {a w : World} (h : Bel a w) (o : Obj) : Bel a (w.alloc o) := Below.alloc h (Below.size h) o
theorem Bel.setNew {a w : World} (h : Bel a w) {p : Addr} (hp : a.heap.size ≤ p.block) (u : Value) : Bel a (w.setCell p u) := Below.setCell h hp u
/-- What follows from the facts at hand by the steps above. -/
theorem bI {a w : World} (h : Bel a w := by repeat (first | (with_reducible exact Bel.refl _) | (with_reducible assumption) | (with_reducible refine Bel.drewN ?_ _) | (with_reducible refine Bel.drew ?_) | (with_reducible refine Bel.alloc ?_ _) | (with_reducible refine Bel.setNew ?_ ?_ _) | (with_reducible refine Bel.trans ?_ (by assumption)) | (focus (simp; done)) | (focus (simp; omega)))) : Bel a w := h
theorem Bel.size {a w : World} (h : Bel a w) : a.heap.size ≤ w.heap.size := Below.size h
theorem Bel.cellAt {a w : World} (h : Bel a w) (b o : Nat) (hp : b < a.heap.size) : w.cell? ⟨b, o, none⟩ = a.cell? ⟨b, o, none⟩ := Below.cell (p := ⟨b, o, none⟩) h hp
theorem Bel.frozenAt {a w : World} (h : Bel a w) (b o : Nat) (hp : b < a.heap.size) : w.frozen? ⟨b, o, none⟩ = a.frozen? ⟨b, o, none⟩ := Below.frozen (p := ⟨b, o, none⟩) h hp
theorem Bel.block {a w : World} (h : Bel a w) (k : Nat) (hk : k < a.heap.size) : w.heap[k]? = a.heap[k]? := Below.block h k hk

/-- What an int is. -/
def IsInt (n : Int) : Prop := -9223372036854775808 ≤ n ∧ n ≤ 9223372036854775807
theorem int_bounds {n : Int} (h : (Lit.int .i64 n).wf = true) : IsInt n := Go.bounds_i64 h

/-- A slice of ints that came in, nil let in: it reads as zs. -/
def Ints (w : World) (v : Value) (zs : List Int) : Prop :=
  (∀ z ∈ zs, IsInt z) ∧ ∃ A c, v = .slice A zs.length c ∧ zs.length ≤ c ∧ c ≤ maxLen ∧ (0 < zs.length → ∃ b o, A = some ⟨b, o, none⟩ ∧ b < w.heap.size ∧ ∀ j (h : j < zs.length), w.cell? ⟨b, o + j, none⟩ = some (.int .i64 (zs[j]'h)))
theorem Ints.nil (w : World) : Ints w (.slice none 0 0) [] := ⟨by simp, none, 0, rfl, Nat.le_refl _, by unfold maxLen; omega, fun h => absurd h (by simp)⟩
theorem Ints.bel {w w' : World} {v : Value} {zs : List Int} (h : Ints w v zs) (hb : Bel w w') : Ints w' v zs := by
  obtain ⟨h1, A, c, hv, hc, hm, hr⟩ := h
  refine ⟨h1, A, c, hv, hc, hm, fun hn => ?_⟩
  obtain ⟨b, o, hA, hlt, hcell⟩ := hr hn
  exact ⟨b, o, hA, Nat.lt_of_lt_of_le hlt hb.size, fun j hj => by rw [hb.cellAt b (o + j) hlt]; exact hcell j hj⟩

theorem ints_of_open {w : World} {x : Addr} {l c : Nat} {zs : List Int} (hl : l ≤ c) (hm : c ≤ maxLen) (hz : zs.length = c) (hcell : ∀ i, i < zs.length → w.cell? (x.add i) = some (.int .i64 (zs.getD i 0))) (hwz : ∀ n ∈ zs, (Lit.int .i64 n).wf = true) :
    Ints w (.slice (some x) l c) (zs.take l) := by
  have hlen : (zs.take l).length = l := by simp; omega
  refine ⟨fun z hmem => int_bounds (hwz z (List.mem_of_mem_take hmem)), some x, c, by rw [hlen], by rw [hlen]; exact hl, hm, fun hn => ?_⟩
  obtain ⟨b, o, rfl, hc⟩ := ints_at hcell (by omega)
  refine ⟨b, o, rfl, World.block_lt_of_cell? w _ (hc 0 (by omega)), fun j hj => ?_⟩
  rw [hlen] at hj
  rw [hc j (by omega), List.getElem_take, List.getD_eq_getElem?_getD, List.getElem?_eq_getElem (by omega), Option.getD_some]

/-- In block B lie the cells cs, from its beginning on. -/
def At (w : World) (B : Nat) (cs : List Value) : Prop := B < w.heap.size ∧ ∀ j u, cs[j]? = some u → w.cell? ⟨B, j, none⟩ = some u
theorem At.bel {w w' : World} {B : Nat} {cs : List Value} (h : At w B cs) (hb : Bel w w') : At w' B cs :=
  ⟨Nat.lt_of_lt_of_le h.1 hb.size, fun j u hu => by rw [hb.cellAt B j h.1]; exact h.2 j u hu⟩
theorem At.new (w : World) (t : TypeId) (cs : List Value) : At (w.alloc (.cells cs.toArray t)) w.heap.size cs :=
  ⟨by simp, fun j u hu => by simpa [go_sem] using hu⟩

theorem ret_int {a b : Int} (h : a = b) : Ending.returned (.int .i64 a) = .returned (.int .i64 b) := by rw [h]
theorem ret_bool {a b : Bool} (h : a = b) : Ending.returned (.bool a) = .returned (.bool b) := by rw [h]

/-- What dock.Round computes. -/
def rnd (n m : Int) : Int := if m < 1 then 0 else (n % 18446744073709551616) % m

theorem rnd_lo (n m : Int) : 0 ≤ rnd n m := by
  unfold rnd; split
  · omega
  · exact Int.emod_nonneg _ (by omega)
theorem rnd_hi (n m : Int) (h : 1 ≤ m) : rnd n m < m := by unfold rnd; rw [if_neg (by omega)]; exact Int.emod_lt_of_pos _ (by omega)
theorem rnd_eq (n m : Int) (h : 1 ≤ m) (h' : m ≤ 9223372036854775807) : wrap64 ((IntKind.u64.wrap n).tmod m) = rnd n m := by
  unfold rnd
  rw [if_neg (by omega)]
  have e : IntKind.u64.wrap n = n % 18446744073709551616 := by rw [IntKind.wrap_u64]
  rw [e]
  have h0 : 0 ≤ n % 18446744073709551616 := by omega
  rw [Int.tmod_eq_emod_of_nonneg h0]
  have h1 := Int.emod_nonneg (n % 18446744073709551616) (show m ≠ 0 by omega)
  have h2 := Int.emod_lt_of_pos (n % 18446744073709551616) (show 0 < m by omega)
  exact IntWalk.wrap64_in _ ⟨by omega, by omega⟩

set_option maxHeartbeats 400000 in
theorem round_any (n m : Int) (w : World) (hm : m ≤ 9223372036854775807) :
    Calls Tryz.prog 5 #[.int .i64 n, .int .i64 m] w fun e w' => e = .returned (.int .i64 (rnd n m)) ∧ w = w' := by
  by_cases h : m < 1
  · go_enter Tryz.func5, Tryz.ntmps5
    go_wp2
    go_ret
    exact ⟨ret_int (by unfold rnd; rw [if_pos h]), rfl⟩
  · go_enter Tryz.func5, Tryz.ntmps5
    go_wp2
    go_ret
    exact ⟨ret_int (rnd_eq n m (by omega) hm), rfl⟩
end Go.Proofs.YtpgjbocjhconoaaGreat

/- Rows that a call owns: small lemmas. -/
namespace Go.Proofs.YtpgjbocjhconoaaGreat
open Go.RowKit

theorem own_mono {w : World} {base base' : Nat} {e : TypeId} {size : Nat} {v : Value} {n : Nat} {xs : List Value} (h : w.ownsRow base e size v n xs) (hb : base' ≤ base) : w.ownsRow base' e size v n xs := by
  refine ⟨h.1, ?_⟩
  rcases h.2 with h2 | ⟨g, cap, cur, hv, hg, r⟩
  · exact Or.inl h2
  · exact Or.inr ⟨g, cap, cur, hv, Nat.le_trans hb hg, r⟩
theorem own_keep {w w' : World} {base : Nat} {e : TypeId} {size : Nat} {v : Value} {n : Nat} {xs : List Value} (h : w.ownsRow base e size v n xs) (hb : Bel w w') : w'.ownsRow base e size v n xs := by
  refine ⟨h.1, ?_⟩
  rcases h.2 with h2 | ⟨g, cap, cur, hv, hg, hh, r⟩
  · exact Or.inl h2
  · exact Or.inr ⟨g, cap, cur, hv, hg, by rw [hb.block g (Array.getElem?_eq_some_iff.1 hh).1]; exact hh, r⟩
theorem add_zero_off (g j : Nat) : (⟨g, 0, none⟩ : Addr).add j = ⟨g, j, none⟩ := by
  unfold Addr.add; split
  · rename_i h; subst h; rfl
  · simp
/-- The cells of a block that has just been made. -/
theorem cells_new (w : World) (cs : List Value) (t : TypeId) : ∀ j u, cs[j]? = some u → (w.alloc (.cells cs.toArray t)).cell? ((⟨w.heap.size, 0, none⟩ : Addr).add j) = some u := by
  intro j u hu
  rw [add_zero_off]
  simpa [go_sem] using hu
/-- Behind an append onto a row of the call's own: what lay in a lies there still. -/
theorem bel_own {a w w' : World} {base : Nat} {e : TypeId} {size : Nat} {v : Value} {n : Nat} {xs : List Value} (h : Bel a w) (ho : w.ownsRow base e size v n xs) (hg : w.grownBy w' v.ownBlock) (hB : a.heap.size ≤ base) : Bel a w' :=
  Below.grown h hg h.size fun k hk => Nat.le_trans hB (ho.lt k hk).1

/-- A slice value of n elements, nil let in, that reads as the cells xs. -/
def Rd (w : World) (v : Value) (size n : Nat) (xs : List Value) : Prop :=
  xs.length = n * size ∧ ∃ A c, v = .slice A n c ∧ n ≤ c ∧ c ≤ maxLen ∧ (0 < n → ∃ b o, A = some ⟨b, o, none⟩ ∧ b < w.heap.size ∧ ∀ j u, xs[j]? = some u → w.cell? ⟨b, o + j, none⟩ = some u)
theorem Rd.bel {w w' : World} {v : Value} {size n : Nat} {xs : List Value} (h : Rd w v size n xs) (hb : Bel w w') : Rd w' v size n xs := by
  obtain ⟨h1, A, c, hv, hc, hm, hr⟩ := h
  refine ⟨h1, A, c, hv, hc, hm, fun hn => ?_⟩
  obtain ⟨b, o, hA, hlt, hcell⟩ := hr hn
  exact ⟨b, o, hA, Nat.lt_of_lt_of_le hlt hb.size, fun j u hu => by rw [hb.cellAt b (o + j) hlt]; exact hcell j u hu⟩
theorem Rd.own {w : World} {base : Nat} {e : TypeId} {size : Nat} {v : Value} {n : Nat} {xs : List Value} (h : w.ownsRow base e size v n xs) : Rd w v size n xs := by
  refine ⟨h.1, ?_⟩
  rcases h.2 with ⟨rfl, rfl⟩ | ⟨g, cap, cur, rfl, hb, hg, hn, hm, hs, ht⟩
  · exact ⟨none, 0, rfl, Nat.le_refl _, by unfold maxLen; omega, fun h => absurd h (by omega)⟩
  · refine ⟨_, cap, rfl, hn, hm, fun _ => ⟨g, 0, rfl, (Array.getElem?_eq_some_iff.1 hg).1, fun j u hu => ?_⟩⟩
    have := h.cells (g := g) rfl j u hu
    rw [add_zero_off] at this
    rwa [Nat.zero_add]
theorem Rd.nil (w : World) (size : Nat) : Rd w (.slice none 0 0) size 0 [] := ⟨by simp, none, 0, rfl, Nat.le_refl _, by unfold maxLen; omega, fun h => absurd h (by omega)⟩
/-- A block that has just been made, as a slice. -/
theorem Rd.new (w : World) (t : TypeId) (cs : List Value) (size n : Nat) (h : cs.length = n * size) (hm : n ≤ maxLen) : Rd (w.alloc (.cells cs.toArray t)) (.slice (some ⟨w.heap.size, 0, none⟩) n n) size n cs :=
  ⟨h, _, n, rfl, Nat.le_refl _, hm, fun _ => ⟨w.heap.size, 0, rfl, by simp, fun j u hu => by
    have := cells_new w cs t j u hu
    rw [add_zero_off] at this
    rwa [Nat.zero_add]⟩⟩
end Go.Proofs.YtpgjbocjhconoaaGreat

/- A region that draws its order, whose operations read, call functions that only add memory, and end in a forced tail: one walk in the order of the text serves every order. -/
namespace Go.Proofs.YtpgjbocjhconoaaGreat
open Go.RowKit Go.Sort

section
variable {P : Program} {ops : Array Oper} {md : Region.Mode} {C : World → Prop}

/-- What an operation that may add memory leaves. -/
def EffUpon (P : Program) (w : World) (K : Value → World → Prop) : Result Next → Prop
  | .ok (.value v) w' => Bel w w' ∧ K v w'
  | .ok (.enter f args) w' => Bel w w' ∧ Calls P f args w' (fun e w'' => ∃ v, e = .returned v ∧ Bel w' w'' ∧ K v w'')
  | _ => False
def EffOp (P : Program) (o : Oper) (a : Act) (w : World) (K : Value → World → Prop) : Prop := EffUpon P w K ((execOp a.eval o).run P w)

theorem EffUpon.mono {w : World} {K K' : Value → World → Prop} {r : Result Next} (h : ∀ v w', Bel w w' → K v w' → K' v w') (hh : EffUpon P w K r) : EffUpon P w K' r := by
  cases r with
  | ok n w' =>
    cases n <;> simp only [EffUpon] at hh ⊢
    case value v => exact ⟨hh.1, h _ _ hh.1 hh.2⟩
    case enter f args => exact ⟨hh.1, Calls.mono hh.2 fun e w'' ⟨v, he, hb, hk⟩ => ⟨v, he, hb, h _ _ (hh.1.trans hb) hk⟩⟩
  | halt x w' => simp only [EffUpon] at hh
theorem EffUpon.some {w : World} {K : Value → World → Prop} {r : Result Next} (hh : EffUpon P w K r) : ∃ v w', Bel w w' ∧ K v w' := by
  cases r with
  | ok n w' =>
    cases n <;> simp only [EffUpon] at hh
    case value v => exact ⟨v, w', hh.1, hh.2⟩
    case enter f args =>
      obtain ⟨hb, hc⟩ := hh
      obtain ⟨e, w'', fr, ⟨v, he, hb', hk⟩, _⟩ := hc []
      exact ⟨v, w'', hb.trans hb', hk⟩
  | halt x w' => simp only [EffUpon] at hh

/-- Operation number i comes up: of kind 0 it is quiet, of kind 1 it may add memory, of kind 2 it must not come up yet. -/
def lOp (P : Program) (ops : Array Oper) (C : World → Prop) (kd : Nat → Nat) (i : Nat) (K : Act → World → Prop) (a : Act) (w : World) : Prop :=
  match ops[i]? with
  | none => K a w
  | some o =>
    if kd i = 2 then False else
    if Region.wanted o (yielded ops a.tmps) then (if kd i = 1 then EffOp P o a w (fun v w' => K (a.put o.dst v) w') else o.quiet P a C (fun a' => K a' w))
    else K (a.put o.dst undef) w

/-- Whatever order is picked, till fuel operations have come up. -/
def wpAnyL (P : Program) (md : Region.Mode) (ops : Array Oper) (C : World → Prop) (kd : Nat → Nat) (F : Array Bool → Act → World → Prop) : Nat → Array Bool → Act → World → Prop
  | 0, listed, a, w => (∀ i ∈ Region.ready md ops listed, kd i = 2) ∧ F listed a w
  | fuel + 1, listed, a, w =>
    Region.ready md ops listed ≠ [] ∧
    ∀ i ∈ Region.ready md ops listed, lOp P ops C kd i (wpAnyL P md ops C kd F fuel (listed.setIfInBounds i true)) a w

variable {kd : Nat → Nat} {F : Array Bool → Act → World → Prop}

theorem lOp_mono {i : Nat} {a : Act} {w : World} {K K' : Act → World → Prop} (h : ∀ a w', Bel w w' → K a w' → K' a w') (hh : lOp P ops C kd i K a w) : lOp P ops C kd i K' a w := by
  unfold lOp at *
  split
  · exact h _ _ (Bel.refl _) (by simpa [*] using hh)
  · rename_i o ho
    simp only [ho] at hh
    split
    · rename_i h2; simp only [h2, if_true] at hh
    · rename_i h2
      simp only [h2, if_false] at hh
      split
      · rename_i hw
        simp only [hw, if_true] at hh
        split
        · rename_i h1; simp only [h1, if_true] at hh; exact EffUpon.mono (fun v w' hb hk => h _ _ hb hk) hh
        · rename_i h1; simp only [h1, if_false] at hh; exact Oper.quiet_mono (fun a' hk => h _ _ (Bel.refl _) hk) hh
      · rename_i hw; simp only [hw] at hh; exact h _ _ (Bel.refl _) hh

/-- Every operation that has come up waits for none that has not. -/
def Clo (md : Region.Mode) (ops : Array Oper) (listed : Array Bool) : Prop :=
  ∀ j oj, ops[j]? = some oj → listed.getD j true = true → ∀ e ∈ oj.after, Region.binds md e = true → listed.getD e.on false = true
/-- Operation j waits for k, through others too. -/
def Pre (md : Region.Mode) (ops : Array Oper) (j k : Nat) : Prop :=
  ∀ listed : Array Bool, Clo md ops listed → (∀ oj, ops[j]? = some oj → ∀ e ∈ oj.after, Region.binds md e = true → listed.getD e.on false = true) → listed.getD k false = true

theorem getD_up {listed : Array Bool} {k : Nat} (h : listed.getD k false = true) : listed.getD k true = true := by
  rcases Nat.lt_or_ge k listed.size with hk | hk
  · simp [hk] at h ⊢; exact h
  · simp [Array.getElem?_eq_none hk] at h
theorem Clo.set_ {listed : Array Bool} {i : Nat} (h : Clo md ops listed) (hi : i ∈ Region.ready md ops listed) : Clo md ops (listed.setIfInBounds i true) := by
  intro j oj hj hl e he hb
  by_cases hji : i = j
  · subst hji
    obtain ⟨_, o, ho, hall⟩ := mem_ready.1 hi
    rw [hj] at ho
    cases ho
    exact getD_set_true (hall e he hb)
  · rw [getD_set_ne true hji] at hl
    exact getD_set_true (h j oj hj hl e he hb)
theorem Clo.start : Clo md ops (Array.replicate ops.size false) := by
  intro j oj hj hl
  have hlt : j < ops.size := (Array.getElem?_eq_some_iff.1 hj).1
  simp [hlt] at hl
/-- What waits for an operation that has not come up is not ready. -/
theorem Pre.not_ready {listed : Array Bool} {i j : Nat} (hc : Clo md ops listed) (hp : Pre md ops j i) (hi : i ∈ Region.ready md ops listed) : j ∉ Region.ready md ops listed := by
  intro hj
  obtain ⟨_, oj, hoj, hall⟩ := mem_ready.1 hj
  have h1 := hp listed hc (fun o ho e he hb => by rw [hoj] at ho; cases ho; exact hall e he hb)
  have h2 := getD_up h1
  rw [(mem_ready.1 hi).1] at h2
  cases h2

/-- The masks B tell whom each operation waits for. -/
def preOk (md : Region.Mode) (ops : Array Oper) (B : Array Nat) : Bool :=
  (List.range ops.size).all fun j => match ops[j]? with
    | none => true
    | some o => B.getD j 0 == o.after.toList.foldl (fun s e => if Region.binds md e && decide (e.on < j) then s ||| (2 ^ e.on ||| B.getD e.on 0) else s) 0

theorem bit_fold {α : Type} (p : α → Bool) (g : α → Nat) : ∀ (l : List α) (s k : Nat), (l.foldl (fun s e => if p e then s ||| g e else s) s).testBit k = true → s.testBit k = true ∨ ∃ e ∈ l, p e = true ∧ (g e).testBit k = true
  | [], s, k, h => .inl h
  | e :: l, s, k, h => by
    rw [List.foldl_cons] at h
    rcases bit_fold p g l _ k h with h1 | ⟨e', he', h2⟩
    · by_cases hp : p e = true
      · rw [if_pos hp, Nat.testBit_or, Bool.or_eq_true] at h1
        rcases h1 with h1 | h1
        · exact .inl h1
        · exact .inr ⟨e, by simp, hp, h1⟩
      · rw [if_neg hp] at h1
        exact .inl h1
    · exact .inr ⟨e', by simp [he'], h2⟩

theorem pre_of_bit {B : Array Nat} (h : preOk md ops B = true) : ∀ (j k : Nat), j < ops.size → (B.getD j 0).testBit k = true → Pre md ops j k := by
  intro j
  induction j using Nat.strongRecOn with
  | _ j ih =>
    intro k hj hb
    unfold preOk at h
    rw [List.all_eq_true] at h
    have h1 := h j (by simpa using hj)
    have hoj : ops[j]? = some ops[j] := Array.getElem?_eq_getElem hj
    simp only [hoj, beq_iff_eq] at h1
    rw [h1] at hb
    rcases bit_fold (fun e : Edge => Region.binds md e && decide (e.on < j)) (fun e => 2 ^ e.on ||| B.getD e.on 0) _ _ _ hb with h2 | ⟨e, he, hp, h2⟩
    · simp at h2
    · simp only [Bool.and_eq_true, decide_eq_true_eq] at hp
      intro listed hc hall
      have he' : e ∈ (ops[j]).after := by simpa using he
      have hl := hall _ hoj e he' hp.1
      rw [Nat.testBit_or, Bool.or_eq_true] at h2
      rcases h2 with h2 | h2
      · rw [Nat.testBit_two_pow, decide_eq_true_eq] at h2
        rw [← h2]
        exact hl
      · exact ih e.on hp.2 k (by omega) h2 listed hc (fun oe hoe e' he'' hb' => hc e.on oe hoe (getD_up hl) e' he'' hb')

/-- These never enter a Go function. -/
def plainOp : Op → Bool
  | .move _ | .assign _ | .pick .. | .load .. | .binOp .. | .unOp .. | .convert .. | .slice .. | .fieldAddr .. | .field .. | .indexAddr .. | .index .. | .lookup .. | .extract .. | .build .. | .nilCheck .. => true
  | .call { callee := .builtin b, .. } => match b with
    | .len | .cap | .min | .max => true
    | _ => false
  | _ => false
theorem value_of_andThen {α : Type} {r : Result α} {g : α → Value} {n : Next} {w' : World} (h : r.andThen (fun x w => Result.ok (Next.value (g x)) w) = .ok n w') : ∃ v, n = .value v := by
  cases r with
  | ok x w1 => simp only [Result.andThen] at h; injection h with h1 _; exact ⟨_, h1.symm⟩
  | halt x w1 => simp only [Result.andThen] at h; cases h
theorem plain_value {o : Oper} {ρ : Operand → Value} {n : Next} {w w' : World} (hp : plainOp o.op = true) (h : (execOp ρ o).run P w = .ok n w') : ∃ v, n = .value v := by
  obtain ⟨dst, op, type, pos, after, guard⟩ := o
  simp only at hp
  cases op <;> simp only [plainOp, Bool.false_eq_true] at hp <;> simp only [execOp, Sem.run_bind, Sem.run_pure] at h
  case call c =>
    obtain ⟨callee, args, argTypes⟩ := c
    cases callee <;> simp only [Bool.false_eq_true] at hp
    rename_i b
    cases b <;> simp only [Bool.false_eq_true] at hp <;> simp only [resolve, invoke, builtin, Sem.run_bind, Sem.run_pure, Result.andThen_ok] at h <;> exact value_of_andThen h
  case nilCheck x =>
    split at h
    · simp [go_sem] at h
    · simp [go_sem] at h
    · simp [go_sem] at h
    · split at h
      · simp [go_sem] at h
      · simp only [Sem.run_bind] at h
        generalize Sem.run P program w = r1 at h
        cases r1 with
        | halt x1 w1 => simp only [Result.andThen] at h; cases h
        | ok p1 w1 =>
          simp only [Result.andThen] at h
          generalize Sem.run P (nilAhead _ _ _ _) w1 = r2 at h
          cases r2 with
          | halt x1 w2 => simp only at h; cases h
          | ok p2 w2 =>
            simp only at h
            split at h
            · simp only [Sem.run_bind] at h
              generalize Sem.run P (unsupported _) w2 = r3 at h
              cases r3 with
              | halt x1 w3 => simp only [Result.andThen] at h; cases h
              | ok p3 w3 => simp only [Result.andThen, Sem.run_pure] at h; injection h with h1 _; exact ⟨_, h1.symm⟩
            · simp only [Sem.run_pure] at h; injection h with h1 _; exact ⟨_, h1.symm⟩
      · simp only [Sem.run_pure] at h; injection h with h1 _; exact ⟨_, h1.symm⟩
    · simp only [Sem.run_pure] at h; injection h with h1 _; exact ⟨_, h1.symm⟩
  all_goals first
    | (injection h with h1 _; exact ⟨_, h1.symm⟩)
    | exact value_of_andThen h

theorem yieldsIn_unique {o : Oper} {v v' : Value} {a : Act} (hp : plainOp o.op = true) (hne0 : ∃ w, C w) (h : YieldsIn P ops C o v a) (h' : YieldsIn P ops C o v' a) : v = v' := by
  obtain ⟨w, hw⟩ := hne0
  rcases h with ⟨h1, h2⟩ | ⟨h1, h2⟩ <;> rcases h' with ⟨h3, h4⟩ | ⟨h3, h4⟩
  · have h5 := h2 w hw
    have h6 := h4 w hw
    unfold Oper.quietAt at h5 h6
    cases hr : (execOp a.eval o).run P w with
    | ok n w' =>
      obtain ⟨u, rfl⟩ := plain_value hp hr
      rw [hr] at h5 h6
      exact h5.2.symm.trans h6.2
    | halt x w' =>
      rw [hr] at h5
      simp only [Oper.quietUpon] at h5
  · rw [h1] at h3; cases h3
  · rw [h1] at h3; cases h3
  · rw [h2, h4]

theorem lOp_of_yields {i : Nat} {o : Oper} {v : Value} {a : Act} {w : World} (hi : ops[i]? = some o) (hk : kd i = 0) (hy : YieldsIn P ops C o v a) {K : Act → World → Prop} (h : K (a.put o.dst v) w) : lOp P ops C kd i K a w := by
  unfold lOp
  simp only [hi, hk]
  rw [if_neg (show ¬ ((0 : Nat) = 2) by omega), if_neg (show ¬ ((0 : Nat) = 1) by omega)]
  rcases hy with ⟨hw, hv⟩ | ⟨hw, rfl⟩
  · rw [if_pos hw]; exact ⟨v, hv, h⟩
  · rw [if_neg (by rw [hw]; simp)]; exact h
theorem yieldsIn_of_lOp {i : Nat} {o : Oper} {a : Act} {w : World} {K : Act → World → Prop} (hi : ops[i]? = some o) (hk : kd i = 0) (h : lOp P ops C kd i K a w) : ∃ v, YieldsIn P ops C o v a ∧ K (a.put o.dst v) w := by
  unfold lOp at h
  simp only [hi, hk] at h
  rw [if_neg (show ¬ ((0 : Nat) = 2) by omega), if_neg (show ¬ ((0 : Nat) = 1) by omega)] at h
  by_cases hw : Region.wanted o (yielded ops a.tmps) = true
  · rw [if_pos hw] at h
    obtain ⟨v, h1, h2⟩ := h
    exact ⟨v, .inl ⟨hw, h1⟩, h2⟩
  · rw [if_neg hw] at h
    exact ⟨undef, .inr ⟨by simpa using hw, rfl⟩, h⟩

/-- Operation i yields v in every world of the class, or is passed over. -/
def Goes (P : Program) (ops : Array Oper) (C : World → Prop) (kd : Nat → Nat) (i : Nat) (o : Oper) (v : Value) (a : Act) : Prop :=
  (kd i = 0 ∧ YieldsIn P ops C o v a) ∨ (kd i ≠ 2 ∧ Region.wanted o (yielded ops a.tmps) = false ∧ v = undef)
theorem Goes.same {i : Nat} {o : Oper} {v : Value} {a a' : Act} (hy : Goes P ops C kd i o v a) (he : execOp a'.eval o = execOp a.eval o)
    (hw : Region.wanted o (yielded ops a'.tmps) = Region.wanted o (yielded ops a.tmps)) : Goes P ops C kd i o v a' := by
  rcases hy with ⟨hk, hy⟩ | ⟨hk, hy, hv⟩
  · exact .inl ⟨hk, hy.of_same he hw⟩
  · exact .inr ⟨hk, hw.trans hy, hv⟩
theorem lOp_of_goes {i : Nat} {o : Oper} {v : Value} {a : Act} {w : World} (hi : ops[i]? = some o) (hy : Goes P ops C kd i o v a) {K : Act → World → Prop} (h : K (a.put o.dst v) w) : lOp P ops C kd i K a w := by
  rcases hy with ⟨hk, hy⟩ | ⟨hk, hw, rfl⟩
  · exact lOp_of_yields hi hk hy h
  · unfold lOp
    simp only [hi]
    rw [if_neg hk, if_neg (by rw [hw]; simp)]
    exact h

theorem lOp_put {i j : Nat} {oi oj : Oper} {v : Value} (hj : ops[j]? = some oj) (hap : oi.apart ops oj = true)
    (hsi : ∀ cs b, oi.op ≠ .select cs b) (hsj : ∀ cs b, oj.op ≠ .select cs b) {K : Act → World → Prop} {a : Act} {w : World}
    (hy : Goes P ops C kd i oi v a) (h : lOp P ops C kd j K (a.put oi.dst v) w) :
    lOp P ops C kd j (fun a' w' => Goes P ops C kd i oi v a' ∧ K (a'.put oi.dst v) w') a w := by
  obtain ⟨h1, h2, h3⟩ := Oper.apart_spec hap
  have keep : ∀ (a : Act), Goes P ops C kd i oi v a → ∀ u, Goes P ops C kd i oi v (a.put oj.dst u) := fun a hy u =>
    hy.same (execOp_put oi hsi a oj.dst u h3) (wanted_put oi a oj.dst u h3)
  unfold lOp at *
  simp only [hj] at *
  split
  · rename_i hk; rw [if_pos hk] at h; exact h
  · rename_i hk
    rw [if_neg hk, wanted_put oj a oi.dst v h1] at h
    split
    · rename_i hw
      rw [if_pos hw] at h
      split
      · rename_i hk1
        rw [if_pos hk1] at h
        unfold EffOp at *
        rw [execOp_put oj hsj a oi.dst v h1] at h
        exact EffUpon.mono (fun u w' _ hn => ⟨keep a hy u, by rw [← Act.put_comm a v u h2]; exact hn⟩) h
      · rename_i hk1
        rw [if_neg hk1] at h
        obtain ⟨u, hu, hn⟩ := h
        refine ⟨u, fun w hw' => ?_, keep a hy u, by rw [← Act.put_comm a v u h2]; exact hn⟩
        have := hu w hw'
        unfold Oper.quietAt at *
        rwa [execOp_put oj hsj a oi.dst v h1] at this
    · rename_i hw
      rw [if_neg hw] at h
      exact ⟨keep a hy _, by rw [← Act.put_comm a v undef h2]; exact h⟩

theorem not_on {listed : Array Bool} {i : Nat} {oj : Oper} (hi : i ∈ Region.ready md ops listed) (hall : ∀ e ∈ oj.after, Region.binds md e = true → listed.getD e.on false = true) :
    ∀ e ∈ oj.after, Region.binds md e = true → e.on ≠ i := fun e he hb heq => by
  have h1 := getD_up (hall e he hb)
  rw [heq, (mem_ready.1 hi).1] at h1
  cases h1

/-- A quiet operation may be taken first. -/
theorem anyL_quiet {i : Nat} {oi : Oper} {v : Value} (hi : ops[i]? = some oi) (hsel : ∀ (j : Nat) (o : Oper) cs b, ops[j]? = some o → o.op ≠ .select cs b) :
    ∀ (fuel : Nat) (listed : Array Bool) (a : Act) (w : World), Clo md ops listed →
      (∀ j oj, ops[j]? = some oj → j ≠ i → listed.getD j true = false → (∀ e ∈ oj.after, Region.binds md e = true → e.on ≠ i) → oi.apart ops oj = true) →
      (∀ j oj, ops[j]? = some oj → j ≠ i → kd j = 2 → Pre md ops j i) →
      i ∈ Region.ready md ops listed → Goes P ops C kd i oi v a →
      wpAnyL P md ops C kd F fuel (listed.setIfInBounds i true) (a.put oi.dst v) w → wpAnyL P md ops C kd F (fuel + 1) listed a w := by
  intro fuel
  induction fuel with
  | zero =>
    intro listed a w hc hfree htail hr hy H
    refine ⟨fun h => (by rw [h] at hr; cases hr), fun j hj => ?_⟩
    by_cases hji : j = i
    · subst hji; exact lOp_of_goes hi hy H
    · have h2 := H.1 j (ready_mono hj hji)
      obtain ⟨_, oj, hoj, _⟩ := mem_ready.1 hj
      exact absurd hj (Pre.not_ready hc (htail j oj hoj hji h2) hr)
  | succ fuel ih =>
    intro listed a w hc hfree htail hr hy H
    refine ⟨fun h => (by rw [h] at hr; cases hr), fun j hj => ?_⟩
    by_cases hji : j = i
    · subst hji; exact lOp_of_goes hi hy H
    · have h1 := H.2 j (ready_mono hj hji)
      obtain ⟨hjun, oj, hoj, hall⟩ := mem_ready.1 hj
      have h2 := lOp_put hoj (hfree j oj hoj hji hjun (not_on hr hall)) (fun cs b => hsel i oi cs b hi) (fun cs b => hsel j oj cs b hoj) hy h1
      have hfree' : ∀ k ok, ops[k]? = some ok → k ≠ i → (listed.setIfInBounds j true).getD k true = false →
          (∀ e ∈ ok.after, Region.binds md e = true → e.on ≠ i) → oi.apart ops ok = true := fun k ok hk hki hun hno => by
        refine hfree k ok hk hki ?_ hno
        by_cases hjk : j = k
        · subst hjk; exact hjun
        · rw [getD_set_ne true hjk] at hun; exact hun
      refine lOp_mono (fun a' w' _ h3 => ih (listed.setIfInBounds j true) a' w' (hc.set_ hj) hfree' htail (ready_mono hr (Ne.symm hji)) h3.1 ?_) h2
      rw [Array.setIfInBounds_comm _ _ hji]
      exact h3.2

/-- An operation that may add memory may be taken first, if all others of its kind wait for it. -/
theorem anyL_eff {i : Nat} {oi : Oper} (hi : ops[i]? = some oi) (hk : kd i = 1) (hne0 : ∃ w, C w) (hsel : ∀ (j : Nat) (o : Oper) cs b, ops[j]? = some o → o.op ≠ .select cs b)
    (hplain : ∀ j oj, ops[j]? = some oj → kd j = 0 → plainOp oj.op = true) :
    ∀ (fuel : Nat) (listed : Array Bool) (a : Act) (w : World), Clo md ops listed →
      (∀ j oj, ops[j]? = some oj → j ≠ i → listed.getD j true = false → (∀ e ∈ oj.after, Region.binds md e = true → e.on ≠ i) → oi.apart ops oj = true) →
      (∀ j oj, ops[j]? = some oj → j ≠ i → listed.getD j true = false → kd j ≠ 0 → Pre md ops j i) →
      i ∈ Region.ready md ops listed → Region.wanted oi (yielded ops a.tmps) = true →
      EffOp P oi a w (fun v w' => wpAnyL P md ops C kd F fuel (listed.setIfInBounds i true) (a.put oi.dst v) w') → wpAnyL P md ops C kd F (fuel + 1) listed a w := by
  have take : ∀ (fuel : Nat) (listed : Array Bool) (a : Act) (w : World), Region.wanted oi (yielded ops a.tmps) = true →
      EffOp P oi a w (fun v w' => wpAnyL P md ops C kd F fuel (listed.setIfInBounds i true) (a.put oi.dst v) w') →
      lOp P ops C kd i (wpAnyL P md ops C kd F fuel (listed.setIfInBounds i true)) a w := by
    intro fuel listed a w hw H
    unfold lOp
    simp only [hi, hk]
    rw [if_neg (show ¬ ((1 : Nat) = 2) by omega), if_pos hw]
    simp only [if_true]
    exact H
  intro fuel
  induction fuel with
  | zero =>
    intro listed a w hc hfree hpre hr hw H
    refine ⟨fun h => (by rw [h] at hr; cases hr), fun j hj => ?_⟩
    by_cases hji : j = i
    · subst hji; exact take 0 listed a w hw H
    · obtain ⟨v, w', _, H0⟩ := H.some
      have h2 := H0.1 j (ready_mono hj hji)
      obtain ⟨hjun, oj, hoj, _⟩ := mem_ready.1 hj
      exact absurd hj (Pre.not_ready hc (hpre j oj hoj hji hjun (by omega)) hr)
  | succ fuel ih =>
    intro listed a w hc hfree hpre hr hw H
    refine ⟨fun h => (by rw [h] at hr; cases hr), fun j hj => ?_⟩
    by_cases hji : j = i
    · subst hji; exact take (fuel + 1) listed a w hw H
    · obtain ⟨hjun, oj, hoj, hall⟩ := mem_ready.1 hj
      by_cases hk0 : kd j = 0
      · have hap := hfree j oj hoj hji hjun (not_on hr hall)
        obtain ⟨g1, g2, g3⟩ := Oper.apart_spec hap
        have same : ∀ (v u : Value), YieldsIn P ops C oj u (a.put oi.dst v) → YieldsIn P ops C oj u a := fun v u hy =>
          hy.of_same (execOp_put oj (fun cs b => hsel j oj cs b hoj) a oi.dst v g1).symm (wanted_put oj a oi.dst v g1).symm
        obtain ⟨v0, w0', _, H0⟩ := H.some
        obtain ⟨u, hy, _⟩ := yieldsIn_of_lOp hoj hk0 (H0.2 j (ready_mono hj hji))
        have hyu := same v0 u hy
        refine lOp_of_yields hoj hk0 hyu (ih (listed.setIfInBounds j true) (a.put oj.dst u) w (hc.set_ hj) ?_ ?_ (ready_mono hr (Ne.symm hji)) ?_ ?_)
        · intro k ok hkk hki hun hno
          refine hfree k ok hkk hki ?_ hno
          by_cases hjk : j = k
          · subst hjk; exact hjun
          · rw [getD_set_ne true hjk] at hun; exact hun
        · intro k ok hkk hki hun hkn
          refine hpre k ok hkk hki ?_ hkn
          by_cases hjk : j = k
          · subst hjk; exact hjun
          · rw [getD_set_ne true hjk] at hun; exact hun
        · rw [wanted_put oi a oj.dst u g3]; exact hw
        · unfold EffOp at *
          rw [execOp_put oi (fun cs b => hsel i oi cs b hi) a oj.dst u g3]
          refine EffUpon.mono (fun v w' _ hn => ?_) H
          obtain ⟨u', hy', hK⟩ := yieldsIn_of_lOp hoj hk0 (hn.2 j (ready_mono hj hji))
          have : u' = u := yieldsIn_unique (hplain j oj hoj hk0) hne0 (same v u' hy') hyu
          subst this
          rw [← Act.put_comm a v u' g2, ← Array.setIfInBounds_comm _ _ (Ne.symm hji)]
          exact hK
      · exact absurd hj (Pre.not_ready hc (hpre j oj hoj hji hjun hk0) hr)

/-- The walk in the order of the text. -/
def wpLex (P : Program) (ops : Array Oper) (C : World → Prop) (kd : Nat → Nat) (G : Act → World → Prop) : List Oper → Nat → Act → World → Prop
  | [], _, a, w => G a w
  | o :: rest, k, a, w =>
    if Region.wanted o (yielded ops a.tmps) then
      (if kd k = 1 then EffOp P o a w (fun v w' => wpLex P ops C kd G rest (k + 1) (a.put o.dst v) w') else o.quiet P a C (fun a' => wpLex P ops C kd G rest (k + 1) a' w))
    else wpLex P ops C kd G rest (k + 1) (a.put o.dst undef) w

/-- From operation k on the order is forced. -/
def forcedB (md : Region.Mode) (ops : Array Oper) : Nat → Nat → Array Bool → Bool
  | 0, _, listed => (Region.ready md ops listed).isEmpty
  | n + 1, k, listed => (Region.ready md ops listed == [k]) && forcedB md ops n (k + 1) (listed.setIfInBounds k true)

def lexStep (md : Region.Mode) (ops : Array Oper) (kd : Nat → Nat) (B : Array Nat) (k : Nat) (listed : Array Bool) : Bool :=
  (Region.ready md ops listed).contains k && Region.free md ops listed k && (kd k != 2) &&
  (List.range ops.size).all fun j => j == k || ((kd j != 2) && (kd k != 1 || kd j == 0 || listed.getD j true)) || (B.getD j 0).testBit k

def lexFromB (md : Region.Mode) (ops : Array Oper) (kd : Nat → Nat) (B : Array Nat) (t : Nat) : Nat → Nat → Array Bool → Bool
  | 0, k, listed => ((Region.ready md ops listed).all fun i => kd i == 2) && forcedB md ops t k listed
  | fuel + 1, k, listed => lexStep md ops kd B k listed && lexFromB md ops kd B t fuel (k + 1) (listed.setIfInBounds k true)

theorem any_forced {Q : Exit → Act → World → Prop} : ∀ (l : List Oper) (k : Nat) (listed : Array Bool) (a : Act) (w : World), (∀ j, l[j]? = ops[k + j]?) →
    forcedB md ops l.length k listed = true → wpList P ops Q l a w → wpAny P md ops Q l.length listed a w
  | [], _, _, _, _, _, hB, h => ⟨by simpa [forcedB] using hB, h⟩
  | o :: l, k, listed, a, w, hl, hB, h => by
    simp only [List.length_cons, forcedB, Bool.and_eq_true, beq_iff_eq] at hB
    obtain ⟨hr, hB'⟩ := hB
    have h0 : ops[k]? = some o := by simpa using (hl 0).symm
    have hl' : ∀ j, l[j]? = ops[k + 1 + j]? := fun j => by have := hl (j + 1); simpa [Nat.add_assoc, Nat.add_comm 1 j] using this
    refine ⟨fun e => (by rw [hr] at e; cases e), fun i hi => ?_⟩
    rw [hr, List.mem_singleton] at hi
    subst hi
    unfold wpOp
    simp only [h0]
    unfold wpList at h
    split at h
    · rename_i hw
      rw [if_pos hw]
      exact h.imp (Oper.wp_mono fun a' w' h' => any_forced l (i + 1) _ a' w' hl' hB' h') id
    · rename_i hw
      rw [if_neg hw]
      exact any_forced l (i + 1) _ _ w hl' hB' h

theorem anyL_lex {Q : Exit → Act → World → Prop} {B : Array Nat} {tl : List Oper} (hs : Region.noSelect ops = true) (hP : preOk md ops B = true) (hne0 : ∃ w, C w)
    (hplain : ∀ j oj, ops[j]? = some oj → kd j = 0 → plainOp oj.op = true) (hkd : ∀ j, kd j ≤ 2) :
    ∀ (l : List Oper) (k : Nat) (listed : Array Bool) (a : Act) (w : World), (∀ j, (l ++ tl)[j]? = ops[k + j]?) → Clo md ops listed →
    lexFromB md ops kd B tl.length l.length k listed = true → wpLex P ops C kd (fun a w => wpList P ops Q tl a w) l k a w →
    wpAnyL P md ops C kd (fun listed a w => wpAny P md ops Q tl.length listed a w) l.length listed a w
  | [], k, listed, a, w, hl, _, hB, h => by
    simp only [List.length_nil, lexFromB, Bool.and_eq_true, List.all_eq_true, beq_iff_eq] at hB
    exact ⟨hB.1, any_forced tl k listed a w (by simpa using hl) hB.2 h⟩
  | o :: l, k, listed, a, w, hl, hc, hB, h => by
    have h0 : ops[k]? = some o := by simpa using (hl 0).symm
    have hl' : ∀ j, (l ++ tl)[j]? = ops[k + 1 + j]? := fun j => by have := hl (j + 1); simpa [Nat.add_assoc, Nat.add_comm 1 j] using this
    simp only [List.length_cons, lexFromB, lexStep, Bool.and_eq_true, List.all_eq_true, List.mem_range, Bool.or_eq_true, beq_iff_eq, bne_iff_ne] at hB
    obtain ⟨⟨⟨⟨hr, hf⟩, hk2⟩, hall⟩, hB'⟩ := hB
    have hr' : k ∈ Region.ready md ops listed := by simpa using hr
    have hc' := hc.set_ hr'
    have htail : ∀ j oj, ops[j]? = some oj → j ≠ k → kd j = 2 → Pre md ops j k := by
      intro j oj hoj hjk hj2
      have hlt := (Array.getElem?_eq_some_iff.1 hoj).1
      rcases hall j hlt with (h1 | h1) | h1
      · exact absurd h1 hjk
      · exact absurd hj2 h1.1
      · exact pre_of_bit hP j k hlt h1
    by_cases hw : Region.wanted o (yielded ops a.tmps) = true
    · by_cases hk1 : kd k = 1
      · unfold wpLex at h
        rw [if_pos hw, if_pos hk1] at h
        refine anyL_eff h0 hk1 hne0 (Region.noSelect_spec hs) hplain l.length listed a w hc (Region.free_spec h0 hf) ?_ hr' hw ?_
        · intro j oj hoj hjk hun hj0
          have hlt := (Array.getElem?_eq_some_iff.1 hoj).1
          rcases hall j hlt with (h1 | h1) | h1
          · exact absurd h1 hjk
          · rcases h1.2 with (h2 | h2) | h2
            · exact absurd hk1 h2
            · exact absurd h2 hj0
            · rw [hun] at h2; cases h2
          · exact pre_of_bit hP j k hlt h1
        · exact EffUpon.mono (fun v w' _ h' => anyL_lex hs hP hne0 hplain hkd l (k + 1) _ _ w' hl' hc' hB' h') h
      · unfold wpLex at h
        rw [if_pos hw, if_neg hk1] at h
        have hk0 : kd k = 0 := by have := hkd k; omega
        obtain ⟨v, h1, h2⟩ := h
        exact anyL_quiet h0 (Region.noSelect_spec hs) l.length listed a w hc (Region.free_spec h0 hf) htail hr' (.inl ⟨hk0, .inl ⟨hw, h1⟩⟩) (anyL_lex hs hP hne0 hplain hkd l (k + 1) _ _ w hl' hc' hB' h2)
    · unfold wpLex at h
      rw [if_neg hw] at h
      exact anyL_quiet h0 (Region.noSelect_spec hs) l.length listed a w hc (Region.free_spec h0 hf) htail hr' (.inr ⟨hk2, by simpa using hw, rfl⟩) (anyL_lex hs hP hne0 hplain hkd l (k + 1) _ _ w hl' hc' hB' h)

theorem wpOp_of_lOp {Q : Exit → Act → World → Prop} {i : Nat} {a : Act} {w : World} {K K' : Act → World → Prop} (hw0 : C w) (hplain : ∀ j oj, ops[j]? = some oj → kd j = 0 → plainOp oj.op = true) (hkd : ∀ j, kd j ≤ 2)
    (h : ∀ a w', Bel w w' → K a w' → K' a w') (hh : lOp P ops C kd i K a w) : wpOp P ops Q i K' a w := by
  unfold lOp at hh
  unfold wpOp
  cases ho : ops[i]? with
  | none => simp only [ho] at hh; exact h _ _ (Bel.refl _) hh
  | some o =>
    simp only [ho] at hh
    by_cases hk2 : kd i = 2
    · rw [if_pos hk2] at hh; exact hh.elim
    · rw [if_neg hk2] at hh
      by_cases hw : Region.wanted o (yielded ops a.tmps) = true
      · simp only [if_pos hw] at hh ⊢
        refine .inl ?_
        by_cases hk1 : kd i = 1
        · rw [if_pos hk1] at hh
          unfold EffOp at hh
          unfold Oper.wp
          generalize (execOp a.eval o).run P w = r at *
          cases r with
          | ok n w' =>
            cases n <;> simp only [EffUpon] at hh
            case value v => exact h _ _ hh.1 hh.2
            case enter f args =>
              rw [Oper.upon_enter]
              exact Calls.mono hh.2 fun e w'' ⟨v, he, hb, hk⟩ => by subst he; exact h _ _ (hh.1.trans hb) hk
          | halt x w' => simp only [EffUpon] at hh
        · rw [if_neg hk1] at hh
          have hk0 : kd i = 0 := by have := hkd i; omega
          obtain ⟨v, h1, h2⟩ := hh
          have h3 := h1 w hw0
          unfold Oper.quietAt at h3
          unfold Oper.wp
          cases hr : (execOp a.eval o).run P w with
          | ok n w' =>
            obtain ⟨u, rfl⟩ := plain_value (hplain i o ho hk0) hr
            rw [hr] at h3
            obtain ⟨rfl, rfl⟩ := h3
            exact h _ _ (Bel.refl _) h2
          | halt x w' =>
            rw [hr] at h3
            simp only [Oper.quietUpon] at h3
      · simp only [if_neg hw] at hh ⊢
        exact h _ _ (Bel.refl _) hh

theorem any_of_L {Q : Exit → Act → World → Prop} {t : Nat} (hC : ∀ w w', C w → Bel w w' → C w') (hplain : ∀ j oj, ops[j]? = some oj → kd j = 0 → plainOp oj.op = true) (hkd : ∀ j, kd j ≤ 2) :
    ∀ (fuel : Nat) (listed : Array Bool) (a : Act) (w : World), C w → wpAnyL P md ops C kd (fun listed a w => wpAny P md ops Q t listed a w) fuel listed a w → wpAny P md ops Q (fuel + t) listed a w
  | 0, _, _, _, _, h => by rw [Nat.zero_add]; exact h.2
  | fuel + 1, listed, a, w, hw, h => by
    rw [show fuel + 1 + t = fuel + t + 1 by omega]
    exact ⟨fun e => absurd e h.1, fun i hi => wpOp_of_lOp hw hplain hkd (fun a' w' hb h' => any_of_L hC hplain hkd fuel _ a' w' (hC w w' hw hb) h') (h.2 i hi)⟩

/-- Which kind: from n on the forced tail; the operations E may add memory; the others are quiet. -/
def kindOf (E : List Nat) (n i : Nat) : Nat := if n ≤ i then 2 else if E.contains i then 1 else 0
def lexAll (E : List Nat) (n : Nat) (ops : Array Oper) : Bool :=
  Region.noSelect ops && preOk .any ops (Region.before ops) && ((List.range ops.size).all fun j => match ops[j]? with
    | some o => kindOf E n j != 0 || plainOp o.op
    | none => true) && lexFromB .any ops (kindOf E n) (Region.before ops) (ops.size - n) n 0 (Array.replicate ops.size false) && decide (n ≤ ops.size)

theorem kindOf_le (E : List Nat) (n i : Nat) : kindOf E n i ≤ 2 := by unfold kindOf; split <;> (try split) <;> omega

/-- ONE WALK IN THE ORDER OF THE TEXT SERVES EVERY ORDER. -/
theorem wp_region_lex {id : Nat} {Q : Exit → Act → World → Prop} {a : Act} {w : World} {l : List Oper} (E : List Nat) (n : Nat) (hm : P.follows .mixedOrders = true) (hB : lexAll E n l.toArray = true)
    (h : wpLex P l.toArray (fun w' => ∃ p : Regrown, w' = grow (redrawn w p.d) p.os) (kindOf E n) (fun a w => wpList P l.toArray Q (l.drop n) a w) (l.take n) 0 a w.drew) :
    (Code.region id l.toArray true).wp P Q a w := by
  simp only [lexAll, Bool.and_eq_true, decide_eq_true_eq] at hB
  obtain ⟨⟨⟨⟨hs, hP⟩, hpl⟩, hL⟩, hn⟩ := hB
  have hn' : n ≤ l.length := by simpa using hn
  have hplain : ∀ j oj, l.toArray[j]? = some oj → kindOf E n j = 0 → plainOp oj.op = true := by
    intro j oj hoj hk
    have hlt := (Array.getElem?_eq_some_iff.1 hoj).1
    have h1 := List.all_eq_true.1 hpl j (by simpa using hlt)
    simp only [hoj, hk, bne_self_eq_false, Bool.false_or] at h1
    exact h1
  have hC0 : (fun w' => ∃ p : Regrown, w' = grow (redrawn w p.d) p.os) w.drew := regrown_of_below (w := w) (Bel.drew (Bel.refl w))
  have hC : ∀ w1 w2, (fun w' => ∃ p : Regrown, w' = grow (redrawn w p.d) p.os) w1 → Bel w1 w2 → (fun w' => ∃ p : Regrown, w' = grow (redrawn w p.d) p.os) w2 := by
    rintro w1 w2 ⟨p, rfl⟩ hb
    exact regrown_of_below (w := w) (Bel.trans (a := w) (below_regrown _ _ _) hb)
  have hlen : (l.take n).length = n := by simp; omega
  have hlen2 : (l.drop n).length = l.toArray.size - n := by simp
  refine wp_region_any hm ?_
  have h1 := anyL_lex (P := P) (Q := Q) (md := .any) (kd := kindOf E n) (tl := l.drop n) (C := fun w' => ∃ p : Regrown, w' = grow (redrawn w p.d) p.os) hs hP ⟨_, hC0⟩ hplain (kindOf_le E n) (l.take n) 0 (Array.replicate l.toArray.size false) a w.drew
    (fun j => by rw [List.take_append_drop]; simp) Clo.start (by rw [hlen, hlen2]; exact hL) h
  have h2 := any_of_L hC hplain (kindOf_le E n) _ _ _ _ hC0 h1
  rw [show (l.take n).length + (l.drop n).length = l.toArray.size by simp; omega] at h2
  exact h2

/-- A stretch of quiet operations. -/
theorem lex_seg {G : Act → World → Prop} : ∀ (m : Nat) (l : List Oper) (k : Nat) (a : Act) (w : World), ((List.range m).all fun i => kd (k + i) != 1) = true →
    wpQuiet P ops C (fun a' => wpLex P ops C kd G (l.drop m) (k + m) a' w) (l.take m) a → wpLex P ops C kd G l k a w
  | 0, l, k, a, w, _, h => by simpa [wpQuiet] using h
  | m + 1, [], k, a, w, _, h => by simpa [wpQuiet, wpLex] using h
  | m + 1, o :: l, k, a, w, hk, h => by
    rw [List.all_eq_true] at hk
    have hk0 : kd k ≠ 1 := by simpa using hk 0 (by simp)
    have hk' : ((List.range m).all fun i => kd (k + 1 + i) != 1) = true := by
      rw [List.all_eq_true]
      intro i hi
      have := hk (i + 1) (by simpa using hi)
      rwa [show k + (i + 1) = k + 1 + i by omega] at this
    rw [List.take_succ_cons, List.drop_succ_cons] at h
    rw [show k + (m + 1) = k + 1 + m by omega] at h
    unfold wpQuiet at h
    unfold wpLex
    split
    · rename_i hw
      rw [if_pos hw] at h
      exact Oper.quiet_mono (fun a' h' => lex_seg m l (k + 1) a' w hk' h') h
    · rename_i hw
      rw [if_neg hw] at h
      exact lex_seg m l (k + 1) _ w hk' h

/-- A call whose contract ends in 'Bel'. -/
theorem lex_call {G : Act → World → Prop} {o : Oper} {rest : List Oper} {k : Nat} {a : Act} {w : World} (f : FuncId) {args : Array Value} (hk : kd k = 1) (hw : Region.wanted o (yielded ops a.tmps) = true)
    (hr : (execOp a.eval o).run P w = .ok (.enter f args) w) (h : Calls P f args w (fun e w' => ∃ v, e = .returned v ∧ Bel w w' ∧ wpLex P ops C kd G rest (k + 1) (a.put o.dst v) w')) :
    wpLex P ops C kd G (o :: rest) k a w := by
  unfold wpLex
  rw [if_pos hw, if_pos hk]
  unfold EffOp
  rw [hr]
  exact ⟨Bel.refl _, h⟩
/-- An operation that adds memory. -/
theorem lex_made {G : Act → World → Prop} {o : Oper} {rest : List Oper} {k : Nat} {a : Act} {w w' : World} {v : Value} (hk : kd k = 1) (hw : Region.wanted o (yielded ops a.tmps) = true)
    (hr : (execOp a.eval o).run P w = .ok (.value v) w') (hb : Bel w w') (h : wpLex P ops C kd G rest (k + 1) (a.put o.dst v) w') :
    wpLex P ops C kd G (o :: rest) k a w := by
  unfold wpLex
  rw [if_pos hw, if_pos hk]
  unfold EffOp
  rw [hr]
  exact ⟨hb, h⟩
/-- An operation that is passed over. -/
theorem lex_skip {G : Act → World → Prop} {o : Oper} {rest : List Oper} {k : Nat} {a : Act} {w : World} (hw : Region.wanted o (yielded ops a.tmps) = false)
    (h : wpLex P ops C kd G rest (k + 1) (a.put o.dst undef) w) : wpLex P ops C kd G (o :: rest) k a w := by
  unfold wpLex
  rw [if_neg (by rw [hw]; simp)]
  exact h
theorem lex_nil {G : Act → World → Prop} {k : Nat} {a : Act} {w : World} (h : G a w) : wpLex P ops C kd G [] k a w := h
end
end Go.Proofs.YtpgjbocjhconoaaGreat

/- A region that draws its order: quiet operations are taken as soon as they can be; where only operations are ready that add memory (calls, new blocks), the walk goes on with each of them. -/
namespace Go.Proofs.YtpgjbocjhconoaaGreat
open Go.RowKit Go.Sort

section
variable {P : Program} {ops : Array Oper} {md : Region.Mode} {C : World → Prop}

def EffUpon2 (P : Program) (C : World → Prop) (K : Value → World → Prop) : Result Next → Prop
  | .ok (.value v) w' => C w' ∧ K v w'
  | .ok .skip w' => C w' ∧ K undef w'
  | .ok (.enter f args) w' => C w' ∧ Calls P f args w' (fun e w'' => ∃ v, e = .returned v ∧ C w'' ∧ K v w'')
  | _ => False
def EffOp2 (P : Program) (C : World → Prop) (o : Oper) (a : Act) (w : World) (K : Value → World → Prop) : Prop := EffUpon2 P C K ((execOp a.eval o).run P w)

theorem EffUpon2.mono {K K' : Value → World → Prop} {r : Result Next} (h : ∀ v w', C w' → K v w' → K' v w') (hh : EffUpon2 P C K r) : EffUpon2 P C K' r := by
  cases r with
  | ok n w' =>
    cases n <;> simp only [EffUpon2] at hh ⊢
    case value v => exact ⟨hh.1, h _ _ hh.1 hh.2⟩
    case skip => exact ⟨hh.1, h _ _ hh.1 hh.2⟩
    case enter f args => exact ⟨hh.1, Calls.mono hh.2 fun e w'' ⟨v, he, hb, hk⟩ => ⟨v, he, hb, h _ _ hb hk⟩⟩
  | halt x w' => simp only [EffUpon2] at hh

def lOp2 (P : Program) (ops : Array Oper) (C : World → Prop) (kd : Nat → Nat) (i : Nat) (K : Act → World → Prop) (a : Act) (w : World) : Prop :=
  match ops[i]? with
  | none => K a w
  | some o =>
    if kd i = 2 then False else
    if Region.wanted o (yielded ops a.tmps) then (if kd i = 1 then EffOp2 P C o a w (fun v w' => K (a.put o.dst v) w') else o.quiet P a C (fun a' => K a' w))
    else K (a.put o.dst undef) w

def wpAnyL2 (P : Program) (md : Region.Mode) (ops : Array Oper) (C : World → Prop) (kd : Nat → Nat) (F : Array Bool → Act → World → Prop) : Nat → Array Bool → Act → World → Prop
  | 0, listed, a, w => (∀ i ∈ Region.ready md ops listed, kd i = 2) ∧ F listed a w
  | fuel + 1, listed, a, w =>
    Region.ready md ops listed ≠ [] ∧
    ∀ i ∈ Region.ready md ops listed, lOp2 P ops C kd i (wpAnyL2 P md ops C kd F fuel (listed.setIfInBounds i true)) a w

variable {kd : Nat → Nat} {F : Array Bool → Act → World → Prop}

theorem lOp2_mono {i : Nat} {a : Act} {w : World} {K K' : Act → World → Prop} (hw : C w) (h : ∀ a w', C w' → K a w' → K' a w') (hh : lOp2 P ops C kd i K a w) : lOp2 P ops C kd i K' a w := by
  unfold lOp2 at *
  split
  · exact h _ _ hw (by simpa [*] using hh)
  · rename_i o ho
    simp only [ho] at hh
    split
    · rename_i h2; simp only [h2, if_true] at hh
    · rename_i h2
      simp only [h2, if_false] at hh
      split
      · rename_i hwt
        simp only [hwt, if_true] at hh
        split
        · rename_i h1; simp only [h1, if_true] at hh; exact EffUpon2.mono (fun v w' hb hk => h _ _ hb hk) hh
        · rename_i h1; simp only [h1, if_false] at hh; exact Oper.quiet_mono (fun a' hk => h _ _ hw hk) hh
      · rename_i hwt; simp only [hwt] at hh; exact h _ _ hw hh

theorem lOp2_of_goes {i : Nat} {o : Oper} {v : Value} {a : Act} {w : World} (hi : ops[i]? = some o) (hy : Goes P ops C kd i o v a) {K : Act → World → Prop} (h : K (a.put o.dst v) w) : lOp2 P ops C kd i K a w := by
  rcases hy with ⟨hk, hy⟩ | ⟨hk, hw, rfl⟩
  · unfold lOp2
    simp only [hi, hk]
    rw [if_neg (show ¬ ((0 : Nat) = 2) by omega), if_neg (show ¬ ((0 : Nat) = 1) by omega)]
    rcases hy with ⟨hw, hv⟩ | ⟨hw, rfl⟩
    · rw [if_pos hw]; exact ⟨v, hv, h⟩
    · rw [if_neg (by rw [hw]; simp)]; exact h
  · unfold lOp2
    simp only [hi]
    rw [if_neg hk, if_neg (by rw [hw]; simp)]
    exact h

theorem lOp2_put {i j : Nat} {oi oj : Oper} {v : Value} (hj : ops[j]? = some oj) (hap : oi.apart ops oj = true)
    (hsi : ∀ cs b, oi.op ≠ .select cs b) (hsj : ∀ cs b, oj.op ≠ .select cs b) {K : Act → World → Prop} {a : Act} {w : World}
    (hy : Goes P ops C kd i oi v a) (h : lOp2 P ops C kd j K (a.put oi.dst v) w) :
    lOp2 P ops C kd j (fun a' w' => Goes P ops C kd i oi v a' ∧ K (a'.put oi.dst v) w') a w := by
  obtain ⟨h1, h2, h3⟩ := Oper.apart_spec hap
  have keep : ∀ (a : Act), Goes P ops C kd i oi v a → ∀ u, Goes P ops C kd i oi v (a.put oj.dst u) := fun a hy u =>
    hy.same (execOp_put oi hsi a oj.dst u h3) (wanted_put oi a oj.dst u h3)
  unfold lOp2 at *
  simp only [hj] at *
  split
  · rename_i hk; rw [if_pos hk] at h; exact h
  · rename_i hk
    rw [if_neg hk, wanted_put oj a oi.dst v h1] at h
    split
    · rename_i hw
      rw [if_pos hw] at h
      split
      · rename_i hk1
        rw [if_pos hk1] at h
        unfold EffOp2 at *
        rw [execOp_put oj hsj a oi.dst v h1] at h
        exact EffUpon2.mono (fun u w' _ hn => ⟨keep a hy u, by rw [← Act.put_comm a v u h2]; exact hn⟩) h
      · rename_i hk1
        rw [if_neg hk1] at h
        obtain ⟨u, hu, hn⟩ := h
        refine ⟨u, fun w hw' => ?_, keep a hy u, by rw [← Act.put_comm a v u h2]; exact hn⟩
        have := hu w hw'
        unfold Oper.quietAt at *
        rwa [execOp_put oj hsj a oi.dst v h1] at this
    · rename_i hw
      rw [if_neg hw] at h
      exact ⟨keep a hy _, by rw [← Act.put_comm a v undef h2]; exact h⟩

/-- A quiet operation may be taken first. -/
theorem anyL2_quiet {i : Nat} {oi : Oper} {v : Value} (hi : ops[i]? = some oi) (hsel : ∀ (j : Nat) (o : Oper) cs b, ops[j]? = some o → o.op ≠ .select cs b) :
    ∀ (fuel : Nat) (listed : Array Bool) (a : Act) (w : World), C w → Clo md ops listed →
      (∀ j oj, ops[j]? = some oj → j ≠ i → listed.getD j true = false → (∀ e ∈ oj.after, Region.binds md e = true → e.on ≠ i) → oi.apart ops oj = true) →
      (∀ j oj, ops[j]? = some oj → j ≠ i → kd j = 2 → Pre md ops j i) →
      i ∈ Region.ready md ops listed → Goes P ops C kd i oi v a →
      wpAnyL2 P md ops C kd F fuel (listed.setIfInBounds i true) (a.put oi.dst v) w → wpAnyL2 P md ops C kd F (fuel + 1) listed a w := by
  intro fuel
  induction fuel with
  | zero =>
    intro listed a w _ hc hfree htail hr hy H
    refine ⟨fun h => (by rw [h] at hr; cases hr), fun j hj => ?_⟩
    by_cases hji : j = i
    · subst hji; exact lOp2_of_goes hi hy H
    · have h2 := H.1 j (ready_mono hj hji)
      obtain ⟨_, oj, hoj, _⟩ := mem_ready.1 hj
      exact absurd hj (Pre.not_ready hc (htail j oj hoj hji h2) hr)
  | succ fuel ih =>
    intro listed a w hw hc hfree htail hr hy H
    refine ⟨fun h => (by rw [h] at hr; cases hr), fun j hj => ?_⟩
    by_cases hji : j = i
    · subst hji; exact lOp2_of_goes hi hy H
    · have h1 := H.2 j (ready_mono hj hji)
      obtain ⟨hjun, oj, hoj, hall⟩ := mem_ready.1 hj
      have h2 := lOp2_put hoj (hfree j oj hoj hji hjun (not_on hr hall)) (fun cs b => hsel i oi cs b hi) (fun cs b => hsel j oj cs b hoj) hy h1
      have hfree' : ∀ k ok, ops[k]? = some ok → k ≠ i → (listed.setIfInBounds j true).getD k true = false →
          (∀ e ∈ ok.after, Region.binds md e = true → e.on ≠ i) → oi.apart ops ok = true := fun k ok hk hki hun hno => by
        refine hfree k ok hk hki ?_ hno
        by_cases hjk : j = k
        · subst hjk; exact hjun
        · rw [getD_set_ne true hjk] at hun; exact hun
      refine lOp2_mono hw (fun a' w' hw' h3 => ih (listed.setIfInBounds j true) a' w' hw' (hc.set_ hj) hfree' htail (ready_mono hr (Ne.symm hji)) h3.1 ?_) h2
      rw [Array.setIfInBounds_comm _ _ hji]
      exact h3.2

theorem wpOp_of_lOp2 {Q : Exit → Act → World → Prop} {i : Nat} {a : Act} {w : World} {K K' : Act → World → Prop} (hw0 : C w) (hplain : ∀ j oj, ops[j]? = some oj → kd j = 0 → plainOp oj.op = true) (hkd : ∀ j, kd j ≤ 2)
    (h : ∀ a w', C w' → K a w' → K' a w') (hh : lOp2 P ops C kd i K a w) : wpOp P ops Q i K' a w := by
  unfold lOp2 at hh
  unfold wpOp
  cases ho : ops[i]? with
  | none => simp only [ho] at hh; exact h _ _ hw0 hh
  | some o =>
    simp only [ho] at hh
    by_cases hk2 : kd i = 2
    · rw [if_pos hk2] at hh; exact hh.elim
    · rw [if_neg hk2] at hh
      by_cases hw : Region.wanted o (yielded ops a.tmps) = true
      · simp only [if_pos hw] at hh ⊢
        refine .inl ?_
        by_cases hk1 : kd i = 1
        · rw [if_pos hk1] at hh
          unfold EffOp2 at hh
          unfold Oper.wp
          generalize (execOp a.eval o).run P w = r at *
          cases r with
          | ok n w' =>
            cases n <;> simp only [EffUpon2] at hh
            case value v => exact h _ _ hh.1 hh.2
            case skip => exact h _ _ hh.1 hh.2
            case enter f args =>
              rw [Oper.upon_enter]
              exact Calls.mono hh.2 fun e w'' ⟨v, he, hb, hk⟩ => by subst he; exact h _ _ hb hk
          | halt x w' => simp only [EffUpon2] at hh
        · rw [if_neg hk1] at hh
          have hk0 : kd i = 0 := by have := hkd i; omega
          obtain ⟨v, h1, h2⟩ := hh
          have h3 := h1 w hw0
          unfold Oper.quietAt at h3
          unfold Oper.wp
          cases hr : (execOp a.eval o).run P w with
          | ok n w' =>
            obtain ⟨u, rfl⟩ := plain_value (hplain i o ho hk0) hr
            rw [hr] at h3
            obtain ⟨rfl, rfl⟩ := h3
            exact h _ _ hw0 h2
          | halt x w' =>
            rw [hr] at h3
            simp only [Oper.quietUpon] at h3
      · simp only [if_neg hw] at hh ⊢
        exact h _ _ hw0 hh

theorem any_of_L2 {Q : Exit → Act → World → Prop} {t : Nat} (hplain : ∀ j oj, ops[j]? = some oj → kd j = 0 → plainOp oj.op = true) (hkd : ∀ j, kd j ≤ 2) :
    ∀ (fuel : Nat) (listed : Array Bool) (a : Act) (w : World), C w → wpAnyL2 P md ops C kd (fun listed a w => wpAny P md ops Q t listed a w) fuel listed a w → wpAny P md ops Q (fuel + t) listed a w
  | 0, _, _, _, _, h => by rw [Nat.zero_add]; exact h.2
  | fuel + 1, listed, a, w, hw, h => by
    rw [show fuel + 1 + t = fuel + t + 1 by omega]
    exact ⟨fun e => absurd e h.1, fun i hi => wpOp_of_lOp2 hw hplain hkd (fun a' w' hb h' => any_of_L2 hplain hkd fuel _ a' w' hb h') (h.2 i hi)⟩

/-- What has come up. -/
def listedOf (n : Nat) (dn : List Nat) : Array Bool := dn.foldl (fun l i => l.setIfInBounds i true) (Array.replicate n false)
theorem listedOf_snoc (n : Nat) (dn : List Nat) (i : Nat) : listedOf n (dn ++ [i]) = (listedOf n dn).setIfInBounds i true := by simp [listedOf]

/-- The state of the walk: dn has come up; m operations are ahead of the forced tail. -/
def wpSt (P : Program) (ops : Array Oper) (C : World → Prop) (E : List Nat) (m : Nat) (Q : Exit → Act → World → Prop) (dn : List Nat) (a : Act) (w : World) : Prop :=
  C w → Clo .any ops (listedOf ops.size dn) → wpAnyL2 P .any ops C (kindOf E m) (fun listed a w => wpAny P .any ops Q (ops.size - m) listed a w) (m - dn.length) (listedOf ops.size dn) a w

def quietB (ops : Array Oper) (E : List Nat) (m : Nat) (dn : List Nat) (i : Nat) : Bool :=
  (Region.ready .any ops (listedOf ops.size dn)).contains i && Region.free .any ops (listedOf ops.size dn) i && (kindOf E m i == 0) && decide (dn.length < m) &&
  (List.range ops.size).all fun j => j == i || (kindOf E m j != 2) || ((Region.before ops).getD j 0).testBit i
def segB (ops : Array Oper) (E : List Nat) (m : Nat) : List Nat → List Nat → Bool
  | _, [] => true
  | dn, i :: is => quietB ops E m dn i && segB ops E m (dn ++ [i]) is
def baseB (ops : Array Oper) (E : List Nat) (m : Nat) : Bool :=
  Region.noSelect ops && preOk .any ops (Region.before ops) && ((List.range ops.size).all fun j => match ops[j]? with
    | some o => kindOf E m j != 0 || plainOp o.op
    | none => true) && decide (m ≤ ops.size)

theorem st_seg {E : List Nat} {m : Nat} {Q : Exit → Act → World → Prop} {w : World} (hB : baseB ops E m = true) : ∀ (is dn : List Nat) (a : Act), segB ops E m dn is = true →
    wpQuiet P ops C (fun a' => wpSt P ops C E m Q (dn ++ is) a' w) (is.filterMap (ops[·]?)) a → wpSt P ops C E m Q dn a w
  | [], dn, a, _, h => by simpa [wpQuiet] using h
  | i :: is, dn, a, hs, h => by
    simp only [baseB, Bool.and_eq_true] at hB
    have hB0 : baseB ops E m = true := by simp only [baseB, Bool.and_eq_true]; exact hB
    obtain ⟨⟨⟨hsel, hP⟩, _⟩, _⟩ := hB
    simp only [segB, quietB, Bool.and_eq_true, beq_iff_eq, decide_eq_true_eq, List.all_eq_true, List.mem_range, Bool.or_eq_true, bne_iff_ne] at hs
    obtain ⟨⟨⟨⟨⟨hr, hf⟩, hk⟩, hlen⟩, hall⟩, hs'⟩ := hs
    have hr' : i ∈ Region.ready .any ops (listedOf ops.size dn) := by simpa using hr
    obtain ⟨_, o, ho, _⟩ := mem_ready.1 hr'
    rw [List.filterMap_cons_some ho] at h
    intro hw hc
    have htail : ∀ j oj, ops[j]? = some oj → j ≠ i → kindOf E m j = 2 → Pre .any ops j i := by
      intro j oj hoj hjk hj2
      have hlt := (Array.getElem?_eq_some_iff.1 hoj).1
      rcases hall j hlt with (h1 | h1) | h1
      · exact absurd h1 hjk
      · exact absurd hj2 h1
      · exact pre_of_bit hP j i hlt h1
    rw [show m - dn.length = (m - (dn ++ [i]).length) + 1 by simp; omega]
    have next : ∀ a', wpQuiet P ops C (fun a' => wpSt P ops C E m Q (dn ++ i :: is) a' w) (is.filterMap (ops[·]?)) a' →
        wpAnyL2 P .any ops C (kindOf E m) (fun listed a w => wpAny P .any ops Q (ops.size - m) listed a w) (m - (dn ++ [i]).length) ((listedOf ops.size dn).setIfInBounds i true) a' w := by
      intro a' h'
      rw [← listedOf_snoc]
      refine st_seg hB0 is (dn ++ [i]) a' hs' ?_ hw (by rw [listedOf_snoc]; exact hc.set_ hr')
      simpa using h'
    unfold wpQuiet at h
    split at h
    · rename_i hwt
      obtain ⟨v, h1, h2⟩ := h
      exact anyL2_quiet ho (Region.noSelect_spec hsel) _ _ a w hw hc (Region.free_spec ho hf) htail hr' (.inl ⟨hk, .inl ⟨hwt, h1⟩⟩) (next _ h2)
    · rename_i hwt
      exact anyL2_quiet ho (Region.noSelect_spec hsel) _ _ a w hw hc (Region.free_spec ho hf) htail hr' (.inr ⟨by omega, by simpa using hwt, rfl⟩) (next _ h)

/-- One operation that may add memory. -/
def wpEff (P : Program) (ops : Array Oper) (C : World → Prop) (E : List Nat) (m : Nat) (Q : Exit → Act → World → Prop) (dn : List Nat) (j : Nat) (o : Oper) (a : Act) (w : World) : Prop :=
  if Region.wanted o (yielded ops a.tmps) then EffOp2 P C o a w (fun v w' => wpSt P ops C E m Q (dn ++ [j]) (a.put o.dst v) w') else wpSt P ops C E m Q (dn ++ [j]) (a.put o.dst undef) w

def branchB (ops : Array Oper) (E : List Nat) (m : Nat) (dn js : List Nat) : Bool :=
  (Region.ready .any ops (listedOf ops.size dn) == js) && (js.all fun j => kindOf E m j == 1) && decide (dn.length < m) && !js.isEmpty
theorem st_branch {E : List Nat} {m : Nat} {Q : Exit → Act → World → Prop} {dn : List Nat} {a : Act} {w : World} (js : List Nat) (hb : branchB ops E m dn js = true)
    (h : ∀ j ∈ js, ∀ o, ops[j]? = some o → wpEff P ops C E m Q dn j o a w) : wpSt P ops C E m Q dn a w := by
  simp only [branchB, Bool.and_eq_true, beq_iff_eq, decide_eq_true_eq, List.all_eq_true] at hb
  obtain ⟨⟨⟨hr, hk⟩, hlen⟩, hne⟩ := hb
  intro hw hc
  rw [show m - dn.length = (m - (dn.length + 1)) + 1 by omega]
  refine ⟨by rw [hr]; intro e; rw [e] at hne; simp at hne, fun i hi => ?_⟩
  have hi' : i ∈ js := by rw [← hr]; exact hi
  obtain ⟨_, o, ho, _⟩ := mem_ready.1 hi
  have h1 := h i hi' o ho
  have hcl := hc.set_ hi
  rw [← listedOf_snoc] at hcl
  unfold lOp2
  simp only [ho, hk i hi']
  rw [if_neg (show ¬ ((1 : Nat) = 2) by omega)]
  unfold wpEff at h1
  have conv : ∀ a' w', C w' → wpSt P ops C E m Q (dn ++ [i]) a' w' → wpAnyL2 P .any ops C (kindOf E m) (fun listed a w => wpAny P .any ops Q (ops.size - m) listed a w) (m - (dn.length + 1)) ((listedOf ops.size dn).setIfInBounds i true) a' w' := by
    intro a' w' hw' h'
    have := h' hw' hcl
    rw [listedOf_snoc] at this
    simpa using this
  split
  · rename_i hwt
    rw [if_pos hwt] at h1
    simp only [if_true]
    exact EffUpon2.mono (fun v w' hw' h' => conv _ _ hw' h') h1
  · rename_i hwt
    rw [if_neg hwt] at h1
    exact conv _ _ hw h1

def endB (ops : Array Oper) (E : List Nat) (m : Nat) (dn : List Nat) : Bool :=
  decide (dn.length = m) && ((Region.ready .any ops (listedOf ops.size dn)).all fun i => kindOf E m i == 2) && forcedB .any ops (ops.size - m) m (listedOf ops.size dn)
end

section
variable {P : Program} {C : World → Prop}
/-- The operations at some indices. -/
def picked (l : List Oper) : List Nat → List Oper
  | [] => []
  | i :: is => (l[i]?).toList ++ picked l is
theorem picked_eq (l : List Oper) : ∀ is : List Nat, is.filterMap (l.toArray[·]?) = picked l is
  | [] => rfl
  | i :: is => by
    unfold picked
    rw [← picked_eq l is]
    cases h : l[i]? <;> simp [h]
theorem st_sel {l : List Oper} {E : List Nat} {m : Nat} {Q : Exit → Act → World → Prop} {w : World} {dn : List Nat} {a : Act} (is : List Nat) (hB : baseB l.toArray E m = true) (hs : segB l.toArray E m dn is = true)
    (h : wpQuiet P l.toArray C (fun a' => wpSt P l.toArray C E m Q (dn ++ is) a' w) (picked l is) a) : wpSt P l.toArray C E m Q dn a w :=
  st_seg hB is dn a hs (by rw [picked_eq]; exact h)

theorem st_end {l : List Oper} {E : List Nat} {m : Nat} {Q : Exit → Act → World → Prop} {dn : List Nat} {a : Act} {w : World} (hb : endB l.toArray E m dn = true) (h : wpList P l.toArray Q (l.drop m) a w) : wpSt P l.toArray C E m Q dn a w := by
  simp only [endB, Bool.and_eq_true, decide_eq_true_eq, List.all_eq_true, beq_iff_eq] at hb
  obtain ⟨⟨hlen, hr⟩, hf⟩ := hb
  intro hw hc
  rw [hlen, Nat.sub_self]
  refine ⟨hr, ?_⟩
  have hl : (l.drop m).length = l.toArray.size - m := by simp
  have := any_forced (P := P) (ops := l.toArray) (md := .any) (Q := Q) (l.drop m) m (listedOf l.toArray.size dn) a w (fun j => by simp [List.getElem?_drop]) (by rw [hl]; exact hf) h
  rwa [hl] at this

/-- THE REGION. -/
theorem wp_region_st {id : Nat} {Q : Exit → Act → World → Prop} {a : Act} {w : World} {l : List Oper} (E : List Nat) (m : Nat) (hm : P.follows .mixedOrders = true) (hB : baseB l.toArray E m = true)
    (h : wpSt P l.toArray (fun w' => ∃ p : Regrown, w' = grow (redrawn w p.d) p.os) E m Q [] a w.drew) : (Code.region id l.toArray true).wp P Q a w := by
  simp only [baseB, Bool.and_eq_true, decide_eq_true_eq] at hB
  obtain ⟨⟨⟨hs, hP⟩, hpl⟩, hn⟩ := hB
  have hplain : ∀ j oj, l.toArray[j]? = some oj → kindOf E m j = 0 → plainOp oj.op = true := by
    intro j oj hoj hk
    have hlt := (Array.getElem?_eq_some_iff.1 hoj).1
    have h1 := List.all_eq_true.1 hpl j (by simpa using hlt)
    simp only [hoj, hk, bne_self_eq_false, Bool.false_or] at h1
    exact h1
  have hC0 : (fun w' => ∃ p : Regrown, w' = grow (redrawn w p.d) p.os) w.drew := regrown_of_below (w := w) (Bel.drew (Bel.refl w))
  refine wp_region_any hm ?_
  have h1 := h hC0 Clo.start
  have h2 := any_of_L2 (P := P) (md := .any) (t := l.toArray.size - m) hplain (kindOf_le E m) _ _ _ _ hC0 h1
  rw [show m - ([] : List Nat).length + (l.toArray.size - m) = l.toArray.size by simp at hn ⊢; omega] at h2
  exact h2

theorem cls_of {w0 w : World} (h : Bel w0 w) : (fun w' => ∃ p : Regrown, w' = grow (redrawn w0 p.d) p.os) w := regrown_of_below h

variable {ops : Array Oper} {E : List Nat} {m : Nat} {Q : Exit → Act → World → Prop} {dn : List Nat} {j : Nat} {o : Oper} {a : Act} {w w0 : World}
theorem eff_call (f : FuncId) {args : Array Value} (hw : Region.wanted o (yielded ops a.tmps) = true) (hr : (execOp a.eval o).run P w = .ok (.enter f args) w) (hb0 : Bel w0 w)
    (h : Calls P f args w (fun e w' => ∃ v, e = .returned v ∧ Bel w w' ∧ wpSt P ops (fun w' => ∃ p : Regrown, w' = grow (redrawn w0 p.d) p.os) E m Q (dn ++ [j]) (a.put o.dst v) w')) :
    wpEff P ops (fun w' => ∃ p : Regrown, w' = grow (redrawn w0 p.d) p.os) E m Q dn j o a w := by
  unfold wpEff
  rw [if_pos hw]
  unfold EffOp2
  rw [hr]
  exact ⟨cls_of hb0, h.mono fun e w' ⟨v, he, hb, hk⟩ => ⟨v, he, cls_of (hb0.trans hb), hk⟩⟩
theorem eff_made {v : Value} {w' : World} (hw : Region.wanted o (yielded ops a.tmps) = true) (hr : (execOp a.eval o).run P w = .ok (.value v) w') (hb : Bel w0 w')
    (h : wpSt P ops (fun w' => ∃ p : Regrown, w' = grow (redrawn w0 p.d) p.os) E m Q (dn ++ [j]) (a.put o.dst v) w') : wpEff P ops (fun w' => ∃ p : Regrown, w' = grow (redrawn w0 p.d) p.os) E m Q dn j o a w := by
  unfold wpEff
  rw [if_pos hw]
  unfold EffOp2
  rw [hr]
  exact ⟨cls_of hb, h⟩
theorem eff_done {w' : World} (hw : Region.wanted o (yielded ops a.tmps) = true) (hr : (execOp a.eval o).run P w = .ok .skip w') (hb : Bel w0 w')
    (h : wpSt P ops (fun w' => ∃ p : Regrown, w' = grow (redrawn w0 p.d) p.os) E m Q (dn ++ [j]) (a.put o.dst undef) w') : wpEff P ops (fun w' => ∃ p : Regrown, w' = grow (redrawn w0 p.d) p.os) E m Q dn j o a w := by
  unfold wpEff
  rw [if_pos hw]
  unfold EffOp2
  rw [hr]
  exact ⟨cls_of hb, h⟩
theorem branch_cons {p : Nat → Oper → Prop} {i : Nat} {o : Oper} {js : List Nat} (hi : ops[i]? = some o) (h : p i o) (h' : ∀ j ∈ js, ∀ o, ops[j]? = some o → p j o) : ∀ j ∈ i :: js, ∀ o, ops[j]? = some o → p j o := by
  intro j hj o' ho'
  rw [List.mem_cons] at hj
  rcases hj with rfl | hj
  · rw [hi] at ho'
    cases ho'
    exact h
  · exact h' j hj o' ho'
theorem branch_nil {p : Nat → Oper → Prop} : ∀ j ∈ ([] : List Nat), ∀ o, ops[j]? = some o → p j o := fun j hj => by cases hj
end

/-- THE SAME UNDER A STATEMENT S OF ONE's OWN: S says what the quiet operations read; every operation that may turn the world shows S anew. -/
structure InS (S : World → Prop) where
  w : World
  h : S w
theorem cls_s {S : World → Prop} {w : World} (h : S w) : (fun w' => ∃ p : InS S, w' = p.w) w := ⟨⟨w, h⟩, rfl⟩

theorem wp_region_sts {P : Program} {id : Nat} {Q : Exit → Act → World → Prop} {a : Act} {w : World} {l : List Oper} (S : World → Prop) (E : List Nat) (m : Nat) (hm : P.follows .mixedOrders = true) (hB : baseB l.toArray E m = true) (hS : S w.drew)
    (h : wpSt P l.toArray (fun w' => ∃ p : InS S, w' = p.w) E m Q [] a w.drew) : (Code.region id l.toArray true).wp P Q a w := by
  simp only [baseB, Bool.and_eq_true, decide_eq_true_eq] at hB
  obtain ⟨⟨⟨hs, hP⟩, hpl⟩, hn⟩ := hB
  have hplain : ∀ j oj, l.toArray[j]? = some oj → kindOf E m j = 0 → plainOp oj.op = true := by
    intro j oj hoj hk
    have hlt := (Array.getElem?_eq_some_iff.1 hoj).1
    have h1 := List.all_eq_true.1 hpl j (by simpa using hlt)
    simp only [hoj, hk, bne_self_eq_false, Bool.false_or] at h1
    exact h1
  refine wp_region_any hm ?_
  have h1 := h (cls_s hS) Clo.start
  have h2 := any_of_L2 (P := P) (md := .any) (t := l.toArray.size - m) hplain (kindOf_le E m) _ _ _ _ (cls_s hS) h1
  rw [show m - ([] : List Nat).length + (l.toArray.size - m) = l.toArray.size by simp at hn ⊢; omega] at h2
  exact h2

section
variable {P : Program} {S : World → Prop} {ops : Array Oper} {E : List Nat} {m : Nat} {Q : Exit → Act → World → Prop} {dn : List Nat} {j : Nat} {o : Oper} {a : Act} {w : World}
theorem eff_call_s (f : FuncId) {args : Array Value} (hw : Region.wanted o (yielded ops a.tmps) = true) (hr : (execOp a.eval o).run P w = .ok (.enter f args) w) (hS : S w)
    (h : Calls P f args w (fun e w' => ∃ v, e = .returned v ∧ S w' ∧ wpSt P ops (fun w' => ∃ p : InS S, w' = p.w) E m Q (dn ++ [j]) (a.put o.dst v) w')) :
    wpEff P ops (fun w' => ∃ p : InS S, w' = p.w) E m Q dn j o a w := by
  unfold wpEff
  rw [if_pos hw]
  unfold EffOp2
  rw [hr]
  exact ⟨cls_s hS, h.mono fun e w' ⟨v, he, hb, hk⟩ => ⟨v, he, cls_s hb, hk⟩⟩
theorem eff_done_s {w' : World} (hw : Region.wanted o (yielded ops a.tmps) = true) (hr : (execOp a.eval o).run P w = .ok .skip w') (hS : S w')
    (h : wpSt P ops (fun w' => ∃ p : InS S, w' = p.w) E m Q (dn ++ [j]) (a.put o.dst undef) w') : wpEff P ops (fun w' => ∃ p : InS S, w' = p.w) E m Q dn j o a w := by
  unfold wpEff
  rw [if_pos hw]
  unfold EffOp2
  rw [hr]
  exact ⟨cls_s hS, h⟩
theorem eff_made_s {v : Value} {w' : World} (hw : Region.wanted o (yielded ops a.tmps) = true) (hr : (execOp a.eval o).run P w = .ok (.value v) w') (hS : S w')
    (h : wpSt P ops (fun w' => ∃ p : InS S, w' = p.w) E m Q (dn ++ [j]) (a.put o.dst v) w') : wpEff P ops (fun w' => ∃ p : InS S, w' = p.w) E m Q dn j o a w := by
  unfold wpEff
  rw [if_pos hw]
  unfold EffOp2
  rw [hr]
  exact ⟨cls_s hS, h⟩
end

/-- In block B lie the cells cs, and they may be written. -/
def AtF (w : World) (B : Nat) (cs : List Value) : Prop := At w B cs ∧ ∀ j, w.frozen? ⟨B, j, none⟩ = false
theorem AtF.bel {w w' : World} {B : Nat} {cs : List Value} (h : AtF w B cs) (hb : Bel w w') : AtF w' B cs :=
  ⟨h.1.bel hb, fun j => by rw [hb.frozenAt B j h.1.1]; exact h.2 j⟩
theorem AtF.new (w : World) (t : TypeId) (cs : List Value) : AtF (w.alloc (.cells cs.toArray t)) w.heap.size cs :=
  ⟨At.new w t cs, fun _ => World.frozen?_alloc_at _ _ _ _ rfl⟩
theorem AtF.drew {w : World} {B : Nat} {cs : List Value} (h : AtF w B cs) : AtF w.drew B cs := h.bel (Bel.drew (Bel.refl w))
theorem AtF.alloc {w : World} {B : Nat} {cs : List Value} (h : AtF w B cs) (o : Obj) : AtF (w.alloc o) B cs := h.bel ((Bel.refl w).alloc o)
theorem AtF.set {w : World} {B : Nat} {cs : List Value} (h : AtF w B cs) (i : Nat) (hi : i < cs.length) (v : Value) : AtF (w.setCell ⟨B, i, none⟩ v) B (cs.set i v) := by
  refine ⟨⟨?_, fun j u hu => ?_⟩, fun j => (World.frozen?_setCell _ _ _ _).trans (h.2 j)⟩
  · have := h.1.1; simpa [World.setCell] using this
  · have hc := h.1.2 i _ (List.getElem?_eq_getElem hi)
    by_cases e : i = j
    · subst e
      rw [List.getElem?_set_self hi] at hu
      cases hu
      exact World.cell?_setCell_same _ _ _ hc
    · rw [List.getElem?_set_ne e] at hu
      exact (World.cell?_setCell_other _ _ _ _ (by simp)).trans (h.1.2 j u hu)
theorem AtF.other {w : World} {B C : Nat} {cs : List Value} (h : AtF w B cs) (hne : B ≠ C) (i : Nat) (v : Value) : AtF (w.setCell ⟨C, i, none⟩ v) B cs := by
  refine ⟨⟨?_, fun j u hu => ?_⟩, fun j => (World.frozen?_setCell _ _ _ _).trans (h.2 j)⟩
  · have := h.1.1; simpa [World.setCell] using this
  · exact (World.cell?_setCell_other _ _ _ _ (by simp)).trans (h.1.2 j u hu)
end Go.Proofs.YtpgjbocjhconoaaGreat

/- Rows of structs: cells of a list, by its elements; bunches and queue entries. -/
namespace Go.Proofs.YtpgjbocjhconoaaGreat
open Go.RowKit

theorem flat_len {α : Type} {f : α → List Value} {m : Nat} (hf : ∀ a, (f a).length = m) (l : List α) : (l.flatMap f).length = l.length * m := by
  induction l with
  | nil => simp
  | cons p l ih => simp only [List.flatMap_cons, List.length_append, List.length_cons, hf, ih, Nat.succ_mul]; omega
theorem flat_at {α : Type} {f : α → List Value} {m : Nat} (hf : ∀ a, (f a).length = m) : ∀ {l : List α} {k : Nat} {a : α} {j : Nat} {u : Value}, l[k]? = some a → (f a)[j]? = some u → (l.flatMap f)[k * m + j]? = some u
  | [], k, a, j, u, h, _ => by simp at h
  | q :: l, 0, a, j, u, h, hu => by
    simp at h; subst h
    have hj := (List.getElem?_eq_some_iff.1 hu).1
    rw [List.flatMap_cons, Nat.zero_mul, Nat.zero_add, List.getElem?_append_left hj]; exact hu
  | q :: l, k + 1, a, j, u, h, hu => by
    have ih := flat_at hf (l := l) (k := k) (by simpa using h) hu
    rw [List.flatMap_cons, List.getElem?_append_right (by rw [hf, Nat.succ_mul]; omega), hf, show (k + 1) * m + j - m = k * m + j by rw [Nat.succ_mul]; omega]
    exact ih
theorem flat_one {α : Type} {f : α → List Value} (h : ∀ a, ∀ u ∈ f a, u.oneCell' = true) (l : List α) : ∀ u ∈ l.flatMap f, u.oneCell' = true := by
  intro u hu
  rw [List.mem_flatMap] at hu
  obtain ⟨a, _, ha⟩ := hu
  exact h a u ha

/-- A bunch, its members as a slice value. -/
structure Bun where
  id : Int
  ten : Int
  knd : Int
  sec : Int
  cnt : Int
  dat : ByteArray
  fua : Bool
  mA : Option Addr
  mL : Nat
  mC : Nat
  tim : Int
def Bun.cells (b : Bun) : List Value := [.int .i64 b.id, .int .i64 b.ten, .int .i64 b.knd, .int .i64 b.sec, .int .i64 b.cnt, .string b.dat, .bool b.fua, .slice b.mA b.mL b.mC, .int .i64 b.tim]
/-- An entry of a scheduler. -/
structure Qd where
  b : Bun
  due : Int
  sta : Int
  tri : Int
def Qd.cells (q : Qd) : List Value := [.int .i64 q.b.id, .int .i64 q.b.ten, .int .i64 q.b.knd, .int .i64 q.b.sec, .int .i64 q.b.cnt, .string q.b.dat, .bool q.b.fua, .slice q.b.mA q.b.mL q.b.mC, .int .i64 q.b.tim, .int .i64 q.due, .int .i64 q.sta, .int .i64 q.tri]
theorem Qd.cells_len (q : Qd) : q.cells.length = 12 := rfl
def qcells (l : List Qd) : List Value := l.flatMap Qd.cells
theorem qcells_len (l : List Qd) : (qcells l).length = l.length * 12 := flat_len Qd.cells_len l
theorem qcells_app (l m : List Qd) : qcells (l ++ m) = qcells l ++ qcells m := by simp [qcells]
/-- A row that reads: the cell j of element i. -/
theorem Rd.at {w : World} {v : Value} {size n : Nat} {xs : List Value} (h : Rd w v size n xs) (hn : 0 < n) : ∃ b o c, v = .slice (some ⟨b, o, none⟩) n c ∧ b < w.heap.size ∧ ∀ j u, xs[j]? = some u → w.cell? ⟨b, o + j, none⟩ = some u := by
  obtain ⟨_, A, c, hv, _, _, hr⟩ := h
  obtain ⟨b, o, rfl, hb, hc⟩ := hr hn
  exact ⟨b, o, c, hv, hb, hc⟩
theorem Rd.form {w : World} {v : Value} {size n : Nat} {xs : List Value} (h : Rd w v size n xs) : ∃ A c, v = .slice A n c ∧ n ≤ c ∧ c ≤ maxLen := by
  obtain ⟨_, A, c, hv, h1, h2, _⟩ := h
  exact ⟨A, c, hv, h1, h2⟩
theorem Rd.far {w : World} {v : Value} {size n : Nat} {xs : List Value} (h : Rd w v size n xs) {p : Addr} (hp : v.ownBlock ≠ some p.block) (u : Value) : Rd (w.setCell p u) v size n xs := by
  obtain ⟨h1, A, c, hv, h2, h3, hr⟩ := h
  refine ⟨h1, A, c, hv, h2, h3, fun hn => ?_⟩
  obtain ⟨b, o, hA, hb, hc⟩ := hr hn
  subst hv; subst hA
  refine ⟨b, o, rfl, by simpa [World.setCell] using hb, fun j u hu => ?_⟩
  have hne : p.block ≠ b := fun e => hp (by simp [Value.ownBlock, e])
  exact (World.cell?_setCell_other _ _ _ _ (fun e => hne (by rw [e]))).trans (hc j u hu)
theorem Rd.grown {w w' : World} {v : Value} {size n : Nat} {xs : List Value} {row : Option Nat} (h : Rd w v size n xs) (hg : w.grownBy w' row) (hne : ∀ b, v.ownBlock = some b → row ≠ some b) : Rd w' v size n xs := by
  obtain ⟨h1, A, c, hv, h2, h3, hr⟩ := h
  refine ⟨h1, A, c, hv, h2, h3, fun hn => ?_⟩
  obtain ⟨b, o, hA, hb, hc⟩ := hr hn
  subst hv; subst hA
  exact ⟨b, o, rfl, Nat.lt_of_lt_of_le hb hg.size, fun j u hu => (hg.cell_far ⟨b, o + j, none⟩ hb (Ne.symm (hne b rfl))).trans (hc j u hu)⟩
theorem Rd.alloc {w : World} {v : Value} {size n : Nat} {xs : List Value} (h : Rd w v size n xs) (o : Obj) : Rd (w.alloc o) v size n xs := h.bel ((Bel.refl w).alloc o)
theorem AtF.grown {w w' : World} {B : Nat} {cs : List Value} {row : Option Nat} (h : AtF w B cs) (hg : w.grownBy w' row) (hne : some B ≠ row) : AtF w' B cs :=
  ⟨⟨Nat.lt_of_lt_of_le h.1.1 hg.size, fun j u hu => (hg.cell_far ⟨B, j, none⟩ h.1.1 hne).trans (h.1.2 j u hu)⟩, fun j => (hg.frozen_far ⟨B, j, none⟩ h.1.1 hne).trans (h.2 j)⟩
theorem own_far {w : World} {base : Nat} {e : TypeId} {size : Nat} {v : Value} {n : Nat} {xs : List Value} (h : w.ownsRow base e size v n xs) {p : Addr} (hp : v.ownBlock ≠ some p.block) (u : Value) : (w.setCell p u).ownsRow base e size v n xs := by
  refine ⟨h.1, ?_⟩
  rcases h.2 with h2 | ⟨g, cap, cur, hv, hg, hh, r⟩
  · exact Or.inl h2
  · refine Or.inr ⟨g, cap, cur, hv, hg, ?_, r⟩
    subst hv
    have hne : p.block ≠ g := fun e => hp (by simp [Value.ownBlock, e])
    simp only [World.setCell, Array.getElem?_modify]; rw [if_neg hne]; exact hh
theorem own_ne {w : World} {base : Nat} {e : TypeId} {size : Nat} {v : Value} {n : Nat} {xs : List Value} (h : w.ownsRow base e size v n xs) {k : Nat} (hk : k < base ∨ w.heap.size ≤ k) : v.ownBlock ≠ some k := fun he => by have := h.lt k he; omega
theorem own_other {w : World} {base : Nat} {e : TypeId} {size : Nat} {v : Value} {n : Nat} {xs : List Value} (h : w.ownsRow base e size v n xs) {p : Addr} (hp : p.block < base) (u : Value) : (w.setCell p u).ownsRow base e size v n xs := own_far h (own_ne h (.inl hp)) u
theorem own_slice {w : World} {base : Nat} {e : TypeId} {size : Nat} {v : Value} {n : Nat} {xs : List Value} (h : w.ownsRow base e size v n xs) : ∃ A c, v = .slice A n c := by
  obtain ⟨_, A, c, hv, _⟩ := Rd.own h
  exact ⟨A, c, hv⟩
theorem heap_new_at {w : World} {o : Obj} {k : Nat} (h : w.heap.size = k) : (w.alloc o).heap[k]? = some o := by subst h; exact heap_alloc_new w o
theorem Rd.own_lt {w : World} {v : Value} {size n : Nat} {xs : List Value} (h : Rd w v size n xs) (hn : 0 < n) {k : Nat} (hk : v.ownBlock = some k) : k < w.heap.size := by
  obtain ⟨b, o, c, rfl, hb, _⟩ := h.at hn
  simp [Value.ownBlock] at hk
  omega
/-- The cells cs lie one behind the other from ⟨b, o⟩ on. -/
structure InRow (w : World) (b o : Nat) (cs : List Value) : Prop where
  all : ∀ j u, cs[j]? = some u → w.cell? ⟨b, o + j, none⟩ = some u
theorem InRow.cell {w : World} {b o : Nat} {cs : List Value} (h : InRow w b o cs) (j : Nat) {u : Value} (hu : cs[j]? = some u) : w.cell? ⟨b, o + j, none⟩ = some u := h.all j u hu
theorem InRow.bel {w w' : World} {b o : Nat} {cs : List Value} (h : InRow w b o cs) (hb : Bel w w') (hl : b < w.heap.size) : InRow w' b o cs := ⟨fun j u hu => by rw [hb.cellAt b _ hl]; exact h.all j u hu⟩
/-- Element k of a row of structs. -/
theorem row_at {α : Type} {f : α → List Value} {m : Nat} (hf : ∀ a, (f a).length = m) {w : World} {b o k : Nat} {l : List α} {a : α} (h : ∀ j u, (l.flatMap f)[j]? = some u → w.cell? ⟨b, o + j, none⟩ = some u) (hk : l[k]? = some a) : InRow w b (o + k * m) (f a) :=
  ⟨fun j u hu => by rw [Nat.add_assoc]; exact h _ _ (flat_at hf hk hu)⟩
def bcells (l : List Bool) : List Value := l.map .bool
theorem bcells_at {l : List Bool} {k : Nat} {b : Bool} (h : l[k]? = some b) : (bcells l)[k]? = some (.bool b) := by simp [bcells, h]
end Go.Proofs.YtpgjbocjhconoaaGreat

/- A set of ints that a call makes: a map from int to bool, asked by its key. -/
namespace Go.Proofs.YtpgjbocjhconoaaGreat
open Go.RowKit Go.Maps

theorem plainElem_bool_inv {H : Type} {P : Program} {e : TypeId} (he : P.underlying e = some .bool) {v : Value} {z : DataW H × List MemPlace} (h : plainElem P e v = some z) : ∃ x, v = .bool x ∧ z = (.lit (.bool x), []) := by
  unfold plainElem at h
  rw [he] at h
  cases v <;> simp at h
  subst h
  exact ⟨_, rfl, rfl⟩
theorem own_lookup_bool {H : Type} {P : Program} {k e t : TypeId} {w : World} {b n : Nat} {D : DataW H} (h : w.ownsMap P k (plainElem P e) b n D) (K : Keyed P k) (ht : P.underlying t = some (.map k e)) (he : P.underlying e = some .bool) (hz : (zeroValue e).run P w = .ok (.bool false) w)
    {key : Value} {kl : Lit} (hkey : keyOf P k key = some kl) {c : Bool} (hc : D.atKey kl (.lit (.bool false)) = .lit (.bool c)) : (Instr.lookup t (.map (some b)) key false).run P w = .ok (.bool c) w := by
  obtain ⟨v, ps, hrun, hv⟩ := h.lookup K ht hz (plainElem_bool he false) hkey
  obtain ⟨x, rfl, hx⟩ := plainElem_bool_inv he hv
  simp only [Prod.mk.injEq] at hx
  rw [hc] at hx
  have := hx.1
  cases this
  exact hrun

/-- The map that holds the ids of a list. -/
def seenD : List Int → DataW Unit
  | [] => .map []
  | x :: l => (seenD l).put (.int .i64 x) (.lit (.bool true))
theorem seenD_isMap : ∀ l, IsMap (seenD l)
  | [] => ⟨[], rfl⟩
  | _ :: l => (seenD_isMap l).put _ _
theorem seenD_at (x : Int) : ∀ l : List Int, (seenD l).atKey (.int .i64 x) (.lit (.bool false)) = .lit (.bool (l.contains x))
  | [] => by simp [seenD, DataW.atKey]
  | y :: l => by
    unfold seenD
    by_cases h : x = y
    · subst h
      rw [atKey_put_same (seenD_isMap l) (by simp [WideAt.IsKeyLit])]
      simp
    · rw [atKey_put_other (by simpa using h), seenD_at x l]
      simp [h]
end Go.Proofs.YtpgjbocjhconoaaGreat

/- Bunches with their members: what a valid bunch is, what a conflict is. -/
namespace Go.Proofs.YtpgjbocjhconoaaGreat
open Go.RowKit Go.Maps

/-- A member of a bunch. -/
structure Mem where
  id : Int
  off : Int
  cnt : Int
def Mem.cells (m : Mem) : List Value := [.int .i64 m.id, .int .i64 m.off, .int .i64 m.cnt]
theorem Mem.cells_len (m : Mem) : m.cells.length = 3 := rfl
def mcells (l : List Mem) : List Value := l.flatMap Mem.cells
theorem mcells_len (l : List Mem) : (mcells l).length = l.length * 3 := flat_len Mem.cells_len l

/-- The members of a bunch lie in w as ms. -/
structure Mems (w : World) (b : Bun) (ms : List Mem) : Prop where
  len : b.mL = ms.length
  rd : Rd w (.slice b.mA b.mL b.mC) 3 ms.length (mcells ms)
  ids : ∀ m ∈ ms, IsInt m.id
  dl : b.dat.size ≤ maxLen
theorem Mems.bel {w w' : World} {b : Bun} {ms : List Mem} (h : Mems w b ms) (hb : Bel w w') : Mems w' b ms := ⟨h.len, h.rd.bel hb, h.ids, h.dl⟩

/-- Members from place n on, behind those with the ids of a list. -/
def memOk (cnt : Int) : List Int → Int → List Mem → Bool
  | _, n, [] => n == cnt
  | seen, n, m :: l => if seen.contains m.id = true ∨ m.off ≠ n ∨ m.cnt < 1 ∨ cnt - n < m.cnt then false else memOk cnt (m.id :: seen) (n + m.cnt) l
def rangeOk (b : Bun) : Bool := decide (0 ≤ b.sec ∧ b.sec < 128 ∧ 1 ≤ b.cnt ∧ b.cnt ≤ 128 - b.sec)
def dataOk (b : Bun) : Bool := if b.knd = 1 then decide (b.dat.size = 0) else if b.knd = 2 then decide ((b.dat.size : Int) = b.cnt * 8) else false
/-- A valid bunch. -/
def validB (b : Bun) (ms : List Mem) : Bool := rangeOk b && dataOk b && memOk b.cnt [] 0 ms
theorem validB_range {b : Bun} {ms : List Mem} (h : validB b ms = true) : 0 ≤ b.sec ∧ b.sec < 128 ∧ 1 ≤ b.cnt ∧ b.cnt ≤ 128 - b.sec := by
  simp only [validB, Bool.and_eq_true, rangeOk, decide_eq_true_eq] at h
  exact h.1.1
/-- A bunch with its members. -/
structure BM where
  b : Bun
  ms : List Mem
def BM.ok (x : BM) : Bool := validB x.b x.ms
def meetB (a b : Bun) : Bool := decide ((a.knd = 2 ∨ b.knd = 2) ∧ a.sec < b.sec + b.cnt ∧ b.sec < a.sec + a.cnt)
/-- Two bunches that cannot change places. -/
def confB (x y : BM) : Bool := x.ok && y.ok && meetB x.b y.b
def Bun.arr (b : Bun) : Array Value := #[.int .i64 b.id, .int .i64 b.ten, .int .i64 b.knd, .int .i64 b.sec, .int .i64 b.cnt, .string b.dat, .bool b.fua, .slice b.mA b.mL b.mC, .int .i64 b.tim]
end Go.Proofs.YtpgjbocjhconoaaGreat

/- The contracts of the split package and of its reference. -/
namespace Go.Proofs.YtpgjbocjhconoaaGreat
open Go.RowKit

/-- The limits M, B are valid. -/
def limOk (M B : Int) : Bool := decide (1 ≤ M ∧ M ≤ 128 ∧ 0 ≤ B ∧ B ≤ 128)

set_option maxHeartbeats 400000 in
theorem splitValid_any (M B : Int) (w : World) :
    Calls Tryz.prog 111 #[.agg #[.int .i64 M, .int .i64 B]] w fun e w' => e = .returned (.bool (limOk M B)) ∧ Bel w w' := by
  go_enter Tryz.func111, Tryz.ntmps111
  go_wp2
  all_goals
    go_ret
    exact ⟨ret_bool (by first | (simp [limOk, *]; done) | (simp [limOk, *]; omega) | (simp [limOk]; omega) | (rw [Bool.eq_iff_iff]; simp [limOk, *]; omega)), bI⟩

set_option maxHeartbeats 400000 in
theorem refLimits_any (M B : Int) (w : World) :
    Calls Tryz.prog 94 #[.agg #[.int .i64 M, .int .i64 B]] w fun e w' => e = .returned (.bool (limOk M B)) ∧ Bel w w' := by
  go_enter Tryz.func94, Tryz.ntmps94
  go_wp2
  all_goals
    go_ret
    exact ⟨ret_bool (by first | (simp [limOk, *]; done) | (simp [limOk, *]; omega) | (simp [limOk]; omega) | (rw [Bool.eq_iff_iff]; simp [limOk, *]; omega)), bI⟩

def room (M B s : Int) : Int := if B = 0 then M else min M (B - s % B)

set_option maxHeartbeats 400000 in
theorem splitRoom_any (M B s : Int) (w : World) (h : limOk M B = true) (hs : 0 ≤ s) (hs' : s ≤ 1000) :
    Calls Tryz.prog 112 #[.agg #[.int .i64 M, .int .i64 B], .int .i64 s] w fun e w' => e = .returned (.int .i64 (room M B s)) ∧ Bel w w' := by
  obtain ⟨a1, a2, a3, a4⟩ : 1 ≤ M ∧ M ≤ 128 ∧ 0 ≤ B ∧ B ≤ 128 := by simpa [limOk] using h
  clear h
  by_cases h0 : B = 0
  · subst h0
    go_enter Tryz.func112, Tryz.ntmps112
    go_wp2
    go_ret
    exact ⟨ret_int (by simp [room]), bI⟩
  · have b1 : 1 ≤ B := by omega
    have HR : Hid (room M B s = min M (B - s % B)) := by unfold room; rw [if_neg h0]; rfl
    clear h0
    have hm := Int.emod_lt_of_pos s (show 0 < B by omega)
    have hm' := Int.emod_nonneg s (show B ≠ 0 by omega)
    go_enter Tryz.func112, Tryz.ntmps112
    go_wp2
    go_quiet (fail)
    go_wp2
    all_goals
      go_ret
      exact ⟨ret_int (by rw [HR.out]; omega), bI⟩

/-- Whether count sectors from s on fit. -/
def fits (M B s c : Int) : Bool := limOk M B && decide (0 ≤ s ∧ s ≤ 128 ∧ 1 ≤ c ∧ c ≤ room M B s)

set_option maxHeartbeats 800000 in
theorem splitFits_any (M B s c : Int) (w : World) :
    Calls Tryz.prog 91 #[.agg #[.int .i64 M, .int .i64 B], .int .i64 s, .int .i64 c] w fun e w' => e = .returned (.bool (fits M B s c)) ∧ Bel w w' := by
  have H1 := Lib.hid (splitValid_any M B)
  cases h : limOk M B
  · go_enter Tryz.func91, Tryz.ntmps91
    go_wp2_with (go_at_call 111; refine (H1.out _).mono ?_; rw [h]; rintro e w1 ⟨rfl, hb1⟩; have hc1 := hb1.cellAt)
    go_ret
    exact ⟨ret_bool (by simp [fits, h]), bI⟩
  · by_cases h1 : 0 ≤ s ∧ s ≤ 128
    · obtain ⟨s1, s2⟩ := h1
      have H2 := Lib.hid (fun w => splitRoom_any M B s w h s1 (by omega))
      have HF := Lib.hid (show fits M B s c = decide (1 ≤ c ∧ c ≤ room M B s) by simp [fits, h, s1, s2])
      go_enter Tryz.func91, Tryz.ntmps91
      go_wp2_with (first
        | (go_at_call 111; refine (H1.out _).mono ?_; rw [h]; rintro e w1 ⟨rfl, hb1⟩; have hc1 := hb1.cellAt)
        | (go_at_call 112; refine (H2.out _).mono ?_; rintro e w2 ⟨rfl, hb2⟩))
      all_goals
        go_ret
        exact ⟨ret_bool (by rw [HF.out]; first | (simp [*]; done) | (simp; omega)), bI⟩
    · have HF := Lib.hid (show fits M B s c = false by simp only [fits]; rw [Bool.and_eq_false_iff]; right; simp; omega)
      by_cases h2 : 0 ≤ s
      · have h3 : 128 < s := by omega
        clear h1
        go_enter Tryz.func91, Tryz.ntmps91
        go_wp2_with (go_at_call 111; refine (H1.out _).mono ?_; rw [h]; rintro e w1 ⟨rfl, hb1⟩; have hc1 := hb1.cellAt)
        all_goals
          go_ret
          exact ⟨ret_bool (by rw [HF.out]), bI⟩
      · clear h1
        go_enter Tryz.func91, Tryz.ntmps91
        go_wp2_with (go_at_call 111; refine (H1.out _).mono ?_; rw [h]; rintro e w1 ⟨rfl, hb1⟩; have hc1 := hb1.cellAt)
        all_goals
          go_ret
          exact ⟨ret_bool (by rw [HF.out]), bI⟩

/-- The reference's fits. -/
def rfits (M B s c : Int) : Bool := limOk M B && decide (0 ≤ s ∧ s ≤ 128 ∧ 1 ≤ c ∧ c ≤ M) && decide (B = 0 ∨ s / B = (s + c - 1) / B)

set_option maxHeartbeats 800000 in
theorem refFits_any (M B s c : Int) (w : World) :
    Calls Tryz.prog 72 #[.agg #[.int .i64 M, .int .i64 B], .int .i64 s, .int .i64 c] w fun e w' => e = .returned (.bool (rfits M B s c)) ∧ Bel w w' := by
  have H1 := Lib.hid (refLimits_any M B)
  cases h : limOk M B
  · have HF := Lib.hid (show rfits M B s c = false by simp [rfits, h])
    go_enter Tryz.func72, Tryz.ntmps72
    go_wp2_with (go_at_call 94; refine (H1.out _).mono ?_; rw [h]; rintro e w1 ⟨rfl, hb1⟩; have hc1 := hb1.cellAt)
    go_ret
    exact ⟨ret_bool (by rw [HF.out]), bI⟩
  · obtain ⟨a1, a2, a3, a4⟩ : 1 ≤ M ∧ M ≤ 128 ∧ 0 ≤ B ∧ B ≤ 128 := by simpa [limOk] using h
    by_cases h1 : 0 ≤ s ∧ s ≤ 128 ∧ 1 ≤ c ∧ c ≤ M
    · obtain ⟨s1, s2, c1, c2⟩ := h1
      have HF := Lib.hid (show rfits M B s c = decide (B = 0 ∨ s / B = (s + c - 1) / B) by simp [rfits, h, s1, s2, c1, c2])
      by_cases h0 : B = 0
      · subst h0
        go_enter Tryz.func72, Tryz.ntmps72
        go_wp2_with (go_at_call 94; refine (H1.out _).mono ?_; rw [h]; rintro e w1 ⟨rfl, hb1⟩; have hc1 := hb1.cellAt)
        go_quiet (fail)
        go_wp2
        all_goals
          go_ret
          exact ⟨ret_bool (by rw [HF.out]; simp), bI⟩
      · have h0' : (B == 0) = false := by simp [h0]
        have h0'' : 0 < B := by omega
        have HF' := Lib.hid (HF.out.trans (show _ = decide (s / B = (s + c - 1) / B) by simp [h0]))
        clear HF h0
        go_enter Tryz.func72, Tryz.ntmps72
        go_wp2_with (go_at_call 94; refine (H1.out _).mono ?_; rw [h]; rintro e w1 ⟨rfl, hb1⟩; have hc1 := hb1.cellAt)
        go_quiet (fail)
        go_wp2
        all_goals
          go_ret
          exact ⟨ret_bool (by rw [HF'.out]; first | rfl | (simp; done) | (simp; omega)), bI⟩
    · have HF := Lib.hid (show rfits M B s c = false by simp only [rfits]; rw [Bool.and_eq_false_iff]; left; rw [Bool.and_eq_false_iff]; right; simp; omega)
      clear a1 a2 a3 a4
      go_enter Tryz.func72, Tryz.ntmps72
      go_wp2_with (go_at_call 94; refine (H1.out _).mono ?_; rw [h]; rintro e w1 ⟨rfl, hb1⟩; have hc1 := hb1.cellAt)
      all_goals
        first
        | (exfalso; omega)
        | (go_ret; exact ⟨ret_bool (by rw [HF.out]), bI⟩)
end Go.Proofs.YtpgjbocjhconoaaGreat

/- Joining bunches: what it gives, and plain laws of it. -/
namespace Go.Proofs.YtpgjbocjhconoaaGreat
open Go.RowKit

/-- What a bunch is, wherever its members lie. -/
structure Bu where
  id : Int
  ten : Int
  knd : Int
  sec : Int
  cnt : Int
  dat : ByteArray
  fua : Bool
  ms : List Mem
  tim : Int
def Bu.bun (u : Bu) : Bun := ⟨u.id, u.ten, u.knd, u.sec, u.cnt, u.dat, u.fua, none, 0, 0, u.tim⟩
def Bu.bm (u : Bu) : BM := ⟨u.bun, u.ms⟩
def BM.bu (x : BM) : Bu := ⟨x.b.id, x.b.ten, x.b.knd, x.b.sec, x.b.cnt, x.b.dat, x.b.fua, x.ms, x.b.tim⟩
def okU (u : Bu) : Bool := u.bm.ok
def confU (u v : Bu) : Bool := confB u.bm v.bm
/-- No member in common. -/
def strU (u v : Bu) : Bool := !(u.ms.any fun x => v.ms.any fun y => x.id == y.id)
def alikeU (u v : Bu) : Bool := okU u && okU v && (u.ten == v.ten) && (u.knd == v.knd) && (u.fua == v.fua) && strU u v
def canU (M B : Int) (u v : Bu) : Int :=
  if alikeU u v then (if v.sec = u.sec + u.cnt ∧ fits M B u.sec (u.cnt + v.cnt) = true then 1 else if u.sec = v.sec + v.cnt ∧ fits M B v.sec (u.cnt + v.cnt) = true then 2 else 0) else 0
def shift (c : Int) (l : List Mem) : List Mem := l.map fun m => ⟨m.id, m.off + c, m.cnt⟩
def zeroU : Bu := ⟨0, 0, 0, 0, 0, ⟨#[]⟩, false, [], 0⟩
def pairU (u v x y : Bu) : Bu := ⟨min u.id v.id, u.ten, u.knd, x.sec, x.cnt + y.cnt, x.dat ++ y.dat, u.fua, x.ms ++ shift x.cnt y.ms, min u.tim v.tim⟩
def joinU (u v : Bu) (how : Int) : Bu :=
  if how = 0 ∨ canU 128 0 u v ≠ how then zeroU else if how = 2 then pairU u v v u else pairU u v u v
theorem okU_range {u : Bu} (h : okU u = true) : 0 ≤ u.sec ∧ u.sec < 128 ∧ 1 ≤ u.cnt ∧ u.cnt ≤ 128 - u.sec := validB_range (b := u.bun) (ms := u.ms) h
theorem alike_ok {u v : Bu} (h : alikeU u v = true) : okU u = true ∧ okU v = true ∧ u.ten = v.ten ∧ u.knd = v.knd ∧ u.fua = v.fua ∧ strU u v = true := by
  unfold alikeU at h
  simp only [Bool.and_eq_true, beq_iff_eq] at h
  exact ⟨h.1.1.1.1.1, h.1.1.1.1.2, h.1.1.1.2, h.1.1.2, h.1.2, h.2⟩
theorem canU_alike {M B : Int} {u v : Bu} (h : canU M B u v ≠ 0) : alikeU u v = true := by
  unfold canU at h
  split at h
  · assumption
  · exact absurd rfl h
/-! ### what is joined is valid -/
def msum : List Mem → Int
  | [] => 0
  | m :: l => m.cnt + msum l
def offs : Int → List Mem → Prop
  | _, [] => True
  | n, m :: l => m.off = n ∧ offs (n + m.cnt) l
theorem msum_app (l k : List Mem) : msum (l ++ k) = msum l + msum k := by
  induction l with
  | nil => simp [msum]
  | cons m l ih => simp only [List.cons_append, msum, ih]; omega
theorem msum_nonneg {l : List Mem} (h : ∀ m ∈ l, 1 ≤ m.cnt) : 0 ≤ msum l := by
  induction l with
  | nil => simp [msum]
  | cons m l ih =>
    have h1 := h m (by simp)
    have h2 := ih (fun x hx => h x (by simp [hx]))
    simp only [msum]; omega
theorem offs_app : ∀ (l k : List Mem) (n : Int), offs n (l ++ k) ↔ offs n l ∧ offs (n + msum l) k
  | [], k, n => by simp [offs, msum]
  | m :: l, k, n => by
    simp only [List.cons_append, offs, msum, offs_app l k, Int.add_assoc, and_assoc]
theorem memOk_iff (cnt : Int) : ∀ (l : List Mem) (seen : List Int) (n : Int), memOk cnt seen n l = true ↔ offs n l ∧ (∀ m ∈ l, 1 ≤ m.cnt) ∧ n + msum l = cnt ∧ (l.map Mem.id).Nodup ∧ ∀ m ∈ l, m.id ∉ seen
  | [], seen, n => by simp [memOk, offs, msum]
  | m :: l, seen, n => by
    unfold memOk
    constructor
    · intro h
      split at h
      · cases h
      · rename_i hc
        simp only [not_or, Decidable.not_not] at hc
        obtain ⟨h1, h2, h3, h4⟩ := hc
        obtain ⟨g1, g2, g3, g4, g5⟩ := (memOk_iff cnt l (m.id :: seen) (n + m.cnt)).1 h
        have h1' : m.id ∉ seen := by simpa using h1
        refine ⟨⟨h2, g1⟩, fun x hx => ?_, by simp only [msum]; omega, ?_, fun x hx => ?_⟩
        · rcases List.mem_cons.1 hx with rfl | hx
          · omega
          · exact g2 x hx
        · rw [List.map_cons, List.nodup_cons]
          refine ⟨fun hm => ?_, g4⟩
          rw [List.mem_map] at hm
          obtain ⟨x, hx, he⟩ := hm
          exact g5 x hx (by rw [he]; simp)
        · rcases List.mem_cons.1 hx with rfl | hx
          · exact h1'
          · exact fun hs => g5 x hx (by simp [hs])
    · rintro ⟨⟨h1, h2⟩, h3, h4, h5, h6⟩
      have hm := h3 m (by simp)
      have hr := msum_nonneg (l := l) (fun x hx => h3 x (by simp [hx]))
      simp only [msum] at h4
      rw [List.map_cons, List.nodup_cons] at h5
      rw [if_neg]
      · refine (memOk_iff cnt l (m.id :: seen) (n + m.cnt)).2 ⟨h2, fun x hx => h3 x (by simp [hx]), by omega, h5.2, fun x hx hs => ?_⟩
        rcases List.mem_cons.1 hs with he | hs
        · exact h5.1 (by rw [← he]; exact List.mem_map_of_mem hx)
        · exact h6 x (by simp [hx]) hs
      · have := h6 m (by simp)
        simp only [not_or, Decidable.not_not]
        exact ⟨by simpa using this, h1, by omega, by omega⟩
theorem shift_ids (c : Int) (l : List Mem) : (shift c l).map Mem.id = l.map Mem.id := by simp [shift]
theorem shift_sum (c : Int) : ∀ l : List Mem, msum (shift c l) = msum l
  | [] => rfl
  | m :: l => by have := shift_sum c l; simp only [shift, List.map_cons, msum] at *; omega
theorem shift_offs (c : Int) : ∀ (l : List Mem) (n : Int), offs n l → offs (n + c) (shift c l)
  | [], _, _ => trivial
  | m :: l, n, h => by
    have := shift_offs c l (n + m.cnt) h.2
    refine ⟨by show m.off + c = n + c; rw [h.1], ?_⟩
    rw [show n + c + m.cnt = n + m.cnt + c by omega]
    exact this
theorem okU_parts {u : Bu} : okU u = true ↔ rangeOk u.bun = true ∧ dataOk u.bun = true ∧ memOk u.cnt [] 0 u.ms = true := by
  show (rangeOk u.bun && dataOk u.bun && memOk u.cnt [] 0 u.ms) = true ↔ _
  simp only [Bool.and_eq_true, and_assoc]
theorem dataOk_size {u : Bu} (h : dataOk u.bun = true) : (u.knd = 1 ∧ u.dat.size = 0) ∨ (u.knd = 2 ∧ (u.dat.size : Int) = u.cnt * 8) := by
  unfold dataOk at h
  split at h
  · rename_i hk; exact .inl ⟨hk, of_decide_eq_true h⟩
  · split at h
    · rename_i hk; exact .inr ⟨hk, of_decide_eq_true h⟩
    · cases h
/-- Two that stand side by side, x ahead of y. -/
theorem pair_ok {u v x y : Bu} (hx : okU x = true) (hy : okU y = true) (hk : u.knd = x.knd) (hk2 : x.knd = y.knd) (hs : y.sec = x.sec + x.cnt) (hd : strU x y = true) : okU (pairU u v x y) = true := by
  have r1 := okU_range hx
  have r2 := okU_range hy
  obtain ⟨_, d1, m1⟩ := okU_parts.1 hx
  obtain ⟨_, d2, m2⟩ := okU_parts.1 hy
  rw [memOk_iff] at m1 m2
  obtain ⟨a1, a2, a3, a4, _⟩ := m1
  obtain ⟨b1, b2, b3, b4, _⟩ := m2
  rw [okU_parts]
  refine ⟨decide_eq_true ⟨r1.1, r1.2.1, show 1 ≤ x.cnt + y.cnt by omega, show x.cnt + y.cnt ≤ 128 - x.sec by omega⟩, ?_, ?_⟩
  · have hsz : (x.dat ++ y.dat).size = x.dat.size + y.dat.size := ByteArray.size_append
    unfold dataOk
    rcases dataOk_size d1 with ⟨k1, s1⟩ | ⟨k1, s1⟩ <;> rcases dataOk_size d2 with ⟨k3, s2⟩ | ⟨k3, s2⟩
    · rw [if_pos (show (pairU u v x y).bun.knd = 1 from by show u.knd = 1; omega)]
      exact decide_eq_true (show (x.dat ++ y.dat).size = 0 by omega)
    · omega
    · omega
    · rw [if_neg (show ¬ (pairU u v x y).bun.knd = 1 from by show ¬ u.knd = 1; omega), if_pos (show (pairU u v x y).bun.knd = 2 from by show u.knd = 2; omega)]
      exact decide_eq_true (show ((x.dat ++ y.dat).size : Int) = (x.cnt + y.cnt) * 8 by omega)
  · show memOk (x.cnt + y.cnt) [] 0 (x.ms ++ shift x.cnt y.ms) = true
    rw [memOk_iff]
    refine ⟨(offs_app _ _ _).2 ⟨a1, ?_⟩, fun m hm => ?_, by rw [msum_app, shift_sum]; omega, ?_, fun m _ => by simp⟩
    · have := shift_offs x.cnt y.ms 0 b1
      rwa [show 0 + msum x.ms = 0 + x.cnt by omega]
    · rw [List.mem_append] at hm
      rcases hm with hm | hm
      · exact a2 m hm
      · unfold shift at hm
        rw [List.mem_map] at hm
        obtain ⟨z, hz, rfl⟩ := hm
        exact b2 z hz
    · rw [List.map_append, shift_ids, List.nodup_append]
      refine ⟨a4, b4, fun i hi j hj e => ?_⟩
      subst e
      rw [List.mem_map] at hi hj
      obtain ⟨p, hp, rfl⟩ := hi
      obtain ⟨q, hq, he⟩ := hj
      unfold strU at hd
      simp only [Bool.not_eq_true', List.any_eq_false] at hd
      have := hd p hp
      simp only [List.any_eq_true, not_exists, not_and] at this
      exact this q hq (by simp [he])
end Go.Proofs.YtpgjbocjhconoaaGreat
