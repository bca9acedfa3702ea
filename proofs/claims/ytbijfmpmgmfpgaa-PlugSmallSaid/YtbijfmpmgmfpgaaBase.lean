/- Small words and lemmas of this proof: a world that has only grown; endings; the contract of dock.Round. -/
import Derived.Test.YtbijfmpmgmfpgaaRows
import Derived.WalkKit
import Derived.ProofKit
import Derived.OpenShut
import Derived.Deep.Draws
import Derived.Deep.QuietTactic
import Derived.BigQuiet
import Derived.Lib.Hide
import Derived.Deep.DeepMust
namespace Go.Proofs.Ytbijfmpmgmfpgaa
open Go.RowKit

/-- Whatever lay in the world a lies in w as it was. -/
def Bel (a w : World) : Prop := Below a.heap.size a w
theorem Bel.refl (w : World) : Bel w w := Below.refl _ _
theorem Bel.trans {a b c : World} (h : Bel a b) (k : Bel b c) : Bel a c := Below.trans h (Below.mono k (Below.size h))
theorem Bel.drew {a w : World} (h : Bel a w) : Bel a w.drew := Below.drew h
theorem Bel.drewN {a w : World} (h : Bel a w) (n : Nat) : Bel a (w.drewN n) := by
  have k : Below a.heap.size a w := h
  exact ⟨k.os, k.tape, k.output, k.size, k.block⟩
theorem Bel.alloc {a w : World} (h : Bel a w) (o : Obj) : Bel a (w.alloc o) := Below.alloc h (Below.size h) o
theorem Bel.setNew {a w : World} (h : Bel a w) {p : Addr} (hp : a.heap.size ≤ p.block) (u : Value) : Bel a (w.setCell p u) := Below.setCell h hp u
theorem Bel.size {a w : World} (h : Bel a w) : a.heap.size ≤ w.heap.size := Below.size h
theorem Bel.cell {a w : World} (h : Bel a w) {p : Addr} (hp : p.block < a.heap.size) : w.cell? p = a.cell? p := Below.cell h hp
theorem Bel.cellAt {a w : World} (h : Bel a w) (b o : Nat) (hp : b < a.heap.size) : w.cell? ⟨b, o, none⟩ = a.cell? ⟨b, o, none⟩ := Below.cell (p := ⟨b, o, none⟩) h hp
theorem Bel.frozen {a w : World} (h : Bel a w) {p : Addr} (hp : p.block < a.heap.size) : w.frozen? p = a.frozen? p := Below.frozen h hp
theorem Bel.frozenAt {a w : World} (h : Bel a w) (b o : Nat) (hp : b < a.heap.size) : w.frozen? ⟨b, o, none⟩ = a.frozen? ⟨b, o, none⟩ := Below.frozen (p := ⟨b, o, none⟩) h hp
theorem Bel.block {a w : World} (h : Bel a w) (k : Nat) (hk : k < a.heap.size) : w.heap[k]? = a.heap[k]? := Below.block h k hk

/-- What an int is. -/
def IsInt (n : Int) : Prop := -9223372036854775808 ≤ n ∧ n ≤ 9223372036854775807
theorem int_bounds {n : Int} (h : (Lit.int .i64 n).wf = true) : IsInt n := Go.bounds_i64 h

/-- A slice of ints that came in, nil let in: it reads as zs. -/
def Ints (w : World) (v : Value) (zs : List Int) : Prop :=
  (∀ z ∈ zs, IsInt z) ∧ ∃ A c, v = .slice A zs.length c ∧ zs.length ≤ c ∧ c ≤ maxLen ∧ (0 < zs.length → ∃ b o, A = some ⟨b, o, none⟩ ∧ b < w.heap.size ∧ ∀ j (h : j < zs.length), w.cell? ⟨b, o + j, none⟩ = some (.int .i64 (zs[j]'h)))
theorem Ints.nil (w : World) : Ints w (.slice none 0 0) [] := ⟨by simp, none, 0, rfl, Nat.le_refl _, by unfold maxLen; omega, fun h => absurd h (by simp)⟩
theorem Ints.bel {w w' : World} {v : Value} {zs : List Int} (h : Ints w v zs) (hb : Bel w w') : Ints w' v zs := by
  obtain ⟨h1, A, c, hv, hc, hm, hr⟩ := h
  refine ⟨h1, A, c, hv, hc, hm, fun hn => ?_⟩
  obtain ⟨b, o, hA, hlt, hcell⟩ := hr hn
  exact ⟨b, o, hA, Nat.lt_of_lt_of_le hlt hb.size, fun j hj => by rw [hb.cellAt b (o + j) hlt]; exact hcell j hj⟩

theorem ints_of_open {w : World} {x : Addr} {l c : Nat} {zs : List Int} (hl : l ≤ c) (hm : c ≤ maxLen) (hz : zs.length = c) (hcell : ∀ i, i < zs.length → w.cell? (x.add i) = some (.int .i64 (zs.getD i 0))) (hwz : ∀ n ∈ zs, (Lit.int .i64 n).wf = true) :
    Ints w (.slice (some x) l c) (zs.take l) := by
  have hlen : (zs.take l).length = l := by simp; omega
  refine ⟨fun z hmem => int_bounds (hwz z (List.mem_of_mem_take hmem)), some x, c, by rw [hlen], by rw [hlen]; exact hl, hm, fun hn => ?_⟩
  obtain ⟨b, o, rfl, hc⟩ := ints_at hcell (by omega)
  refine ⟨b, o, rfl, World.block_lt_of_cell? w _ (hc 0 (by omega)), fun j hj => ?_⟩
  rw [hlen] at hj
  rw [hc j (by omega), List.getElem_take, List.getD_eq_getElem?_getD, List.getElem?_eq_getElem (by omega), Option.getD_some]

/-- In block B lie the cells cs, from its beginning on. -/
def At (w : World) (B : Nat) (cs : List Value) : Prop := B < w.heap.size ∧ ∀ j u, cs[j]? = some u → w.cell? ⟨B, j, none⟩ = some u
theorem At.bel {w w' : World} {B : Nat} {cs : List Value} (h : At w B cs) (hb : Bel w w') : At w' B cs :=
  ⟨Nat.lt_of_lt_of_le h.1 hb.size, fun j u hu => by rw [hb.cellAt B j h.1]; exact h.2 j u hu⟩
theorem At.new (w : World) (t : TypeId) (cs : List Value) : At (w.alloc (.cells cs.toArray t)) w.heap.size cs :=
  ⟨by simp, fun j u hu => by simpa [go_sem] using hu⟩

theorem ret_int {a b : Int} (h : a = b) : Ending.returned (.int .i64 a) = .returned (.int .i64 b) := by rw [h]
theorem ret_bool {a b : Bool} (h : a = b) : Ending.returned (.bool a) = .returned (.bool b) := by rw [h]

/-- What dock.Round computes. -/
def rnd (n m : Int) : Int := if m < 1 then 0 else (n % 18446744073709551616) % m

theorem rnd_lo (n m : Int) : 0 ≤ rnd n m := by
  unfold rnd; split
  · omega
  · exact Int.emod_nonneg _ (by omega)
theorem rnd_hi (n m : Int) (h : 1 ≤ m) : rnd n m < m := by unfold rnd; rw [if_neg (by omega)]; exact Int.emod_lt_of_pos _ (by omega)
theorem rnd_eq (n m : Int) (h : 1 ≤ m) (h' : m ≤ 9223372036854775807) : wrap64 ((IntKind.u64.wrap n).tmod m) = rnd n m := by
  unfold rnd
  rw [if_neg (by omega)]
  have e : IntKind.u64.wrap n = n % 18446744073709551616 := by rw [IntKind.wrap_u64]
  rw [e]
  have h0 : 0 ≤ n % 18446744073709551616 := by omega
  rw [Int.tmod_eq_emod_of_nonneg h0]
  have h1 := Int.emod_nonneg (n % 18446744073709551616) (show m ≠ 0 by omega)
  have h2 := Int.emod_lt_of_pos (n % 18446744073709551616) (show 0 < m by omega)
  exact IntWalk.wrap64_in _ ⟨by omega, by omega⟩

set_option maxHeartbeats 400000 in
theorem round_any (n m : Int) (w : World) (hm : m ≤ 9223372036854775807) :
    Calls Try.prog 14 #[.int .i64 n, .int .i64 m] w fun e w' => e = .returned (.int .i64 (rnd n m)) ∧ w = w' := by
  by_cases h : m < 1
  · go_enter Try.func14, Try.ntmps14
    go_wp2
    go_ret
    exact ⟨ret_int (by unfold rnd; rw [if_pos h]), rfl⟩
  · go_enter Try.func14, Try.ntmps14
    go_wp2
    go_ret
    exact ⟨ret_int (rnd_eq n m (by omega) hm), rfl⟩
end Go.Proofs.Ytbijfmpmgmfpgaa
