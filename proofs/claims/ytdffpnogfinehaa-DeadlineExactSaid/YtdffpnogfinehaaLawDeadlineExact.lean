/-
  DeadlineExact: the given statement, out of the walk deadlineExact_walk. For every input, without conditions.
-/
import Derived.Test.YtdffpnogfinehaaDlE
import Derived.ShutString
import Derived.ChangeOld
import Derived.Lib.SmallJoins
namespace Go.Proofs.Ytdffpnogfinehaa.deadlineExact
open Go.ChangeShapes Go.WideShapes Go.ChangeAt Go.RowKit
set_option linter.unusedVariables false

theorem own : ownKnob Try.prog.godebug = none := by kernel_rfl
theorem laidOut : laidOutB Try.prog = true := by kernel_rfl

set_option maxRecDepth 100000 in
theorem lifted (os : Os) (started : os.Started) (H : Type) (enc : TypeId × Value → H) :
    ReturnsInHanded {} Try.checked os 7 .any (Rows.deadlineExactSpec.pre6 enc Try.prog Try.f7 Rows.deadlineExactRow.domain false) (Rows.deadlineExactSpec.post enc Try.prog Try.f7 false true false false) := by
  refine returnsInHanded_of_change (C := Try.checked) own started (by kernel_rfl) Try.func7
    (ChangeSpec.witness6 (enc := enc) (C := Try.checked) false ⟨#[], #[.agg #[.int .i64 0, .int .i64 0], .slice none 0 0, .slice none 0 0, .slice none 0 0, .int .i64 0, .int .i64 0, .int .i64 0], []⟩ 8 (by kernel_rfl) (by kernel_rfl) (by kernel_rfl) (by kernel_rfl)) ?_
  intro W base args ds gs before hval0 hW hcnd _
  have hval : ∀ (j : Nat) t v, Try.f7.params[j]? = some t → args[j]? = some v → Value.okWide Try.prog W .any base t v := hval0
  have hW' := hW
  obtain ⟨p, q, hA0, hV, rfl, hfz, hnd⟩ := hW
  have hA : DataW.TrodAll enc Try.prog W 0 (fun _ => true) true Try.f7.params.toList args.toList ds p := hA0
  rw [Try.params7] at hA hval
  obtain ⟨v0, vs0, d0, ds0, p0, q0, hargs, rfl, rfl, h0, r0⟩ := trodAll_cons hA
  obtain ⟨v1, vs1, d1, ds1, p1, q1, rfl, rfl, rfl, h1, r1⟩ := trodAll_cons r0
  obtain ⟨v2, vs2, d2, ds2, p2, q2, rfl, rfl, rfl, h2, r2⟩ := trodAll_cons r1
  obtain ⟨v3, vs3, d3, ds3, p3, q3, rfl, rfl, rfl, h3, r3⟩ := trodAll_cons r2
  obtain ⟨v4, vs4, d4, ds4, p4, q4, rfl, rfl, rfl, h4, r4⟩ := trodAll_cons r3
  obtain ⟨v5, vs5, d5, ds5, p5, q5, rfl, rfl, rfl, h5, r5⟩ := trodAll_cons r4
  obtain ⟨v6, vs6, d6, ds6, p6, q6, rfl, rfl, rfl, h6, r6⟩ := trodAll_cons r5
  obtain ⟨rfl, rfl, rfl⟩ := trodAll_nil r6
  obtain rfl : args = #[v0, v1, v2, v3, v4, v5, v6] := by cases args; simp_all
  obtain ⟨rfl, rfl⟩ := trodVars_none hV
  have k0 := h0
  have lt0 : ∀ x ∈ p0, x.block < W.heap.size := by obtain ⟨m, hm⟩ := k0; exact DataW.trod_lt m _ _ _ hm
  obtain ⟨c00, c01, y00, y01, m0, rfl, _, _, hy00, hy01⟩ := Go.Joins.open_agg2 Try.underlying44 (by kernel_rfl) (by kernel_rfl) (hval 0 44 v0 rfl rfl) h0
  obtain ⟨a00, e00, _, w00⟩ := DataW.trod_int Try.underlying3 hy00
  obtain ⟨a01, e01, _, w01⟩ := DataW.trod_int Try.underlying3 hy01
  simp at e00 e01
  subst e00 e01
  have b00 := int_bounds w00
  have b01 := int_bounds w01
  obtain ⟨a1, len1, cap1, rfl⟩ := okWide_slice Try.underlying23 (hval 1 23 v1 rfl rfl)
  have k1 := h1
  have lt1 : ∀ x ∈ p1, x.block < W.heap.size := by obtain ⟨m, hm⟩ := k1; exact DataW.trod_lt m _ _ _ hm
  obtain ⟨s1, l1, e1, hR1, hP1⟩ : ∃ (v : Value) (l : List QM), [Value.slice a1 len1 cap1] = [v] ∧ Rd W v 12 l.length (l.flatMap (fun x => x.q.cells)) ∧ ∀ a ∈ l, (fun x => Mems W x.q.b x.ms) a := by
    obtain ⟨fuel, hf⟩ := h1
    exact rd_of_slice2 (α := QM) (p := fun x => Mems W x.q.b x.ms) (f := fun x => x.q.cells) (m := 12) Try.underlying23 (by kernel_rfl) (by omega) (fun _ => rfl) el_qm hf
  simp at e1
  subst e1
  obtain ⟨a2, len2, cap2, rfl⟩ := okWide_slice Try.underlying25 (hval 2 25 v2 rfl rfl)
  have k2 := h2
  have lt2 : ∀ x ∈ p2, x.block < W.heap.size := by obtain ⟨m, hm⟩ := k2; exact DataW.trod_lt m _ _ _ hm
  obtain ⟨s2, l2, e2, hR2, hP2⟩ : ∃ (v : Value) (l : List BM), [Value.slice a2 len2 cap2] = [v] ∧ Rd W v 9 l.length (l.flatMap (fun x => x.b.cells)) ∧ ∀ a ∈ l, (fun x => Mems W x.b x.ms) a := by
    obtain ⟨fuel, hf⟩ := h2
    exact rd_of_slice2 (α := BM) (p := fun x => Mems W x.b x.ms) (f := fun x => x.b.cells) (m := 9) Try.underlying25 (by kernel_rfl) (by omega) (fun _ => rfl) el_bm hf
  simp at e2
  subst e2
  obtain ⟨a3, len3, cap3, rfl⟩ := okWide_slice Try.underlying29 (hval 3 29 v3 rfl rfl)
  have k3 := h3
  have lt3 : ∀ x ∈ p3, x.block < W.heap.size := by obtain ⟨m, hm⟩ := k3; exact DataW.trod_lt m _ _ _ hm
  obtain ⟨s3, l3, e3, hR3, hP3⟩ : ∃ (v : Value) (l : List Bool), [Value.slice a3 len3 cap3] = [v] ∧ Rd W v 1 l.length (l.flatMap (fun b => [.bool b])) ∧ ∀ a ∈ l, (fun _ => True) a := by
    obtain ⟨fuel, hf⟩ := h3
    exact rd_of_slice2 (α := Bool) (p := fun _ => True) (f := fun b => [.bool b]) (m := 1) Try.underlying29 (by kernel_rfl) (by omega) (fun _ => rfl) el_bool2 hf
  simp at e3
  subst e3
  obtain ⟨a4, rfl, rfl, rfl, w4⟩ := open_int Try.underlying3 (hval 4 3 v4 rfl rfl) h4
  have b4 := int_bounds w4
  obtain ⟨a5, rfl, rfl, rfl, w5⟩ := open_int Try.underlying3 (hval 5 3 v5 rfl rfl) h5
  have b5 := int_bounds w5
  obtain ⟨a6, rfl, rfl, rfl, w6⟩ := open_int Try.underlying3 (hval 6 3 v6 rfl rfl) h6
  have b6 := int_bounds w6
  clear hA0 hval0
  refine (deadlineExact_walk a00 a01 _ l1 _ l2 _ l3 a4 a5 a6 W b00 b01 (ql_of hR1 hP1) (bl_of hR2 hP2) (by rw [flat_bool2] at hR3; exact hR3) b4 b5 b6).mono fun e W' ⟨he, bel⟩ => ?_
  subst he
  exact ⟨_, rfl, _, _, _, [], _, [], hW', trodAll_mk1 (shut_bool Try.underlying4 _), (trodAll_cons_mk (Below.trod laidOut (by kernel_rfl) (of_decide_eq_true (by kernel_rfl)) k0 bel lt0) (trodAll_cons_mk (Below.trod laidOut (by kernel_rfl) (of_decide_eq_true (by kernel_rfl)) k1 bel lt1) (trodAll_cons_mk (Below.trod laidOut (by kernel_rfl) (of_decide_eq_true (by kernel_rfl)) k2 bel lt2) (trodAll_cons_mk (Below.trod laidOut (by kernel_rfl) (of_decide_eq_true (by kernel_rfl)) k3 bel lt3) (trodAll_cons_mk (shut_int Try.underlying3 w4) (trodAll_cons_mk (shut_int Try.underlying3 w5) (trodAll_cons_mk (shut_int Try.underlying3 w6) trodAll_mk0))))))), rfl, Below.frame bel _, fun h => by cases h⟩

theorem over : Rows.deadlineExactRow.holds Try.pinned (OpenSpec.ofChange Rows.deadlineExactSpec) :=
  OpenClaim.holds_of_wide 7 Try.f7 rfl rfl rfl rfl rfl rfl rfl ⟨rfl, rfl, rfl, rfl, rfl⟩ rfl rfl rfl rfl rfl (by kernel_rfl) Try.func7 (by kernel_rfl)
    (of_decide_eq_true (by kernel_rfl)) (by unfold Func.isWrapper; first | (rw [if_pos (by decide +kernel)]; kernel_rfl) | (rw [if_neg (by decide +kernel)]; exact ⟨rfl, rfl⟩))
    (fun os started H enc _ => lifted os started H enc)

theorem proved : Rows.DeadlineExactSaid := over
#print axioms proved
end Go.Proofs.Ytdffpnogfinehaa.deadlineExact
