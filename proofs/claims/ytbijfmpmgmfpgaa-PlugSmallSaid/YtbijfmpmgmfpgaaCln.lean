/- slices.Clone over members. -/
import Derived.Test.YtbijfmpmgmfpgaaValL
import Derived.Lib.SliceRun
namespace Go.Proofs.Ytbijfmpmgmfpgaa
open Go.RowKit
set_option linter.unusedSimpArgs false

theorem Try.infoMem : (Try.prog.info? 59).map (fun i => (i.zero, i.size, i.bytes)) = some (some (.agg #[.int .i64 0, .int .i64 0, .int .i64 0]), 3, 24) := by kernel_rfl
set_option maxHeartbeats 2000000 in
theorem cloneMem_any (cs : List Value) (n : Nat) (v : Value) (w : World) (h : Rd w v 3 n cs) (hone : ∀ u ∈ cs, u.oneCell' = true) (hn : n ≤ 1000) :
    Calls Try.prog 55 #[v] w fun e w' => ∃ v', e = .returned v' ∧ w'.ownsRow w.heap.size 59 3 v' n cs ∧ Bel w w' := by
  obtain ⟨hl, A, cp, rfl, hcp, hmx, hr⟩ := h
  have hone := Lib.hid hone
  have q22 : ∀ (w : World) (a : Option Addr) (n c n' c' : Nat), (binOp .eql 25 (.slice a n c) (.slice none n' c')).run Try.prog w = .ok (.bool a.isNone) w := fun w a n c n' c' => Lib.run_eql_slice_nil w _ _ a n c n' c' Try.underlying25
  obtain ⟨i0, hi, hz0, hz1, hz2⟩ := info_parts Try.infoMem
  have HR := Lib.hid hr
  clear hr
  cases A with
  | none =>
    obtain rfl : n = 0 := by
      rcases Nat.eq_zero_or_pos n with h0 | h0
      · exact h0
      · obtain ⟨b, o, hA, _⟩ := HR.out h0; cases hA
    obtain rfl : cs = [] := by simpa using hl
    go_enter Try.func55, Try.ntmps55
    go_wp2
    go_ret
    exact ⟨_, rfl, ⟨by simp, Or.inl ⟨rfl, rfl⟩⟩, (by repeat (first | (with_reducible exact Bel.refl _) | (with_reducible assumption) | (with_reducible refine Bel.drewN ?_ _) | (with_reducible refine Bel.drew ?_) | (with_reducible refine Bel.alloc ?_ _) | (with_reducible refine Bel.setNew ?_ ?_ _) | (with_reducible refine Bel.trans ?_ (by assumption)) | (focus (simp; done)) | (focus (simp; omega))))⟩
  | some p =>
    go_enter Try.func55, Try.ntmps55
    go_wp2_with (at_builtin; go_must (refine wpList_append_own_at _ rfl _ _ 25 rfl w.heap.size 59 i0 _ 3 24 Try.underlying25 hi hz0 hz1 hz2 rfl (by omega) _ 0 [] rfl (World.ownsRow_made w #[] 0 (Nat.le_refl _) (Nat.zero_le _) rfl) p n cp cs rfl hl ?q1 hone.out (by unfold maxLen; omega) (by omega) (by simp) ?_))
    case q1 =>
      intro j u hj
      have hjn := (List.getElem?_eq_some_iff.1 hj).1
      obtain ⟨b, o, hA, hlb, hcell⟩ := HR.out (by omega)
      cases hA
      rw [Addr.add_lit]
      refine Lib.cell?_alloc_some _ ?_
      exact hcell j u hj
    intro v' w3 hown hg _ _
    go_wp2
    go_ret
    exact ⟨v', rfl, by simpa using hown, bel_own ((Bel.refl _).alloc _) (World.ownsRow_made (base := w.heap.size) (e := 59) (size := 3) w #[] 0 (Nat.le_refl _) (Nat.zero_le _) rfl) hg (Nat.le_refl _)⟩
end Go.Proofs.Ytbijfmpmgmfpgaa
