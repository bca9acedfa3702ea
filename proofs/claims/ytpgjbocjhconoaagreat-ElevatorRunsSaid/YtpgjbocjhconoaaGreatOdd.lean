/- The walk of ElevatorOdd. -/
import Derived.Test.YtpgjbocjhconoaaGreatElRA
import Derived.Test.YtpgjbocjhconoaaGreatBnsN
import Derived.Test.YtpgjbocjhconoaaGreatK11
import Derived.Test.YtpgjbocjhconoaaGreatOpenB
namespace Go.Proofs.YtpgjbocjhconoaaGreat
open Go.RowKit Go.Maps
set_option linter.unusedSimpArgs false

/-- What every Add keeps. -/
structure OkA (k : Nat) (E : El) : Prop where
  fl : E.fl.length = 4
  bk : E.bk.length = 4
  en : E.en.length ≤ k
  ok : ∀ x ∈ E.en, okU x.u = true
theorem OkA.add {k : Nat} {E : El} (h : OkA k E) (M B : Int) (b : Bu) : OkA (k + 1) (addE M B E b).1 := by
  have hg : (growB E.vt E.fl b.ten b.cnt).1.length = E.fl.length := advB_len2 _ _ _ _ _
  have hs : (stampB E.vt E.fl b.ten b.cnt).1.length = E.fl.length := advB_len2 _ _ _ _ _
  have h0 : OkA (k + 1) E := ⟨h.fl, h.bk, by have := h.en; omega, h.ok⟩
  unfold addE
  split
  · rename_i hok
    split
    · rename_i i hp
      obtain ⟨a, ha, hc, hd⟩ := partP_find hp
      simp only [ha]
      split
      · obtain ⟨x, y, hj⟩ := join_shape hc
        refine ⟨hg.trans h.fl, h.bk, by show (E.en.set i _).length ≤ k + 1; rw [List.length_set]; have := h.en; omega, fun z hz => ?_⟩
        have hz' : z ∈ E.en.set i ⟨joinU a.u b (canU M B a.u b), min a.due (dueU E.rdE E.wrE b), a.sta, a.tri⟩ := hz
        rcases List.mem_or_eq_of_mem_set hz' with hz | rfl
        · exact h.ok z hz
        · show okU (joinU a.u b (canU M B a.u b)) = true
          rw [hj.eq]; exact hj.ok
      · exact h0
    · split
      · refine ⟨hs.trans h.fl, h.bk, by show (E.en ++ _).length ≤ k + 1; rw [List.length_append]; have := h.en; simp; omega, fun z hz => ?_⟩
        have hz' : z ∈ E.en ++ [(⟨b, dueU E.rdE E.wrE b, (stampB E.vt E.fl b.ten b.cnt).2.1, 0⟩ : Qu)] := hz
        rcases List.mem_append.1 hz' with hz | hz
        · exact h.ok z hz
        · rw [List.mem_singleton] at hz
          subst hz
          exact hok.1
      · exact h0
  · exact h0
theorem OkA.oke {k : Nat} {E : El} (h : OkA k E) (hk : k ≤ 30) : OkE E := ⟨h.fl, h.bk, by have := h.en; omega, h.ok⟩
theorem refAdd_E (M B : Int) (E : El) (fl bu en : Value) (L : List QM) (y : BM) (w : World) (h : ElR w fl bu en E.fl E.bk L) (hL : L.map QM.qu = E.en) (ho : OkE E) (hy : Mems w y.b y.ms) :
    Calls Tryz.prog 9 #[.agg #[.int .i64 M, .int .i64 B], .agg #[.int .i64 E.knd, .int .i64 E.rdE, .int .i64 E.wrE, .int .i64 E.vt, fl, bu, en, .int .i64 E.hd], .agg #[.int .i64 (y.b).id, .int .i64 (y.b).ten, .int .i64 (y.b).knd, .int .i64 (y.b).sec, .int .i64 (y.b).cnt, .string (y.b).dat, .bool (y.b).fua, .slice (y.b).mA (y.b).mL (y.b).mC, .int .i64 (y.b).tim]] w fun e w' => ∃ fl' bu' en' L',
      e = .returned (.tuple #[.agg #[.int .i64 E.knd, .int .i64 E.rdE, .int .i64 E.wrE, .int .i64 E.vt, fl', bu', en', .int .i64 E.hd], .bool (addE M B E y.bu).2]) ∧
      ElR w' fl' bu' en' (addE M B E y.bu).1.fl E.bk L' ∧ L'.map QM.qu = (addE M B E y.bu).1.en ∧ (∀ N < w.heap.size, Off N fl bu en L → Ofm N y → Off N fl' bu' en' L') ∧ Bel w w' := by
  have hl : L.length = E.en.length := by rw [← hL, List.length_map]
  have H := refElAdd_any M B E.knd E.rdE E.wrE E.vt E.hd fl bu en E.fl E.bk L y w h hy (by rw [ho.fl]; omega) (by have := ho.en; omega)
  have e : (⟨E.knd, E.rdE, E.wrE, E.vt, E.fl, E.bk, L.map QM.qu, E.hd⟩ : El) = E := by rw [hL]
  rw [e] at H
  exact H
theorem elAdd_R (M B : Int) (E : El) (fl bu en : Value) (L : List QM) (y : BM) (w : World) (h : ElR w fl bu en E.fl E.bk L) (hL : L.map QM.qu = E.en) (ho : OkE E) (hy : Mems w y.b y.ms) (hym : y.ms.length ≤ 1000) :
    Calls Tryz.prog 8 #[.agg #[.int .i64 M, .int .i64 B], .agg #[.int .i64 E.knd, .int .i64 E.rdE, .int .i64 E.wrE, .int .i64 E.vt, fl, bu, en, .int .i64 E.hd], .agg #[.int .i64 (y.b).id, .int .i64 (y.b).ten, .int .i64 (y.b).knd, .int .i64 (y.b).sec, .int .i64 (y.b).cnt, .string (y.b).dat, .bool (y.b).fua, .slice (y.b).mA (y.b).mL (y.b).mC, .int .i64 (y.b).tim]] w fun e w' => ∃ fl' bu' en' L',
      e = .returned (.tuple #[.agg #[.int .i64 E.knd, .int .i64 E.rdE, .int .i64 E.wrE, .int .i64 E.vt, fl', bu', en', .int .i64 E.hd], .bool (addE M B E y.bu).2]) ∧
      ElN w' w.heap.size fl' bu' en' (addE M B E y.bu).1.fl E.bk L' ∧ L'.map QM.qu = (addE M B E y.bu).1.en ∧ Bel w w' := by
  obtain ⟨h1, h2, _⟩ := ho.ms hL
  have H := elAdd_any M B E.knd E.rdE E.wrE E.vt E.hd fl bu en E.fl E.bk L y w h.f h.b h.q hy (by rw [ho.fl]; omega) (by rw [ho.bk]; omega) h1 h2 hym
  have e : (⟨E.knd, E.rdE, E.wrE, E.vt, E.fl, E.bk, L.map QM.qu, E.hd⟩ : El) = E := by rw [hL]
  rw [e] at H
  exact H

end Go.Proofs.YtpgjbocjhconoaaGreat
