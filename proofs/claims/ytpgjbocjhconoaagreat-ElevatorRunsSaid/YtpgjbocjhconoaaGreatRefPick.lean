/- The reference's PickFair. -/
import Derived.Test.YtpgjbocjhconoaaGreatK6
namespace Go.Proofs.YtpgjbocjhconoaaGreat
open Go.RowKit
set_option linter.unusedSimpArgs false

/-- -1: none. -/
def bestI : Option Nat → Int
  | none => -1
  | some k => k

set_option maxRecDepth 100000 in
set_option maxHeartbeats 4000000 in
theorem refPick_any (l : List Qd) (may : List Bool) (v mv : Value) (w : World) (h : Rd w v 12 l.length (qcells l)) (hm : Rd w mv 1 may.length (bcells may)) :
    Calls Tryz.prog 46 #[v, mv] w fun e w' => e = .returned (.tuple #[.int .i64 ((pickN l may l.length).getD 0 : Nat), .bool (pickN l may l.length).isSome]) ∧ Bel w w' := by
  obtain ⟨_, A, cp, rfl, hcp, hmx, hr⟩ := h
  obtain ⟨_, A', cp', rfl, hcp', hmx', hr'⟩ := hm
  unfold maxLen at hmx hmx'
  obtain ⟨n, Hn⟩ : ∃ n, Hid (n = l.length) := ⟨_, rfl⟩
  obtain ⟨m, Hm⟩ : ∃ m, Hid (m = may.length) := ⟨_, rfl⟩
  obtain ⟨R, HRes⟩ : ∃ R, Hid (R = pickN l may l.length) := ⟨_, rfl⟩
  rw [← HRes.out]
  rw [← Hn.out] at hcp hr ⊢
  rw [← Hm.out] at hcp' hr' ⊢
  have HR := Lib.hid hr
  have HR' := Lib.hid hr'
  clear hr hr'
  go_enter Tryz.func46, Tryz.ntmps46
  go_wp2
  go_loopw [6, 7] (fun bv iv wr => ∃ (i : Nat) (o : Option Nat), bv = .int .i64 (bestI o) ∧ iv = .int .i64 i ∧ i ≤ n ∧ i ≤ m ∧ Hid (pickN l may i = o) ∧ Bel w wr) (fun _ iv _ => n - (intOf iv).toNat)
  case atStart => exact ⟨0, none, rfl, rfl, by omega, by omega, rfl, bI⟩
  case round =>
    obtain ⟨i, o, rfl, rfl, p1, p2, HO, hbr⟩ := hrel
    have hpast : ∀ j, m ≤ j → pickN l may j = pickN l may m := by
      intro j hj
      induction j with
      | zero =>
        have h9 : m = 0 := by omega
        rw [h9]
      | succ j ih =>
        by_cases e : m = j + 1
        · rw [e]
        · rw [pickN, if_neg (by rw [List.getElem?_eq_none (by have := Hm.out; omega)]; simp)]
          exact ih (by omega)
    have HPast := Lib.hid hpast
    clear hpast
    by_cases hlt : i < n
    · by_cases hmi : i < m
      · obtain ⟨b, of, rfl, hlb, hcell⟩ := HR.out (by omega)
        obtain ⟨q, hq⟩ : ∃ q, l[i]? = some q := ⟨l[i]'(by have := Hn.out; omega), List.getElem?_eq_getElem _⟩
        have hrow := (row_at Qd.cells_len hcell hq).bel hbr hlb
        have c1 := hrow.cell 1 rfl
        have cA := hrow.cell 10 rfl
        have HQ := Lib.hid hq
        have HC := Lib.hid hcell
        obtain ⟨b', o', rfl, hlb', hcell'⟩ := HR'.out (by omega)
        obtain ⟨y, hy⟩ : ∃ y, may[i]? = some y := ⟨may[i]'(by have := Hm.out; omega), List.getElem?_eq_getElem _⟩
        have m0 : wr.cell? ⟨b', o' + i, none⟩ = some (.bool y) := by rw [hbr.cellAt _ _ hlb']; exact hcell' _ _ (bcells_at hy)
        have HY := Lib.hid hy
        have i1 : (i : Int) < (n : Int) := by omega
        have j1 : (i : Int) < (m : Int) := by omega
        clear hcell hq hrow hcell' hy
        cases y
        · have HS : Hid (pickN l may (i + 1) = o) := by show _ = _; rw [pickN, if_neg (by rw [HY.out]; simp)]; exact HO.out
          go_wp2_with fail
          have rg0 := fun d os => cell_regrown c1 d os
          have rg1 := fun d os => cell_regrown cA d os
          have rg2 := fun d os => cell_regrown m0 d os
          refine wp_region_lex [] 49 (by kernel_rfl) (by kernel_rfl) ?_
          simp only [List.take_succ_cons, List.take_zero, List.drop_succ_cons, List.drop_zero]
          with_reducible refine lex_seg 49 _ _ _ _ (by kernel_rfl) ?_
          simp only [List.take_succ_cons, List.take_zero, List.drop_succ_cons, List.drop_zero]
          try simp only [Act.put, List.setIfInBounds_toArray, List.set_cons_succ, List.set_cons_zero]
          repeat (go_big_quiet_step (fail))
          with_reducible refine wpQuiet_nil ?_
          with_reducible refine lex_nil ?_
          clear rg0 rg1 rg2
          go_wp2
          go_roundw
          case rel => exact ⟨i + 1, o, rfl, by go_num, by omega, by omega, HS, bI⟩
          case measure => simp [intOf]; omega
        · cases o with
          | none =>
            have HS : Hid (pickN l may (i + 1) = some i) := by show _ = _; rw [pickN, if_pos HY.out, HO.out]
            have b1 : bestI none = -1 := rfl
            rw [b1]
            go_wp2_with fail
            have rg0 := fun d os => cell_regrown c1 d os
            have rg1 := fun d os => cell_regrown cA d os
            have rg2 := fun d os => cell_regrown m0 d os
            refine wp_region_lex [] 49 (by kernel_rfl) (by kernel_rfl) ?_
            simp only [List.take_succ_cons, List.take_zero, List.drop_succ_cons, List.drop_zero]
            with_reducible refine lex_seg 49 _ _ _ _ (by kernel_rfl) ?_
            simp only [List.take_succ_cons, List.take_zero, List.drop_succ_cons, List.drop_zero]
            try simp only [Act.put, List.setIfInBounds_toArray, List.set_cons_succ, List.set_cons_zero]
            repeat (go_big_quiet_step (fail))
            with_reducible refine wpQuiet_nil ?_
            with_reducible refine lex_nil ?_
            clear rg0 rg1 rg2
            go_wp2
            go_roundw
            case rel => exact ⟨i + 1, some i, rfl, by go_num, by omega, by omega, HS, bI⟩
            case measure => simp [intOf]; omega
          | some k =>
            have hk := pickN_lt l may i k HO.out
            obtain ⟨qb, hqb⟩ : ∃ q, l[k]? = some q := ⟨l[k]'(by have := Hn.out; omega), List.getElem?_eq_getElem _⟩
            have hrow2 := (row_at Qd.cells_len HC.out hqb).bel hbr hlb
            have d1 := hrow2.cell 1 rfl
            have dA := hrow2.cell 10 rfl
            have hle : lessAt l i k = lessQ q qb := by unfold lessAt; rw [HQ.out, hqb]
            have b1 : bestI (some k) = (k : Int) := rfl
            have i3 : (k : Int) < (n : Int) := by omega
            have i4 : decide ((k : Int) < 0) = false := by simp
            rw [b1]
            clear hrow2 hqb
            by_cases hs : q.sta < qb.sta
            · have HS : Hid (pickN l may (i + 1) = some i) := by show _ = _; rw [pickN, if_pos HY.out, HO.out]; simp [hle, lessQ, hs]
              clear hle
              go_wp2_with fail
              have rg0 := fun d os => cell_regrown c1 d os
              have rg1 := fun d os => cell_regrown cA d os
              have rg2 := fun d os => cell_regrown m0 d os
              have rg3 := fun d os => cell_regrown d1 d os
              have rg4 := fun d os => cell_regrown dA d os
              refine wp_region_lex [] 49 (by kernel_rfl) (by kernel_rfl) ?_
              simp only [List.take_succ_cons, List.take_zero, List.drop_succ_cons, List.drop_zero]
              with_reducible refine lex_seg 49 _ _ _ _ (by kernel_rfl) ?_
              simp only [List.take_succ_cons, List.take_zero, List.drop_succ_cons, List.drop_zero]
              try simp only [Act.put, List.setIfInBounds_toArray, List.set_cons_succ, List.set_cons_zero]
              repeat (go_big_quiet_step (fail))
              with_reducible refine wpQuiet_nil ?_
              with_reducible refine lex_nil ?_
              clear rg0 rg1 rg2 rg3 rg4
              go_wp2
              go_roundw
              case rel => exact ⟨i + 1, some i, rfl, by go_num, by omega, by omega, HS, bI⟩
              case measure => simp [intOf]; omega
            · have hs2 : decide (q.sta < qb.sta) = false := by simpa using hs
              by_cases he : q.sta = qb.sta
              · have he2 : (q.sta == qb.sta) = true := by simpa using he
                by_cases ht : q.b.ten < qb.b.ten
                · have HS : Hid (pickN l may (i + 1) = some i) := by show _ = _; rw [pickN, if_pos HY.out, HO.out]; simp [hle, lessQ, he, ht]
                  clear hle he hs
                  go_wp2_with fail
                  have rg0 := fun d os => cell_regrown c1 d os
                  have rg1 := fun d os => cell_regrown cA d os
                  have rg2 := fun d os => cell_regrown m0 d os
                  have rg3 := fun d os => cell_regrown d1 d os
                  have rg4 := fun d os => cell_regrown dA d os
                  refine wp_region_lex [] 49 (by kernel_rfl) (by kernel_rfl) ?_
                  simp only [List.take_succ_cons, List.take_zero, List.drop_succ_cons, List.drop_zero]
                  with_reducible refine lex_seg 49 _ _ _ _ (by kernel_rfl) ?_
                  simp only [List.take_succ_cons, List.take_zero, List.drop_succ_cons, List.drop_zero]
                  try simp only [Act.put, List.setIfInBounds_toArray, List.set_cons_succ, List.set_cons_zero]
                  repeat (go_big_quiet_step (fail))
                  with_reducible refine wpQuiet_nil ?_
                  with_reducible refine lex_nil ?_
                  clear rg0 rg1 rg2 rg3 rg4
                  go_wp2
                  go_roundw
                  case rel => exact ⟨i + 1, some i, rfl, by go_num, by omega, by omega, HS, bI⟩
                  case measure => simp [intOf]; omega
                · have ht2 : decide (q.b.ten < qb.b.ten) = false := by simpa using ht
                  have HS : Hid (pickN l may (i + 1) = some k) := by show _ = _; rw [pickN, if_pos HY.out, HO.out]; simp [hle, lessQ, he]; omega
                  clear hle he hs ht
                  go_wp2_with fail
                  have rg0 := fun d os => cell_regrown c1 d os
                  have rg1 := fun d os => cell_regrown cA d os
                  have rg2 := fun d os => cell_regrown m0 d os
                  have rg3 := fun d os => cell_regrown d1 d os
                  have rg4 := fun d os => cell_regrown dA d os
                  refine wp_region_lex [] 49 (by kernel_rfl) (by kernel_rfl) ?_
                  simp only [List.take_succ_cons, List.take_zero, List.drop_succ_cons, List.drop_zero]
                  with_reducible refine lex_seg 49 _ _ _ _ (by kernel_rfl) ?_
                  simp only [List.take_succ_cons, List.take_zero, List.drop_succ_cons, List.drop_zero]
                  try simp only [Act.put, List.setIfInBounds_toArray, List.set_cons_succ, List.set_cons_zero]
                  repeat (go_big_quiet_step (fail))
                  with_reducible refine wpQuiet_nil ?_
                  with_reducible refine lex_nil ?_
                  clear rg0 rg1 rg2 rg3 rg4
                  go_wp2
                  go_roundw
                  case rel => exact ⟨i + 1, some k, rfl, by go_num, by omega, by omega, HS, bI⟩
                  case measure => simp [intOf]; omega
              · have he2 : (q.sta == qb.sta) = false := by simpa using he
                have HS : Hid (pickN l may (i + 1) = some k) := by show _ = _; rw [pickN, if_pos HY.out, HO.out]; simp [hle, lessQ, he, hs]
                clear hle he hs
                go_wp2_with fail
                have rg0 := fun d os => cell_regrown c1 d os
                have rg1 := fun d os => cell_regrown cA d os
                have rg2 := fun d os => cell_regrown m0 d os
                have rg3 := fun d os => cell_regrown d1 d os
                have rg4 := fun d os => cell_regrown dA d os
                refine wp_region_lex [] 49 (by kernel_rfl) (by kernel_rfl) ?_
                simp only [List.take_succ_cons, List.take_zero, List.drop_succ_cons, List.drop_zero]
                with_reducible refine lex_seg 49 _ _ _ _ (by kernel_rfl) ?_
                simp only [List.take_succ_cons, List.take_zero, List.drop_succ_cons, List.drop_zero]
                try simp only [Act.put, List.setIfInBounds_toArray, List.set_cons_succ, List.set_cons_zero]
                repeat (go_big_quiet_step (fail))
                with_reducible refine wpQuiet_nil ?_
                with_reducible refine lex_nil ?_
                clear rg0 rg1 rg2 rg3 rg4
                go_wp2
                go_roundw
                case rel => exact ⟨i + 1, some k, rfl, by go_num, by omega, by omega, HS, bI⟩
                case measure => simp [intOf]; omega
      · obtain rfl : i = m := by omega
        have hE : R = o := by rw [HRes.out, ← HO.out, ← Hn.out]; exact HPast.out n (by omega)
        subst hE
        have i1 : (i : Int) < (n : Int) := by omega
        have i2 : decide ((i : Int) < (i : Int)) = false := by simp
        cases R with
        | none =>
          have b1 : bestI none = -1 := rfl
          rw [b1]
          go_wp2
          go_ret2
          exact ⟨rfl, bI⟩
        | some k =>
          have b1 : bestI (some k) = (k : Int) := rfl
          have b2 : (if (0 : Int) < (k : Int) then (k : Int) else 0) = (k : Int) := by split <;> omega
          have b3 : (0 : Int) ≤ (k : Int) := by omega
          rw [b1]
          clear b2
          go_wp2
          all_goals
            go_ret2
            first
            | exact ⟨rfl, bI⟩
            | (obtain rfl : k = 0 := by omega
               exact ⟨rfl, bI⟩)
    · obtain rfl : i = n := by omega
      have hE : R = o := by rw [HRes.out, ← HO.out, ← Hn.out]
      subst hE
      have i2 : decide ((i : Int) < (i : Int)) = false := by simp
      cases R with
      | none =>
        have b1 : bestI none = -1 := rfl
        rw [b1]
        go_wp2
        go_ret2
        exact ⟨rfl, bI⟩
      | some k =>
        have b1 : bestI (some k) = (k : Int) := rfl
        have b2 : (if (0 : Int) < (k : Int) then (k : Int) else 0) = (k : Int) := by split <;> omega
        have b3 : (0 : Int) ≤ (k : Int) := by omega
        rw [b1]
        clear b2
        go_wp2
        all_goals
          go_ret2
          first
          | exact ⟨rfl, bI⟩
          | (obtain rfl : k = 0 := by omega
             exact ⟨rfl, bI⟩)
end Go.Proofs.YtpgjbocjhconoaaGreat
