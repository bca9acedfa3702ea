/- The law's awake. -/
import Derived.Test.YtacbljfpcchbbaaFairG
namespace Go.Proofs.Ytacbljfpcchbbaa
open Go.RowKit
set_option linter.unusedSimpArgs false

theorem Ints.two (w : World) (t : TypeId) {a b : Int} (ha : IsInt a) (hb : IsInt b) : Ints (w.alloc (.cells #[.int .i64 a, .int .i64 b] t)) (.slice (some ⟨w.heap.size, 0, none⟩) 2 2) [a, b] := by
  refine ⟨?_, _, 2, rfl, Nat.le_refl _, by unfold maxLen; omega, fun _ => ⟨w.heap.size, 0, rfl, by simp, ?_⟩⟩
  · intro z hz
    simp at hz
    rcases hz with rfl | rfl <;> assumption
  · intro j hj
    match j, hj with
    | 0, _ => simp [go_sem]
    | 1, _ => simp [go_sem]
    | j + 2, h => exact absurd h (by simp)

theorem madeF_fok (n : Int) : Fok 0 (madeF n) := by
  obtain ⟨a, b, c, _, _, _, h1, h2, h3, HM⟩ := madeF_eq n
  rw [HM.out]
  refine ⟨rfl, ?_⟩
  intro k x y hk
  match k with
  | 0 => simp [newF] at hk; omega
  | 1 => simp [newF] at hk; omega
  | 2 => simp [newF] at hk; omega
  | k + 3 => simp [newF] at hk

set_option maxHeartbeats 4000000 in
theorem awakeFair_any (w : World) :
    Calls Try.prog 15 #[] w fun e w' => e = .returned (.bool true) ∧ Bel w w' := by
  have hN := fairNew_any [1, 2] _ _ (Ints.two w 3 (a := 1) (b := 2) ⟨by omega, by omega⟩ ⟨by omega, by omega⟩) (by simp)
  rw [show fairOk 0 (newF [1, 2]) = true from rfl, if_pos rfl, show newF [1, 2] = [(1, 0), (2, 0)] from rfl] at hN
  have HN := Lib.hid hN
  clear hN
  go_enter Try.func15, Try.ntmps15
  go_wp2_with fail
  refine HN.out.mono ?_; rintro e w1 ⟨v1, rfl, hown1, hb1⟩
  obtain ⟨A1, c1, rfl⟩ := own_slice hown1
  have hbw : Bel w w1 := ((Bel.refl _).alloc _).trans hb1
  have hA1 := AtF.new w1 25 [.int .i64 0, .slice A1 2 c1]
  have hR1 := (Rd.own hown1).alloc (.cells #[.int .i64 0, .slice A1 2 c1] 25)
  have hw1 : Bel w (w1.alloc (.cells #[.int .i64 0, .slice A1 2 c1] 25)) := hbw.alloc _
  clear hb1 hown1
  have a0 := hA1.1.2 0 _ rfl
  have a1 := hA1.1.2 1 _ rfl
  have af := hA1.2
  have al := hA1.1.1
  go_wp2_with fail
  refine (fairStamp_any 0 0 1 [(1, 0), (2, 0)] _ _ hR1 (by simp)).mono ?_; rw [show stampB 0 [(1, 0), (2, 0)] 0 1 = ([(1, 840), (2, 0)], 0, true) from by rfl]; rintro e w2 ⟨v2, rfl, hown2, hb2⟩
  obtain ⟨A2, c2, rfl⟩ := own_slice hown2
  have hA2 := ((hA1.bel hb2).set 0 (by simp) (.int .i64 0)).set 1 (by simp) (.slice A2 2 c2)
  have hne2 : ∀ p : Nat, p = w1.heap.size → (Value.slice A2 2 c2).ownBlock ≠ some p := by rintro p rfl; exact own_ne hown2 (.inl al)
  have hR2 := ((Rd.own hown2).far (p := ⟨w1.heap.size, 0, none⟩) (hne2 _ rfl) (.int .i64 0)).far (p := ⟨w1.heap.size, 1, none⟩) (hne2 _ rfl) (.slice A2 2 c2)
  have a0 := (hA1.bel hb2).1.2 0 _ rfl
  have a1 := (hA1.bel hb2).1.2 1 _ rfl
  have af := (hA1.bel hb2).2
  have al := (hA1.bel hb2).1.1
  have hw2 : Bel w ((w2.setCell ⟨w1.heap.size, 0, none⟩ (.int .i64 0)).setCell ⟨w1.heap.size, 1, none⟩ (.slice A2 2 c2)) := ((hw1.trans hb2).setNew hbw.size _).setNew hbw.size _
  clear hA1 hR1 hw1 hb2 hown2 hne2
  have a0 := hA2.1.2 0 _ rfl
  have a1 := hA2.1.2 1 _ rfl
  have af := hA2.2
  have al := hA2.1.1
  go_wp2_with fail
  refine (fairStamp_any 0 0 1 [(1, 840), (2, 0)] _ _ hR2 (by simp)).mono ?_; rw [show stampB 0 [(1, 840), (2, 0)] 0 1 = ([(1, 1680), (2, 0)], 840, true) from by rfl]; rintro e w3 ⟨v3, rfl, hown3, hb3⟩
  obtain ⟨A3, c3, rfl⟩ := own_slice hown3
  have hA3 := ((hA2.bel hb3).set 0 (by simp) (.int .i64 0)).set 1 (by simp) (.slice A3 2 c3)
  have hne3 : ∀ p : Nat, p = w1.heap.size → (Value.slice A3 2 c3).ownBlock ≠ some p := by rintro p rfl; exact own_ne hown3 (.inl al)
  have hR3 := ((Rd.own hown3).far (p := ⟨w1.heap.size, 0, none⟩) (hne3 _ rfl) (.int .i64 0)).far (p := ⟨w1.heap.size, 1, none⟩) (hne3 _ rfl) (.slice A3 2 c3)
  have a0 := (hA2.bel hb3).1.2 0 _ rfl
  have a1 := (hA2.bel hb3).1.2 1 _ rfl
  have af := (hA2.bel hb3).2
  have al := (hA2.bel hb3).1.1
  have hw3 : Bel w ((w3.setCell ⟨w1.heap.size, 0, none⟩ (.int .i64 0)).setCell ⟨w1.heap.size, 1, none⟩ (.slice A3 2 c3)) := ((hw2.trans hb3).setNew hbw.size _).setNew hbw.size _
  clear hA2 hR2 hw2 hb3 hown3 hne3
  have a0 := hA3.1.2 0 _ rfl
  have a1 := hA3.1.2 1 _ rfl
  have af := hA3.2
  have al := hA3.1.1
  go_wp2_with fail
  refine (fairStamp_any 0 1 1 [(1, 1680), (2, 0)] _ _ hR3 (by simp)).mono ?_; rw [show stampB 0 [(1, 1680), (2, 0)] 1 1 = ([(1, 1680), (2, 420)], 0, true) from by rfl]; rintro e w4 ⟨v4, rfl, hown4, hb4⟩
  obtain ⟨A4, c4, rfl⟩ := own_slice hown4
  have hA4 := ((hA3.bel hb4).set 0 (by simp) (.int .i64 0)).set 1 (by simp) (.slice A4 2 c4)
  have hne4 : ∀ p : Nat, p = w1.heap.size → (Value.slice A4 2 c4).ownBlock ≠ some p := by rintro p rfl; exact own_ne hown4 (.inl al)
  have hR4 := ((Rd.own hown4).far (p := ⟨w1.heap.size, 0, none⟩) (hne4 _ rfl) (.int .i64 0)).far (p := ⟨w1.heap.size, 1, none⟩) (hne4 _ rfl) (.slice A4 2 c4)
  have a0 := (hA3.bel hb4).1.2 0 _ rfl
  have a1 := (hA3.bel hb4).1.2 1 _ rfl
  have af := (hA3.bel hb4).2
  have al := (hA3.bel hb4).1.1
  have hw4 : Bel w ((w4.setCell ⟨w1.heap.size, 0, none⟩ (.int .i64 0)).setCell ⟨w1.heap.size, 1, none⟩ (.slice A4 2 c4)) := ((hw3.trans hb4).setNew hbw.size _).setNew hbw.size _
  clear hA3 hR3 hw3 hb4 hown4 hne4
  have a0 := hA4.1.2 0 _ rfl
  have a1 := hA4.1.2 1 _ rfl
  have af := hA4.2
  have al := hA4.1.1
  go_wp2_with fail
  refine (fairStamp_any 0 1 1 [(1, 1680), (2, 420)] _ _ hR4 (by simp)).mono ?_; rw [show stampB 0 [(1, 1680), (2, 420)] 1 1 = ([(1, 1680), (2, 840)], 420, true) from by rfl]; rintro e w5 ⟨v5, rfl, hown5, hb5⟩
  obtain ⟨A5, c5, rfl⟩ := own_slice hown5
  have hA5 := ((hA4.bel hb5).set 0 (by simp) (.int .i64 0)).set 1 (by simp) (.slice A5 2 c5)
  have hne5 : ∀ p : Nat, p = w1.heap.size → (Value.slice A5 2 c5).ownBlock ≠ some p := by rintro p rfl; exact own_ne hown5 (.inl al)
  have hR5 := ((Rd.own hown5).far (p := ⟨w1.heap.size, 0, none⟩) (hne5 _ rfl) (.int .i64 0)).far (p := ⟨w1.heap.size, 1, none⟩) (hne5 _ rfl) (.slice A5 2 c5)
  have a0 := (hA4.bel hb5).1.2 0 _ rfl
  have a1 := (hA4.bel hb5).1.2 1 _ rfl
  have af := (hA4.bel hb5).2
  have al := (hA4.bel hb5).1.1
  have hw5 : Bel w ((w5.setCell ⟨w1.heap.size, 0, none⟩ (.int .i64 0)).setCell ⟨w1.heap.size, 1, none⟩ (.slice A5 2 c5)) := ((hw4.trans hb5).setNew hbw.size _).setNew hbw.size _
  clear hA4 hR4 hw4 hb5 hown5 hne5
  go_wp2_with fail
  refine (fairValid_any 0 [(1, 1680), (2, 840)] _ _ hR5).mono ?_; rw [show fairOk 0 [(1, 1680), (2, 840)] = true from rfl]; rintro e w6 ⟨rfl, hb6⟩
  go_wp2
  go_ret
  exact ⟨rfl, hw5.trans hb6⟩
end Go.Proofs.Ytacbljfpcchbbaa
