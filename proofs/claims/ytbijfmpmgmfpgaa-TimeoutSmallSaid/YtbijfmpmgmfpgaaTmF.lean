/- The awake of the law of timeout; the walk of TimeoutStrikes. -/
import Derived.Test.YtbijfmpmgmfpgaaTmE
namespace Go.Proofs.Ytbijfmpmgmfpgaa
open Go.RowKit
set_option linter.unusedSimpArgs false

set_option maxRecDepth 100000 in
set_option maxHeartbeats 4000000 in
theorem awake28_any (w : World) : Calls Try.prog 52 #[] w fun e w' => e = .returned (.bool true) ∧ Bel w w' := by
  have e1 : stW 10 [] 7 3 = [⟨7, 3⟩] := by simp [stW, stB, limB, sncB]
  have b1 : stB 10 [] 7 3 = true := by decide
  have e2 : stW 10 [⟨7, 3⟩] 8 5 = [⟨7, 3⟩, ⟨8, 5⟩] := by simp [stW, stB, limB, sncB]
  have b2 : stB 10 [⟨7, 3⟩] 8 5 = true := by decide
  have e3 : dueL 10 15 [⟨7, 3⟩, ⟨8, 5⟩] = [7, 8] := by decide
  have hS : Srt [⟨7, 3⟩, ⟨8, 5⟩] := by
    intro k x y hx hy
    match k, hx, hy with
    | 0, hx, hy => simp at hx hy; subst hx hy; decide
    | k + 1, _, hy => simp at hy
  have hI : InR [⟨7, 3⟩, ⟨8, 5⟩] := by
    intro m hm
    simp at hm
    rcases hm with rfl | rfl <;> decide
  have HS1 := Lib.hid (fun w' => start_any 10 0 7 3 (.slice none 0 0) [] w' (Rd.nil w' 2) (by simp))
  rw [e1, b1] at HS1
  have HS2 := Lib.hid (fun v w' (h : Rd w' v 2 1 (wcells [⟨7, 3⟩])) => start_any 10 0 8 5 v [⟨7, 3⟩] w' h (by simp))
  rw [e2, b2] at HS2
  have HN := Lib.hid (fun v w' (h : Rd w' v 2 2 (wcells [⟨7, 3⟩, ⟨8, 5⟩])) => next_any 10 0 v [⟨7, 3⟩, ⟨8, 5⟩] w' h (by simp) hS hI (by decide))
  have HD := Lib.hid (fun v w' (h : Rd w' v 2 2 (wcells [⟨7, 3⟩, ⟨8, 5⟩])) => due_any 10 0 15 v [⟨7, 3⟩, ⟨8, 5⟩] w' h (by simp) hS hI (by decide))
  rw [e3] at HD
  clear e1 b1 e2 b2 e3 hS hI
  go_enter Try.func52, Try.ntmps52
  go_wp2_with fail
  refine (HS1.out _).mono ?_; rintro e w1 ⟨v1, rfl, ho1, hb1⟩
  obtain ⟨A1, c1, rfl⟩ := own_slice ho1
  have hA := AtF.new w1 68 [.int .i64 10, .slice A1 1 c1, .int .i64 0]
  simp only [List.toArray] at hA
  have ho1' := ho1.alloc (.cells #[.int .i64 10, .slice A1 1 c1, .int .i64 0] 68)
  have hb2 : Bel w (w1.alloc (.cells #[.int .i64 10, .slice A1 1 c1, .int .i64 0] 68)) := hb1.alloc _
  go_wp2_with fail
  refine (HS2.out _ _ (Rd.own ho1')).mono ?_; rintro e w2 ⟨v2, rfl, ho2, hb3⟩
  obtain ⟨A2, c2, rfl⟩ := own_slice ho2
  have hA2 := hA.bel hb3
  have a0 := hA2.1.2 0 _ rfl
  have a1 := hA2.1.2 1 _ rfl
  have a2 := hA2.1.2 2 _ rfl
  have af := hA2.2
  have al := hA2.1.1
  have hsz := hb1.size
  have hA3 := hA2.setRow [.int .i64 10, .slice A2 2 c2, .int .i64 0] rfl
  have ho3 := setRow_own (B := w1.heap.size) (i := 0) [.int .i64 10, .slice A2 2 c2, .int .i64 0] ho2 (own_ne ho2 (.inl (by simp)))
  have hb4 := Bel.setRow (B := w1.heap.size) (i := 0) [.int .i64 10, .slice A2 2 c2, .int .i64 0] (hb2.trans hb3) hsz
  have HA3 := Lib.hid (And.intro hA3 (And.intro ho3 hb4))
  clear hA ho1 hb1 ho1' hb2 ho2 hb3 hA2 hA3 ho3 hb4
  go_upto_region 3 with fail
  have HA3' := HA3.out
  simp only [setRow] at HA3'
  generalize World.setCell _ _ _ = W at HA3' ⊢
  obtain ⟨hA, ho, hb⟩ := HA3'
  clear a0 a1 a2 af al HA3
  have a0 := hA.1.2 0 _ rfl
  have a1 := hA.1.2 1 _ rfl
  have a2 := hA.1.2 2 _ rfl
  go_wp2_with fail
  refine (HN.out _ _ (Rd.own ho)).mono ?_; rintro e w3 ⟨rfl, hb5⟩
  simp only [nextB]
  have hA5 := hA.bel hb5
  have ho5 := own_keep ho hb5
  clear a0 a1 a2 hA ho
  have a0 := hA5.1.2 0 _ rfl
  have a1 := hA5.1.2 1 _ rfl
  have a2 := hA5.1.2 2 _ rfl
  go_wp2_with fail
  refine (HD.out _ _ (Rd.own ho5)).mono ?_; rintro e w4 ⟨v3, rfl, ho6, hb6⟩
  obtain ⟨A3, c3, rfl⟩ := own_slice ho6
  clear a0 a1 a2
  go_wp2_with fail
  refine (sameInts_eq [7, 8] (.slice A3 2 c3) (.slice (some ⟨w4.heap.size, 0, none⟩) 2 2) _ (Rd.own (ho6.alloc _)) (Rd.new w4 3 (icells [7, 8]) 1 2 rfl (by unfold maxLen; omega))).mono ?_; rintro e w5 ⟨rfl, hb7⟩
  go_wp2
  go_ret
  exact ⟨rfl, hb.trans (hb5.trans (hb6.trans (((Bel.refl _).alloc _).trans hb7)))⟩

theorem rd0 {w w' : World} {v : Value} (h : Rd w v 2 0 []) : Rd w' v 2 0 [] := by
  obtain ⟨h1, A, c, h2, h3, h4, _⟩ := h
  exact ⟨h1, A, c, h2, h3, h4, fun h => absurd h (by omega)⟩

set_option maxRecDepth 100000 in
set_option maxHeartbeats 4000000 in
theorem timeoutStrikes_walk (v : Value) (zs : List Int) (w : World) (hz : Ints w v zs) :
    Calls Try.prog 13 #[v] w fun e w' => e = .returned (.bool true) ∧ Bel w w' := by
  obtain ⟨_, A9, c9, rfl, hc1, hc2, hrd⟩ := hz
  unfold maxLen at hc2
  have HR := Lib.hid hrd
  have HCM := Lib.hid (fun s v w' (h : Rd w' v 2 0 (wcells [])) => calm_any 0 s v [] w' h (by simp))
  have HSK := Lib.hid (fun s v w' (h : Rd w' v 2 0 (wcells [])) => strike_any 0 s v [] w' h (by simp))
  obtain ⟨n, Hn⟩ : ∃ n, Hid (n = zs.length) := ⟨_, rfl⟩
  rw [← Hn.out] at hc1 ⊢
  clear hrd
  go_enter Try.func13, Try.ntmps13
  go_wp2
  go_loopw [4, 5] (fun nv iv wr => ∃ (i : Nat) (k : Int) (A : Option Addr) (c : Nat), iv = .int .i64 i ∧ nv = .int .i64 k ∧ (k = 0 ∨ k = 1) ∧ i ≤ n ∧ i ≤ 20 ∧ Rd wr (.slice A 0 c) 2 0 [] ∧ AtF wr w.heap.size [.int .i64 0, .slice A 0 c, .int .i64 k] ∧ Bel w wr) (fun _ iv _ => n - (intOf iv).toNat)
  case atStart => exact ⟨0, 0, none, 0, rfl, rfl, .inl rfl, by omega, by omega, Rd.nil _ 2, AtF.new_at rfl _ _, (by repeat (first | (with_reducible exact Bel.refl _) | (with_reducible assumption) | (with_reducible refine Bel.drewN ?_ _) | (with_reducible refine Bel.drew ?_) | (with_reducible refine Bel.alloc ?_ _) | (with_reducible refine Bel.setNew ?_ ?_ _) | (with_reducible refine Bel.trans ?_ (by assumption)) | (focus (simp; done)) | (focus (simp; omega))))⟩
  case round =>
    obtain ⟨i, k, A, c, rfl, rfl, p0, p1, p2, hrd, hA, hbr⟩ := hrel
    have a0 := hA.1.2 0 _ rfl
    have a1 := hA.1.2 1 _ rfl
    have a2 := hA.1.2 2 _ rfl
    by_cases hlt : i < n ∧ i < 20
    · obtain ⟨g1, g2⟩ := hlt
      have i1 : (i : Int) < (n : Int) := by omega
      have i2 : (i : Int) < 20 := by omega
      obtain ⟨b, o, rfl, hlb, hcell⟩ := HR.out (by rw [← Hn.out]; omega)
      obtain ⟨z, hz⟩ : ∃ z, z = zs[i]'(by rw [← Hn.out]; omega) := ⟨_, rfl⟩
      have z0 : wr.cell? ⟨b, o + i, none⟩ = some (.int .i64 z) := by
        rw [hbr.cellAt b _ hlb, hz]; exact hcell i (by rw [← Hn.out]; omega)
      clear hcell hz
      go_wp2_with fail
      refine (round_any z 4 _ (by omega)).mono ?_; rintro e w1 ⟨rfl, rfl⟩
      obtain ⟨r, Hr⟩ : ∃ r, Hid (r = rnd z 4) := ⟨_, rfl⟩
      rw [← Hr.out]
      by_cases hr0 : r = 0
      · have hrb : (r == 0) = true := by simpa using hr0
        clear hr0
        go_wp2_with fail
        refine (HCM.out k _ _ hrd).mono ?_; rintro e w2 ⟨v', rfl, hown, hb2⟩
        obtain ⟨A', c', rfl⟩ := own_slice hown
        have hA2 := hA.bel hb2
        clear a0 a1 a2 z0
        have a0 := hA2.1.2 0 _ rfl
        have a1 := hA2.1.2 1 _ rfl
        have a2 := hA2.1.2 2 _ rfl
        have af := hA2.2
        have hr2 : Rd w2 (.slice A' 0 c') 2 0 [] := Rd.own hown
        have hA3 := hA2.setRow [.int .i64 0, .slice A' 0 c', .int .i64 0] rfl
        have hb3 := Bel.setRow (B := w.heap.size) (i := 0) [.int .i64 0, .slice A' 0 c', .int .i64 0] (hbr.trans hb2) (Nat.le_refl _)
        have HX := Lib.hid (And.intro hA3 hb3)
        clear hA3 hb3
        go_wp2
        go_roundw
        case rel => exact ⟨i + 1, 0, A', c', by go_num, rfl, .inl rfl, by omega, by omega, rd0 hr2, HX.out.1, HX.out.2⟩
        case measure => simp [intOf]; omega
      · have hrb : (r == 0) = false := by simpa using hr0
        clear hr0
        rcases p0 with rfl | rfl
        · have e1 : strN 0 = 1 := by decide
          have e2 : strB 0 = false := by decide
          go_wp2_with fail
          refine (HSK.out 0 _ _ hrd).mono ?_; rw [e1, e2]; rintro e w2 ⟨v', rfl, hown, hb2⟩
          obtain ⟨A', c', rfl⟩ := own_slice hown
          have hA2 := hA.bel hb2
          clear a0 a1 a2 z0
          have a0 := hA2.1.2 0 _ rfl
          have a1 := hA2.1.2 1 _ rfl
          have a2 := hA2.1.2 2 _ rfl
          have af := hA2.2
          have al := hA2.1.1
          have hr2 : Rd w2 (.slice A' 0 c') 2 0 [] := Rd.own hown
          have hA3 := (hA2.setRow [.int .i64 0, .slice A' 0 c', .int .i64 1] rfl).alloc (.cells #[.int .i64 0, .slice A' 0 c', .int .i64 1] 68)
          have hb3 := (Bel.setRow (B := w.heap.size) (i := 0) [.int .i64 0, .slice A' 0 c', .int .i64 1] (hbr.trans hb2) (Nat.le_refl _)).alloc (.cells #[.int .i64 0, .slice A' 0 c', .int .i64 1] 68)
          have HX := Lib.hid (And.intro hA3 hb3)
          clear hA3 hb3
          go_wp2
          go_roundw
          case rel => exact ⟨i + 1, 1, A', c', by go_num, rfl, (by first | exact .inl rfl | exact .inr rfl), by omega, by omega, rd0 hr2, HX.out.1, HX.out.2⟩
          case measure => simp [intOf]; omega
        · have e1 : strN 1 = 0 := by decide
          have e2 : strB 1 = true := by decide
          go_wp2_with fail
          refine (HSK.out 1 _ _ hrd).mono ?_; rw [e1, e2]; rintro e w2 ⟨v', rfl, hown, hb2⟩
          obtain ⟨A', c', rfl⟩ := own_slice hown
          have hA2 := hA.bel hb2
          clear a0 a1 a2 z0
          have a0 := hA2.1.2 0 _ rfl
          have a1 := hA2.1.2 1 _ rfl
          have a2 := hA2.1.2 2 _ rfl
          have af := hA2.2
          have al := hA2.1.1
          have hr2 : Rd w2 (.slice A' 0 c') 2 0 [] := Rd.own hown
          have hA3 := (hA2.setRow [.int .i64 0, .slice A' 0 c', .int .i64 0] rfl).alloc (.cells #[.int .i64 0, .slice A' 0 c', .int .i64 0] 68)
          have hb3 := (Bel.setRow (B := w.heap.size) (i := 0) [.int .i64 0, .slice A' 0 c', .int .i64 0] (hbr.trans hb2) (Nat.le_refl _)).alloc (.cells #[.int .i64 0, .slice A' 0 c', .int .i64 0] 68)
          have HX := Lib.hid (And.intro hA3 hb3)
          clear hA3 hb3
          go_wp2
          go_roundw
          case rel => exact ⟨i + 1, 0, A', c', by go_num, rfl, (by first | exact .inl rfl | exact .inr rfl), by omega, by omega, rd0 hr2, HX.out.1, HX.out.2⟩
          case measure => simp [intOf]; omega
    · have HA4 := Lib.hid (fun w' => awake28_any w')
      by_cases h1 : i < n
      · obtain rfl : i = 20 := by omega
        have i1 : (20 : Int) < (n : Int) := by omega
        go_wp2_with fail
        refine (HA4.out _).mono ?_; rintro e w8 ⟨rfl, hb8⟩
        go_wp2
        go_ret
        exact ⟨rfl, hbr.trans hb8⟩
      · obtain rfl : i = n := by omega
        have jk : decide ((i : Int) < (i : Int)) = false := by simp
        go_wp2_with fail
        refine (HA4.out _).mono ?_; rintro e w8 ⟨rfl, hb8⟩
        go_wp2
        go_ret
        exact ⟨rfl, hbr.trans hb8⟩
end Go.Proofs.Ytbijfmpmgmfpgaa
