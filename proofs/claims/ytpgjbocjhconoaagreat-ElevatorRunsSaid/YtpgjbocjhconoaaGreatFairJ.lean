/- The reference's fair queue: flows, move, Stamp, Grow, Serve, SameFair. -/
import Derived.Test.YtpgjbocjhconoaaGreatFairF
namespace Go.Proofs.YtpgjbocjhconoaaGreat
open Go.RowKit
set_option linter.unusedSimpArgs false

set_option maxHeartbeats 2000000 in
theorem refFlows_any (V : Int) (fs : List (Int × Int)) (v : Value) (w : World) (h : Rd w v 2 fs.length (fcells fs)) (hn : fs.length ≤ 1000) :
    Calls Tryz.prog 84 #[.agg #[.int .i64 V, v]] w fun e w' =>
      ∃ v', e = .returned (.agg #[.int .i64 V, v']) ∧ w'.ownsRow w.heap.size 101 2 v' fs.length (fcells fs) ∧ Bel w w' := by
  obtain ⟨hl, A, cp, rfl, hcp, hmx, hr⟩ := h
  have hone := Lib.hid (fcells_one fs)
  generalize fcells fs = cs at *
  generalize fs.length = n at *
  obtain ⟨i0, hi, hz0, hz1, hz2⟩ := info_parts Tryz.infoFlow
  have HR := Lib.hid hr
  clear hr
  have hA := (AtF.new w 27 [.int .i64 V, .slice A n cp]).alloc (.cells #[.int .i64 0, .slice none 0 0] 27)
  have hB := AtF.new (w.alloc (.cells #[.int .i64 V, .slice A n cp] 27)) 27 [.int .i64 0, .slice none 0 0]
  simp only [World.size_alloc] at hB
  have hb0 : Bel w ((w.alloc (.cells #[.int .i64 V, .slice A n cp] 27)).alloc (.cells #[.int .i64 0, .slice none 0 0] 27)) := bI
  cases A with
  | none =>
    obtain rfl : n = 0 := by
      rcases Nat.eq_zero_or_pos n with h0 | h0
      · exact h0
      · obtain ⟨b, o, hA, _⟩ := HR.out h0; cases hA
    obtain rfl : cs = [] := by simpa using hl
    go_enter Tryz.func84, Tryz.ntmps84
    go_wp2
    exact bodyPost_ret (v := .agg #[.int .i64 V, .slice none 0 0]) (by simp [results, Tryz.results84, go_sem]) rfl ⟨_, rfl, ⟨by simp, Or.inl ⟨rfl, rfl⟩⟩, bI⟩
  | some p =>
    go_enter Tryz.func84, Tryz.ntmps84
    go_wp2_with (at_builtin; go_must (refine wpList_append_own_at _ rfl _ _ 25 rfl (w.heap.size + 2) 101 i0 _ 2 16 Tryz.underlying25 hi hz0 hz1 hz2 rfl (by omega) _ 0 [] rfl ⟨by simp, Or.inl ⟨rfl, rfl⟩⟩ p n cp cs rfl hl ?q1 hone.out (by unfold maxLen; omega) (by omega) (by simp) ?_))
    case q1 =>
      intro j u hj
      have hjn := (List.getElem?_eq_some_iff.1 hj).1
      obtain ⟨b, o, hA, hlb, hcell⟩ := HR.out (by omega)
      cases hA
      rw [Addr.add_lit, hb0.cellAt _ _ hlb]
      exact hcell j u hj
    intro v' w3 hown hg _ _
    obtain ⟨A', c', rfl⟩ := own_slice hown
    have hA3 := hA.grown hg (by simp [Value.ownBlock])
    have hB3 := hB.grown hg (by simp [Value.ownBlock])
    have hne : w.heap.size + 1 ≠ w.heap.size := by omega
    have hb3 : Bel w w3 := bel_own hb0 (⟨by simp, Or.inl ⟨rfl, rfl⟩⟩ : World.ownsRow _ (w.heap.size + 2) 101 2 (.slice none 0 0) 0 []) hg (by omega)
    have a0 := hA3.1.2 0 _ rfl
    have a1 := hA3.1.2 1 _ rfl
    have af := hA3.2
    have al := hA3.1.1
    have b0 := hB3.1.2 0 _ rfl
    have b1 := hB3.1.2 1 _ rfl
    have bf := hB3.2
    have bl := hB3.1.1
    have hO := own_other (own_other (own_other hown (p := ⟨w.heap.size, 1, none⟩) (by simp) (.slice A' n c')) (p := ⟨w.heap.size + 1, 0, none⟩) (by simp) (.int .i64 V)) (p := ⟨w.heap.size + 1, 1, none⟩) (by simp) (.slice A' n c')
    have hr2 := ((hB3.other hne 1 (.slice A' n c')).set 0 (by simp) (.int .i64 V)).set 1 (by simp) (.slice A' n c')
    have r20 := hr2.1.2 0 _ rfl
    have r21 := hr2.1.2 1 _ rfl
    go_wp2
    exact bodyPost_ret (v := .agg #[.int .i64 V, .slice A' n c']) (by simp [results, Tryz.results84, go_sem, r20, r21]) rfl ⟨_, rfl, own_mono hO (by omega), bI⟩

set_option maxHeartbeats 4000000 in
theorem refMove_any (V t fr c : Int) (fs : List (Int × Int)) (v : Value) (w : World) (h : Rd w v 2 fs.length (fcells fs)) (hn : fs.length ≤ 1000) (hfr : fairOk V fs = true → timeB fr = true) :
    Calls Tryz.prog 74 #[.agg #[.int .i64 V, v], .int .i64 t, .int .i64 fr, .int .i64 c] w fun e w' =>
      ∃ v', e = .returned (.tuple #[.agg #[.int .i64 V, v'], .bool (advB V fs t c (fun _ y => max fr y)).2.2]) ∧ w'.ownsRow w.heap.size 101 2 v' fs.length (fcells (advB V fs t c (fun _ y => max fr y)).1) ∧ Bel w w' := by
  have HC := Lib.hid (fun w' (hb : Bel w w') => refFlows_any V fs _ w' (h.bel hb) hn)
  have HFR := Lib.hid hfr
  clear h hfr
  cases hk : fairOk V fs
  · have HK := Lib.hid hk
    have HF := Lib.hid (show advB V fs t c (fun _ y => max fr y) = (fs, 0, false) by unfold advB; rw [if_neg]; simp [hk])
    clear hk
    go_enter Tryz.func74, Tryz.ntmps74
    go_wp2_with fail
    refine (HC.out _ bI).mono ?_; rintro e w1 ⟨v', rfl, hown, hb1⟩
    obtain ⟨A', c', rfl⟩ := own_slice hown
    have hA := ((AtF.new w 27 [.int .i64 V, v]).alloc (.cells #[.int .i64 0, .slice none 0 0] 27)).bel hb1
    have hB := (AtF.new (w.alloc (.cells #[.int .i64 V, v] 27)) 27 [.int .i64 0, .slice none 0 0]).bel hb1
    simp only [World.size_alloc] at hB hown
    have a0 := hA.1.2 0 _ rfl
    have a1 := hA.1.2 1 _ rfl
    have af := hA.2
    have al := hA.1.1
    have b0 := hB.1.2 0 _ rfl
    have b1 := hB.1.2 1 _ rfl
    have bf := hB.2
    have bl := hB.1.1
    go_wp2_with fail
    have hne : w.heap.size + 1 ≠ w.heap.size := by omega
    have hown1 := own_other (own_other hown (p := ⟨w.heap.size, 0, none⟩) (by simp; omega) (.int .i64 V)) (p := ⟨w.heap.size, 1, none⟩) (by simp; omega) (.slice A' fs.length c')
    refine (refFair_any V fs _ _ (Rd.own hown1)).mono ?_; rw [HK.out]; rintro e w2 ⟨rfl, hb2⟩
    have hown2 := own_keep hown1 hb2
    have hA2 := ((hA.set 0 (by simp) (.int .i64 V)).set 1 (by simp) (.slice A' fs.length c')).bel hb2
    have hB2 := ((hB.other hne 0 (.int .i64 V)).other hne 1 (.slice A' fs.length c')).bel hb2
    have hbw : Bel w w2 := bI
    clear a0 a1 af al b0 b1 bf bl hA hB hown hown1 hb1 hb2
    have a0 := hA2.1.2 0 _ rfl
    have a1 := hA2.1.2 1 _ rfl
    have af := hA2.2
    have al := hA2.1.1
    have b0 := hB2.1.2 0 _ rfl
    have b1 := hB2.1.2 1 _ rfl
    have bf := hB2.2
    have bl := hB2.1.1
    have hr2 := ((hB2.set 0 (by simp) (.int .i64 V)).set 1 (by simp) (.slice A' fs.length c'))
    have r20 := hr2.1.2 0 _ rfl
    have r21 := hr2.1.2 1 _ rfl
    have hown3 := own_other (own_other hown2 (p := ⟨w.heap.size + 1, 0, none⟩) (by simp) (.int .i64 V)) (p := ⟨w.heap.size + 1, 1, none⟩) (by simp) (.slice A' fs.length c')
    go_wp2
    exact bodyPost_ret (v := .tuple #[.agg #[.int .i64 V, .slice A' fs.length c'], .bool false]) (by simp [results, Tryz.results74, go_sem, r20, r21]) rfl ⟨_, by rw [HF.out], by rw [HF.out]; exact own_mono hown3 (by omega), bI⟩
  · have HK := Lib.hid hk
    by_cases h1 : t < 0
    · have HF := Lib.hid (show advB V fs t c (fun _ y => max fr y) = (fs, 0, false) by unfold advB; rw [if_neg]; omega)
      clear hk
      go_enter Tryz.func74, Tryz.ntmps74
      go_wp2_with fail
      refine (HC.out _ bI).mono ?_; rintro e w1 ⟨v', rfl, hown, hb1⟩
      obtain ⟨A', c', rfl⟩ := own_slice hown
      have hA := ((AtF.new w 27 [.int .i64 V, v]).alloc (.cells #[.int .i64 0, .slice none 0 0] 27)).bel hb1
      have hB := (AtF.new (w.alloc (.cells #[.int .i64 V, v] 27)) 27 [.int .i64 0, .slice none 0 0]).bel hb1
      simp only [World.size_alloc] at hB hown
      have a0 := hA.1.2 0 _ rfl
      have a1 := hA.1.2 1 _ rfl
      have af := hA.2
      have al := hA.1.1
      have b0 := hB.1.2 0 _ rfl
      have b1 := hB.1.2 1 _ rfl
      have bf := hB.2
      have bl := hB.1.1
      go_wp2_with fail
      have hne : w.heap.size + 1 ≠ w.heap.size := by omega
      have hown1 := own_other (own_other hown (p := ⟨w.heap.size, 0, none⟩) (by simp; omega) (.int .i64 V)) (p := ⟨w.heap.size, 1, none⟩) (by simp; omega) (.slice A' fs.length c')
      refine (refFair_any V fs _ _ (Rd.own hown1)).mono ?_; rw [HK.out]; rintro e w2 ⟨rfl, hb2⟩
      have hown2 := own_keep hown1 hb2
      have hA2 := ((hA.set 0 (by simp) (.int .i64 V)).set 1 (by simp) (.slice A' fs.length c')).bel hb2
      have hB2 := ((hB.other hne 0 (.int .i64 V)).other hne 1 (.slice A' fs.length c')).bel hb2
      have hbw : Bel w w2 := bI
      clear a0 a1 af al b0 b1 bf bl hA hB hown hown1 hb1 hb2
      have a0 := hA2.1.2 0 _ rfl
      have a1 := hA2.1.2 1 _ rfl
      have af := hA2.2
      have al := hA2.1.1
      have b0 := hB2.1.2 0 _ rfl
      have b1 := hB2.1.2 1 _ rfl
      have bf := hB2.2
      have bl := hB2.1.1
      have hr2 := ((hB2.set 0 (by simp) (.int .i64 V)).set 1 (by simp) (.slice A' fs.length c'))
      have r20 := hr2.1.2 0 _ rfl
      have r21 := hr2.1.2 1 _ rfl
      have hown3 := own_other (own_other hown2 (p := ⟨w.heap.size + 1, 0, none⟩) (by simp) (.int .i64 V)) (p := ⟨w.heap.size + 1, 1, none⟩) (by simp) (.slice A' fs.length c')
      go_wp2
      exact bodyPost_ret (v := .tuple #[.agg #[.int .i64 V, .slice A' fs.length c'], .bool false]) (by simp [results, Tryz.results74, go_sem, r20, r21]) rfl ⟨_, by rw [HF.out], by rw [HF.out]; exact own_mono hown3 (by omega), bI⟩
    · have g1 : decide (t < 0) = false := by simp; omega
      have g1' : 0 ≤ t := by omega
      by_cases h2 : (fs.length : Int) ≤ t
      · have HF := Lib.hid (show advB V fs t c (fun _ y => max fr y) = (fs, 0, false) by unfold advB; rw [if_neg]; omega)
        clear hk
        go_enter Tryz.func74, Tryz.ntmps74
        go_wp2_with fail
        refine (HC.out _ bI).mono ?_; rintro e w1 ⟨v', rfl, hown, hb1⟩
        obtain ⟨A', c', rfl⟩ := own_slice hown
        have hA := ((AtF.new w 27 [.int .i64 V, v]).alloc (.cells #[.int .i64 0, .slice none 0 0] 27)).bel hb1
        have hB := (AtF.new (w.alloc (.cells #[.int .i64 V, v] 27)) 27 [.int .i64 0, .slice none 0 0]).bel hb1
        simp only [World.size_alloc] at hB hown
        have a0 := hA.1.2 0 _ rfl
        have a1 := hA.1.2 1 _ rfl
        have af := hA.2
        have al := hA.1.1
        have b0 := hB.1.2 0 _ rfl
        have b1 := hB.1.2 1 _ rfl
        have bf := hB.2
        have bl := hB.1.1
        go_wp2_with fail
        have hne : w.heap.size + 1 ≠ w.heap.size := by omega
        have hown1 := own_other (own_other hown (p := ⟨w.heap.size, 0, none⟩) (by simp; omega) (.int .i64 V)) (p := ⟨w.heap.size, 1, none⟩) (by simp; omega) (.slice A' fs.length c')
        refine (refFair_any V fs _ _ (Rd.own hown1)).mono ?_; rw [HK.out]; rintro e w2 ⟨rfl, hb2⟩
        have hown2 := own_keep hown1 hb2
        have hA2 := ((hA.set 0 (by simp) (.int .i64 V)).set 1 (by simp) (.slice A' fs.length c')).bel hb2
        have hB2 := ((hB.other hne 0 (.int .i64 V)).other hne 1 (.slice A' fs.length c')).bel hb2
        have hbw : Bel w w2 := bI
        clear a0 a1 af al b0 b1 bf bl hA hB hown hown1 hb1 hb2
        have a0 := hA2.1.2 0 _ rfl
        have a1 := hA2.1.2 1 _ rfl
        have af := hA2.2
        have al := hA2.1.1
        have b0 := hB2.1.2 0 _ rfl
        have b1 := hB2.1.2 1 _ rfl
        have bf := hB2.2
        have bl := hB2.1.1
        have hr2 := ((hB2.set 0 (by simp) (.int .i64 V)).set 1 (by simp) (.slice A' fs.length c'))
        have r20 := hr2.1.2 0 _ rfl
        have r21 := hr2.1.2 1 _ rfl
        have hown3 := own_other (own_other hown2 (p := ⟨w.heap.size + 1, 0, none⟩) (by simp) (.int .i64 V)) (p := ⟨w.heap.size + 1, 1, none⟩) (by simp) (.slice A' fs.length c')
        go_wp2
        exact bodyPost_ret (v := .tuple #[.agg #[.int .i64 V, .slice A' fs.length c'], .bool false]) (by simp [results, Tryz.results74, go_sem, r20, r21]) rfl ⟨_, by rw [HF.out], by rw [HF.out]; exact own_mono hown3 (by omega), bI⟩
      · have g2 : decide ((fs.length : Int) ≤ t) = false := by simp; omega
        have g2' : t < (fs.length : Int) := by omega
        by_cases h3 : c < 1
        · have HF := Lib.hid (show advB V fs t c (fun _ y => max fr y) = (fs, 0, false) by unfold advB; rw [if_neg]; omega)
          clear hk
          go_enter Tryz.func74, Tryz.ntmps74
          go_wp2_with fail
          refine (HC.out _ bI).mono ?_; rintro e w1 ⟨v', rfl, hown, hb1⟩
          obtain ⟨A', c', rfl⟩ := own_slice hown
          have hA := ((AtF.new w 27 [.int .i64 V, v]).alloc (.cells #[.int .i64 0, .slice none 0 0] 27)).bel hb1
          have hB := (AtF.new (w.alloc (.cells #[.int .i64 V, v] 27)) 27 [.int .i64 0, .slice none 0 0]).bel hb1
          simp only [World.size_alloc] at hB hown
          have a0 := hA.1.2 0 _ rfl
          have a1 := hA.1.2 1 _ rfl
          have af := hA.2
          have al := hA.1.1
          have b0 := hB.1.2 0 _ rfl
          have b1 := hB.1.2 1 _ rfl
          have bf := hB.2
          have bl := hB.1.1
          go_wp2_with fail
          have hne : w.heap.size + 1 ≠ w.heap.size := by omega
          have hown1 := own_other (own_other hown (p := ⟨w.heap.size, 0, none⟩) (by simp; omega) (.int .i64 V)) (p := ⟨w.heap.size, 1, none⟩) (by simp; omega) (.slice A' fs.length c')
          refine (refFair_any V fs _ _ (Rd.own hown1)).mono ?_; rw [HK.out]; rintro e w2 ⟨rfl, hb2⟩
          have hown2 := own_keep hown1 hb2
          have hA2 := ((hA.set 0 (by simp) (.int .i64 V)).set 1 (by simp) (.slice A' fs.length c')).bel hb2
          have hB2 := ((hB.other hne 0 (.int .i64 V)).other hne 1 (.slice A' fs.length c')).bel hb2
          have hbw : Bel w w2 := bI
          clear a0 a1 af al b0 b1 bf bl hA hB hown hown1 hb1 hb2
          have a0 := hA2.1.2 0 _ rfl
          have a1 := hA2.1.2 1 _ rfl
          have af := hA2.2
          have al := hA2.1.1
          have b0 := hB2.1.2 0 _ rfl
          have b1 := hB2.1.2 1 _ rfl
          have bf := hB2.2
          have bl := hB2.1.1
          have hr2 := ((hB2.set 0 (by simp) (.int .i64 V)).set 1 (by simp) (.slice A' fs.length c'))
          have r20 := hr2.1.2 0 _ rfl
          have r21 := hr2.1.2 1 _ rfl
          have hown3 := own_other (own_other hown2 (p := ⟨w.heap.size + 1, 0, none⟩) (by simp) (.int .i64 V)) (p := ⟨w.heap.size + 1, 1, none⟩) (by simp) (.slice A' fs.length c')
          go_wp2
          exact bodyPost_ret (v := .tuple #[.agg #[.int .i64 V, .slice A' fs.length c'], .bool false]) (by simp [results, Tryz.results74, go_sem, r20, r21]) rfl ⟨_, by rw [HF.out], by rw [HF.out]; exact own_mono hown3 (by omega), bI⟩
        · have g3 : decide (c < 1) = false := by simp; omega
          have g3' : 1 ≤ c := by omega
          by_cases h4 : 128 < c
          · have HF := Lib.hid (show advB V fs t c (fun _ y => max fr y) = (fs, 0, false) by unfold advB; rw [if_neg]; omega)
            clear hk
            go_enter Tryz.func74, Tryz.ntmps74
            go_wp2_with fail
            refine (HC.out _ bI).mono ?_; rintro e w1 ⟨v', rfl, hown, hb1⟩
            obtain ⟨A', c', rfl⟩ := own_slice hown
            have hA := ((AtF.new w 27 [.int .i64 V, v]).alloc (.cells #[.int .i64 0, .slice none 0 0] 27)).bel hb1
            have hB := (AtF.new (w.alloc (.cells #[.int .i64 V, v] 27)) 27 [.int .i64 0, .slice none 0 0]).bel hb1
            simp only [World.size_alloc] at hB hown
            have a0 := hA.1.2 0 _ rfl
            have a1 := hA.1.2 1 _ rfl
            have af := hA.2
            have al := hA.1.1
            have b0 := hB.1.2 0 _ rfl
            have b1 := hB.1.2 1 _ rfl
            have bf := hB.2
            have bl := hB.1.1
            go_wp2_with fail
            have hne : w.heap.size + 1 ≠ w.heap.size := by omega
            have hown1 := own_other (own_other hown (p := ⟨w.heap.size, 0, none⟩) (by simp; omega) (.int .i64 V)) (p := ⟨w.heap.size, 1, none⟩) (by simp; omega) (.slice A' fs.length c')
            refine (refFair_any V fs _ _ (Rd.own hown1)).mono ?_; rw [HK.out]; rintro e w2 ⟨rfl, hb2⟩
            have hown2 := own_keep hown1 hb2
            have hA2 := ((hA.set 0 (by simp) (.int .i64 V)).set 1 (by simp) (.slice A' fs.length c')).bel hb2
            have hB2 := ((hB.other hne 0 (.int .i64 V)).other hne 1 (.slice A' fs.length c')).bel hb2
            have hbw : Bel w w2 := bI
            clear a0 a1 af al b0 b1 bf bl hA hB hown hown1 hb1 hb2
            have a0 := hA2.1.2 0 _ rfl
            have a1 := hA2.1.2 1 _ rfl
            have af := hA2.2
            have al := hA2.1.1
            have b0 := hB2.1.2 0 _ rfl
            have b1 := hB2.1.2 1 _ rfl
            have bf := hB2.2
            have bl := hB2.1.1
            have hr2 := ((hB2.set 0 (by simp) (.int .i64 V)).set 1 (by simp) (.slice A' fs.length c'))
            have r20 := hr2.1.2 0 _ rfl
            have r21 := hr2.1.2 1 _ rfl
            have hown3 := own_other (own_other hown2 (p := ⟨w.heap.size + 1, 0, none⟩) (by simp) (.int .i64 V)) (p := ⟨w.heap.size + 1, 1, none⟩) (by simp) (.slice A' fs.length c')
            go_wp2
            exact bodyPost_ret (v := .tuple #[.agg #[.int .i64 V, .slice A' fs.length c'], .bool false]) (by simp [results, Tryz.results74, go_sem, r20, r21]) rfl ⟨_, by rw [HF.out], by rw [HF.out]; exact own_mono hown3 (by omega), bI⟩
          · have g4 : decide (128 < c) = false := by simp; omega
            have g4' : c ≤ 128 := by omega
            obtain ⟨k, rfl⟩ : ∃ k : Nat, t = k := ⟨t.toNat, by omega⟩
            obtain ⟨⟨x, y⟩, hx⟩ : ∃ p, fs[k]? = some p := ⟨fs[k]'(by omega), List.getElem?_eq_getElem _⟩
            have hk2 := hk
            simp only [fairOk, Bool.and_eq_true, decide_eq_true_eq, List.all_eq_true] at hk2
            obtain ⟨⟨_, hV⟩, hall⟩ := hk2
            have hfl := hall _ (List.mem_of_getElem? hx)
            obtain ⟨⟨x1, x2⟩, y1, y2⟩ := flowOk_iff.1 hfl
            have hfr2 := timeB_iff.1 (HFR.out hk)
            have hd1 : 0 ≤ c * 840 / x := Int.ediv_nonneg (by omega) (by omega)
            have hd2 : c * 840 / x ≤ 107520 := Int.le_trans (Int.ediv_le_self _ (by omega)) (by omega)
            obtain ⟨D, HD⟩ : ∃ D, Hid (D = c * 840 / x) := ⟨_, rfl⟩
            have hq : (c * 840).tdiv x = D := by rw [Int.tdiv_eq_ediv_of_nonneg (by omega), HD.out]
            rw [← HD.out] at hd1 hd2
            obtain ⟨S, HS⟩ : ∃ S, Hid (S = max fr y) := ⟨_, rfl⟩
            have hS : timeB S = true := by have := HS.out; exact timeB_iff.2 ⟨by omega, by omega⟩
            obtain ⟨s1, s2⟩ := timeB_iff.1 hS
            have hm9 : (if fr < y then y else fr) = S := by have := HS.out; split <;> omega
            have hF : advB V fs k c (fun _ y => max fr y) = if timeB (S + D) = true then (fs.set k (x, S + D), S, true) else (fs, 0, false) := by
              unfold advB
              rw [if_pos ⟨hk, by omega, g2', g3', g4'⟩]
              have e1 : fs.getD (k : Int).toNat (0, 0) = (x, y) := by rw [Int.toNat_natCast, List.getD_eq_getElem?_getD, hx]; rfl
              rw [e1]
              simp only [Int.toNat_natCast, ← HS.out, ← HD.out]
            have HX := Lib.hid hx
            have x0 : (x == 0) = false := by simp; omega
            have e2 : IntKind.i64.wrap (c * 840) = c * 840 := IntWalk.i64_in _ (by omega)
            have e4 : IntKind.i64.wrap D = D := IntWalk.i64_in _ (by omega)
            have e5 : IntKind.i64.wrap (S + D) = S + D := IntWalk.i64_in _ (by omega)
            have HE := Lib.hid (And.intro e2 (And.intro e4 e5))
            have HM := Lib.hid hm9
            have hq9 := Lib.hid hq
            have hlen := Lib.hid hn
            clear hx hk hall hfl hS hV e2 e4 e5 hm9 hq
            cases hT : timeB (S + D)
            · rw [hT] at hF
              have HF := Lib.hid hF
              have hT2 : 1125899906842624 < S + D := by
                have := mt timeB_iff.2 (by rw [hT]; simp : ¬ timeB (S + D) = true)
                omega
              clear hF hT
              simp only [Bool.false_eq_true, if_false] at HF
              go_enter Tryz.func74, Tryz.ntmps74
              go_wp2_with fail
              refine (HC.out _ bI).mono ?_; rintro e w1 ⟨v', rfl, hown, hb1⟩
              obtain ⟨A', c', rfl⟩ := own_slice hown
              have hA := ((AtF.new w 27 [.int .i64 V, v]).alloc (.cells #[.int .i64 0, .slice none 0 0] 27)).bel hb1
              have hB := (AtF.new (w.alloc (.cells #[.int .i64 V, v] 27)) 27 [.int .i64 0, .slice none 0 0]).bel hb1
              simp only [World.size_alloc] at hB hown
              have a0 := hA.1.2 0 _ rfl
              have a1 := hA.1.2 1 _ rfl
              have af := hA.2
              have al := hA.1.1
              have b0 := hB.1.2 0 _ rfl
              have b1 := hB.1.2 1 _ rfl
              have bf := hB.2
              have bl := hB.1.1
              go_wp2_with fail
              have hne : w.heap.size + 1 ≠ w.heap.size := by omega
              have hown1 := own_other (own_other hown (p := ⟨w.heap.size, 0, none⟩) (by simp; omega) (.int .i64 V)) (p := ⟨w.heap.size, 1, none⟩) (by simp; omega) (.slice A' fs.length c')
              refine (refFair_any V fs _ _ (Rd.own hown1)).mono ?_; rw [HK.out]; rintro e w2 ⟨rfl, hb2⟩
              have hown2 := own_keep hown1 hb2
              have hA2 := ((hA.set 0 (by simp) (.int .i64 V)).set 1 (by simp) (.slice A' fs.length c')).bel hb2
              have hB2 := ((hB.other hne 0 (.int .i64 V)).other hne 1 (.slice A' fs.length c')).bel hb2
              have hbw : Bel w w2 := bI
              clear a0 a1 af al b0 b1 bf bl hA hB hown hown1 hb1 hb2
              have a0 := hA2.1.2 0 _ rfl
              have a1 := hA2.1.2 1 _ rfl
              have af := hA2.2
              have al := hA2.1.1
              have b0 := hB2.1.2 0 _ rfl
              have b1 := hB2.1.2 1 _ rfl
              have bf := hB2.2
              have bl := hB2.1.1
              obtain ⟨g', cap', hv', _, _⟩ := hown2.form (by omega)
              cases hv'
              have c0 : w2.cell? ⟨g', k * 2, none⟩ = some (.int .i64 x) := by rw [hown2.cellAt _ (by omega)]; exact fcells_at0 _ _ _ HX.out
              have c1 : w2.cell? ⟨g', k * 2 + 1, none⟩ = some (.int .i64 y) := by rw [hown2.cellAt _ (by omega)]; exact fcells_at1 _ _ _ HX.out
              have cf : w2.frozen? ⟨g', k * 2 + 1, none⟩ = false := hown2.frozenAt _
              have cl := (hown2.lt g' (by simp [Value.ownBlock])).1
              go_wp2_with fail
              have rg0 := fun d os => cell_regrown a0 d os
              have rg1 := fun d os => cell_regrown a1 d os
              have rg2 := fun d os => cell_regrown c0 d os
              have rg3 := fun d os => cell_regrown c1 d os
              obtain ⟨e2, e4, e5⟩ := HE.out
              have hm9 := HM.out
              have hq := hq9.out
              refine wp_region_lex [] 19 (by kernel_rfl) (by kernel_rfl) ?_
              simp only [List.take_succ_cons, List.take_zero, List.drop_succ_cons, List.drop_zero]
              with_reducible refine lex_seg 19 _ _ _ _ (by kernel_rfl) ?_
              simp only [List.take_succ_cons, List.take_zero, List.drop_succ_cons, List.drop_zero]
              try simp only [Act.put, List.setIfInBounds_toArray, List.set_cons_succ, List.set_cons_zero]
              repeat (go_big_quiet_step (fail))
              with_reducible refine wpQuiet_nil ?_
              with_reducible refine lex_nil ?_
              clear rg0 rg1 rg2 rg3 e2 e4 e5 hm9 hq
              have hr2 := ((hB2.set 0 (by simp) (.int .i64 V)).set 1 (by simp) (.slice (some ⟨g', 0, none⟩) fs.length c'))
              have r20 := hr2.1.2 0 _ rfl
              have r21 := hr2.1.2 1 _ rfl
              have hown4 := own_other (own_other hown2.drew (p := ⟨w.heap.size + 1, 0, none⟩) (by simp) (.int .i64 V)) (p := ⟨w.heap.size + 1, 1, none⟩) (by simp) (.slice (some ⟨g', 0, none⟩) fs.length c')
              go_wp2
              exact bodyPost_ret (v := .tuple #[.agg #[.int .i64 V, .slice (some ⟨g', 0, none⟩) fs.length c'], .bool false]) (by simp [results, Tryz.results74, go_sem, r20, r21]) rfl ⟨_, by rw [HF.out], by rw [HF.out]; exact own_mono hown4 (by omega), bI⟩
            · rw [hT] at hF
              have HF := Lib.hid hF
              have hT2 := timeB_iff.1 hT
              obtain ⟨hT3, hT4⟩ := hT2
              have hT5 : decide (1125899906842624 < S + D) = false := by simp; omega
              clear hF hT
              simp only [if_true] at HF
              go_enter Tryz.func74, Tryz.ntmps74
              go_wp2_with fail
              refine (HC.out _ bI).mono ?_; rintro e w1 ⟨v', rfl, hown, hb1⟩
              obtain ⟨A', c', rfl⟩ := own_slice hown
              have hA := ((AtF.new w 27 [.int .i64 V, v]).alloc (.cells #[.int .i64 0, .slice none 0 0] 27)).bel hb1
              have hB := (AtF.new (w.alloc (.cells #[.int .i64 V, v] 27)) 27 [.int .i64 0, .slice none 0 0]).bel hb1
              simp only [World.size_alloc] at hB hown
              have a0 := hA.1.2 0 _ rfl
              have a1 := hA.1.2 1 _ rfl
              have af := hA.2
              have al := hA.1.1
              have b0 := hB.1.2 0 _ rfl
              have b1 := hB.1.2 1 _ rfl
              have bf := hB.2
              have bl := hB.1.1
              go_wp2_with fail
              have hne : w.heap.size + 1 ≠ w.heap.size := by omega
              have hown1 := own_other (own_other hown (p := ⟨w.heap.size, 0, none⟩) (by simp; omega) (.int .i64 V)) (p := ⟨w.heap.size, 1, none⟩) (by simp; omega) (.slice A' fs.length c')
              refine (refFair_any V fs _ _ (Rd.own hown1)).mono ?_; rw [HK.out]; rintro e w2 ⟨rfl, hb2⟩
              have hown2 := own_keep hown1 hb2
              have hA2 := ((hA.set 0 (by simp) (.int .i64 V)).set 1 (by simp) (.slice A' fs.length c')).bel hb2
              have hB2 := ((hB.other hne 0 (.int .i64 V)).other hne 1 (.slice A' fs.length c')).bel hb2
              have hbw : Bel w w2 := bI
              clear a0 a1 af al b0 b1 bf bl hA hB hown hown1 hb1 hb2
              have a0 := hA2.1.2 0 _ rfl
              have a1 := hA2.1.2 1 _ rfl
              have af := hA2.2
              have al := hA2.1.1
              have b0 := hB2.1.2 0 _ rfl
              have b1 := hB2.1.2 1 _ rfl
              have bf := hB2.2
              have bl := hB2.1.1
              obtain ⟨g', cap', hv', _, _⟩ := hown2.form (by omega)
              cases hv'
              have c0 : w2.cell? ⟨g', k * 2, none⟩ = some (.int .i64 x) := by rw [hown2.cellAt _ (by omega)]; exact fcells_at0 _ _ _ HX.out
              have c1 : w2.cell? ⟨g', k * 2 + 1, none⟩ = some (.int .i64 y) := by rw [hown2.cellAt _ (by omega)]; exact fcells_at1 _ _ _ HX.out
              have cf : w2.frozen? ⟨g', k * 2 + 1, none⟩ = false := hown2.frozenAt _
              have cl := (hown2.lt g' (by simp [Value.ownBlock])).1
              go_wp2_with fail
              have rg0 := fun d os => cell_regrown a0 d os
              have rg1 := fun d os => cell_regrown a1 d os
              have rg2 := fun d os => cell_regrown c0 d os
              have rg3 := fun d os => cell_regrown c1 d os
              obtain ⟨e2, e4, e5⟩ := HE.out
              have hm9 := HM.out
              have hq := hq9.out
              refine wp_region_lex [] 19 (by kernel_rfl) (by kernel_rfl) ?_
              simp only [List.take_succ_cons, List.take_zero, List.drop_succ_cons, List.drop_zero]
              with_reducible refine lex_seg 19 _ _ _ _ (by kernel_rfl) ?_
              simp only [List.take_succ_cons, List.take_zero, List.drop_succ_cons, List.drop_zero]
              try simp only [Act.put, List.setIfInBounds_toArray, List.set_cons_succ, List.set_cons_zero]
              repeat (go_big_quiet_step (fail))
              with_reducible refine wpQuiet_nil ?_
              with_reducible refine lex_nil ?_
              clear rg0 rg1 rg2 rg3 e2 e4 e5 hm9 hq
              have hne2 : w.heap.size ≠ g' := by omega
              have hne3 : w.heap.size + 1 ≠ g' := by omega
              have hB4 := hB2.other hne3 (k * 2 + 1) (.int .i64 (S + D))
              have hown4 := (hown2.drew.stored (k * 2 + 1) (.int .i64 (S + D))).1
              have hr2 := ((hB4.set 0 (by simp) (.int .i64 V)).set 1 (by simp) (.slice (some ⟨g', 0, none⟩) fs.length c'))
              have r20 := hr2.1.2 0 _ rfl
              have r21 := hr2.1.2 1 _ rfl
              have hown5 := own_other (own_other hown4 (p := ⟨w.heap.size + 1, 0, none⟩) (by simp) (.int .i64 V)) (p := ⟨w.heap.size + 1, 1, none⟩) (by simp) (.slice (some ⟨g', 0, none⟩) fs.length c')
              go_wp2
              exact bodyPost_ret (v := .tuple #[.agg #[.int .i64 V, .slice (some ⟨g', 0, none⟩) fs.length c'], .bool true]) (by simp [results, Tryz.results74, go_sem, r20, r21]) rfl ⟨_, by rw [HF.out], by rw [HF.out]; exact own_mono (fset HX.out hown5) (by omega), bI⟩

theorem fairOk_time {V : Int} {fs : List (Int × Int)} (h : fairOk V fs = true) : timeB V = true := by
  simp only [fairOk, Bool.and_eq_true] at h; exact h.1.2
theorem growB_eq (V t c : Int) (fs : List (Int × Int)) : advB V fs t c (fun _ y => max 0 y) = growB V fs t c := by
  unfold growB advB
  split
  · rename_i h
    obtain ⟨hk, h1, h2, _⟩ := h
    obtain ⟨k, rfl⟩ : ∃ k : Nat, t = k := ⟨t.toNat, by omega⟩
    obtain ⟨⟨x, y⟩, hx⟩ : ∃ p, fs[k]? = some p := ⟨fs[k]'(by omega), List.getElem?_eq_getElem _⟩
    have e1 : fs.getD (k : Int).toNat (0, 0) = (x, y) := by rw [Int.toNat_natCast, List.getD_eq_getElem?_getD, hx]; rfl
    rw [e1]
    simp only [fairOk, Bool.and_eq_true, List.all_eq_true] at hk
    have := flowOk_iff.1 (hk.2 _ (List.mem_of_getElem? hx))
    dsimp only
    simp only [show max 0 y = y by omega]
  · rfl

set_option maxHeartbeats 2000000 in
theorem refGrow_any (V t c : Int) (fs : List (Int × Int)) (v : Value) (w : World) (h : Rd w v 2 fs.length (fcells fs)) (hn : fs.length ≤ 1000) :
    Calls Tryz.prog 33 #[.agg #[.int .i64 V, v], .int .i64 t, .int .i64 c] w fun e w' =>
      ∃ v', e = .returned (.tuple #[.agg #[.int .i64 V, v'], .bool (growB V fs t c).2.2]) ∧ w'.ownsRow w.heap.size 101 2 v' fs.length (fcells (growB V fs t c).1) ∧ Bel w w' := by
  have HC := Lib.hid (fun w' (hb : Bel w w') => refMove_any V t 0 c fs _ w' (h.bel hb) hn (fun _ => by decide))
  clear h
  rw [growB_eq] at HC
  generalize growB V fs t c = z at HC ⊢
  obtain ⟨z0, z1, z2⟩ := z
  go_enter Tryz.func33, Tryz.ntmps33
  go_wp2_with fail
  refine (HC.out _ bI).mono ?_; rintro e w1 ⟨v', rfl, hown, hb1⟩
  obtain ⟨A', c', rfl⟩ := own_slice hown
  have hB := (AtF.new (w.alloc (.cells #[.int .i64 V, v] 27)) 27 [.int .i64 0, .slice none 0 0]).bel hb1
  simp only [World.size_alloc] at hB hown
  have b0 := hB.1.2 0 _ rfl
  have b1 := hB.1.2 1 _ rfl
  have bf := hB.2
  have bl := hB.1.1
  have hO := own_other (own_other hown (p := ⟨w.heap.size + 1, 0, none⟩) (by simp) (.int .i64 V)) (p := ⟨w.heap.size + 1, 1, none⟩) (by simp) (.slice A' fs.length c')
  have hr2 := (hB.set 0 (by simp) (.int .i64 V)).set 1 (by simp) (.slice A' fs.length c')
  have r20 := hr2.1.2 0 _ rfl
  have r21 := hr2.1.2 1 _ rfl
  go_wp2
  exact bodyPost_ret (v := .tuple #[.agg #[.int .i64 V, .slice A' fs.length c'], .bool z2]) (by simp [results, Tryz.results33, go_sem, r20, r21]) rfl ⟨_, rfl, own_mono hO (Nat.le_succ_of_le (Nat.le_succ _)), bI⟩

set_option maxHeartbeats 2000000 in
theorem refServe_any (V s : Int) (fs : List (Int × Int)) (v : Value) (w : World) (h : Rd w v 2 fs.length (fcells fs)) (hn : fs.length ≤ 1000) :
    Calls Tryz.prog 47 #[.agg #[.int .i64 V, v], .int .i64 s] w fun e w' =>
      ∃ v', e = .returned (.agg #[.int .i64 (if V < s ∧ s ≤ 1125899906842624 then s else V), v']) ∧ w'.ownsRow w.heap.size 101 2 v' fs.length (fcells fs) ∧ Bel w w' := by
  have HC := Lib.hid (fun w' (hb : Bel w w') => refFlows_any V fs _ w' (h.bel hb) hn)
  clear h
  obtain ⟨V', HV⟩ : ∃ V', Hid (V' = if V < s ∧ s ≤ 1125899906842624 then s else V) := ⟨_, rfl⟩
  rw [← HV.out]
  go_enter Tryz.func47, Tryz.ntmps47
  go_wp2_with fail
  refine (HC.out _ bI).mono ?_; rintro e w1 ⟨v', rfl, hown, hb1⟩
  obtain ⟨A', c', rfl⟩ := own_slice hown
  have hA := ((AtF.new w 27 [.int .i64 V, v]).alloc (.cells #[.int .i64 0, .slice none 0 0] 27)).bel hb1
  have hB := (AtF.new (w.alloc (.cells #[.int .i64 V, v] 27)) 27 [.int .i64 0, .slice none 0 0]).bel hb1
  simp only [World.size_alloc] at hB hown
  have a0 := hA.1.2 0 _ rfl
  have a1 := hA.1.2 1 _ rfl
  have af := hA.2
  have al := hA.1.1
  have b0 := hB.1.2 0 _ rfl
  have b1 := hB.1.2 1 _ rfl
  have bf := hB.2
  have bl := hB.1.1
  have hne : w.heap.size + 1 ≠ w.heap.size := by omega
  have hO := own_other (own_other hown (p := ⟨w.heap.size, 0, none⟩) (by simp; omega) (.int .i64 V)) (p := ⟨w.heap.size, 1, none⟩) (by simp; omega) (.slice A' fs.length c')
  have hO2 := own_other (own_other hO (p := ⟨w.heap.size + 1, 0, none⟩) (by simp) (.int .i64 V)) (p := ⟨w.heap.size + 1, 1, none⟩) (by simp) (.slice A' fs.length c')
  have hO3 := own_other (own_other (own_other hO (p := ⟨w.heap.size, 0, none⟩) (by simp; omega) (.int .i64 s)) (p := ⟨w.heap.size + 1, 0, none⟩) (by simp) (.int .i64 s)) (p := ⟨w.heap.size + 1, 1, none⟩) (by simp) (.slice A' fs.length c')
  have hB1 := (hB.other hne 0 (.int .i64 V)).other hne 1 (.slice A' fs.length c')
  have hr2 := (hB1.set 0 (by simp) (.int .i64 V)).set 1 (by simp) (.slice A' fs.length c')
  have hr3 := ((hB1.other hne 0 (.int .i64 s)).set 0 (by simp) (.int .i64 s)).set 1 (by simp) (.slice A' fs.length c')
  have r20 := hr2.1.2 0 _ rfl
  have r21 := hr2.1.2 1 _ rfl
  have r30 := hr3.1.2 0 _ rfl
  have r31 := hr3.1.2 1 _ rfl
  clear hown hr2 hr3 hB1 hO
  by_cases h1 : V < s
  · by_cases h2 : s ≤ 1125899906842624
    · go_wp2
      exact bodyPost_ret (v := .agg #[.int .i64 s, (.slice A' fs.length c')]) (by simp [results, Tryz.results47, go_sem, r20, r21, r30, r31]) rfl ⟨_, by rw [HV.out, if_pos ⟨h1, h2⟩], own_mono hO3 (by omega), bI⟩
    · have h3 : decide (s ≤ 1125899906842624) = false := by simp; omega
      have h4 : 1125899906842624 < s := by omega
      go_wp2
      exact bodyPost_ret (v := .agg #[.int .i64 V, (.slice A' fs.length c')]) (by simp [results, Tryz.results47, go_sem, r20, r21, r30, r31]) rfl ⟨_, by rw [HV.out, if_neg (by omega)], own_mono hO2 (by omega), bI⟩
  · have h3 : decide (V < s) = false := by simp; omega
    have h4 : s ≤ V := by omega
    go_wp2
    exact bodyPost_ret (v := .agg #[.int .i64 V, (.slice A' fs.length c')]) (by simp [results, Tryz.results47, go_sem, r20, r21, r30, r31]) rfl ⟨_, by rw [HV.out, if_neg (by omega)], own_mono hO2 (by omega), bI⟩

end Go.Proofs.YtpgjbocjhconoaaGreat
