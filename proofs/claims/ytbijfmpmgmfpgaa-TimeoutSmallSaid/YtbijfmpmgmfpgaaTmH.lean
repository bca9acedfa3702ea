/- The law's made: a guard that watches commands since rising ticks. -/
import Derived.Test.YtbijfmpmgmfpgaaTmG
import Derived.Test.YtbijfmpmgmfpgaaSch
namespace Go.Proofs.Ytbijfmpmgmfpgaa
open Go.RowKit
set_option linter.unusedSimpArgs false

structure MOk (ms : List Wt) (now : Int) : Prop where
  srt : Srt ms
  inr : ∀ m ∈ ms, 0 ≤ m.at_ ∧ m.at_ ≤ now
theorem MOk.nil : MOk [] 0 := ⟨fun k x y h => by simp at h, fun m h => by cases h⟩
theorem MOk.mono {ms : List Wt} {a b : Int} (h : MOk ms a) (hab : a ≤ b) : MOk ms b := ⟨h.srt, fun m hm => ⟨(h.inr m hm).1, by have := (h.inr m hm).2; omega⟩⟩
theorem MOk.snoc {ms : List Wt} {a b id : Int} (h : MOk ms a) (hab : a ≤ b) (h0 : 0 ≤ b) : MOk (ms ++ [⟨id, b⟩]) b := by
  refine ⟨fun k x y hx hy => ?_, fun m hm => ?_⟩
  · have hky := (List.getElem?_eq_some_iff.1 hy).1
    simp only [List.length_append, List.length_singleton] at hky
    rw [List.getElem?_append_left (by omega)] at hx
    by_cases hk : k + 1 < ms.length
    · rw [List.getElem?_append_left hk] at hy
      exact h.srt k x y hx hy
    · rw [List.getElem?_append_right (by omega), show k + 1 - ms.length = 0 by omega] at hy
      simp at hy
      subst hy
      have := (h.inr x (List.mem_of_getElem? hx)).2
      show x.at_ ≤ b
      omega
  · rw [List.mem_append, List.mem_singleton] at hm
    rcases hm with hm | rfl
    · exact ⟨(h.inr m hm).1, by have := (h.inr m hm).2; omega⟩
    · exact ⟨h0, Int.le_refl _⟩
theorem MOk.start {ms : List Wt} {a b L id : Int} (h : MOk ms a) (hab : a ≤ b) (h0 : 0 ≤ b) : MOk (stW L ms id b) b := by
  unfold stW
  split
  · exact h.snoc hab h0
  · exact h.mono hab
theorem stW_len (L : Int) (ms : List Wt) (id now : Int) : (stW L ms id now).length ≤ ms.length + 1 := by
  unfold stW
  split <;> simp
theorem MOk.inR {ms : List Wt} {a : Int} (h : MOk ms a) (ha : a ≤ 1099511627776) : InR ms := fun m hm => sncB_iff.2 ⟨(h.inr m hm).1, by have := (h.inr m hm).2; omega⟩

set_option maxRecDepth 100000 in
set_option maxHeartbeats 4000000 in
theorem made_any (v : Value) (zs : List Int) (lim : Int) (w : World) (hz : Ints w v zs) :
    Calls Try.prog 42 #[v, .int .i64 lim] w fun e w' => ∃ (A : Option Addr) (c : Nat) (ms : List Wt) (now : Int), e = .returned (.tuple #[.agg #[.int .i64 (1 + rnd lim 20), .slice A ms.length c, .int .i64 0], .int .i64 now]) ∧ Rd w' (.slice A ms.length c) 2 ms.length (wcells ms) ∧ MOk ms now ∧ 0 ≤ now ∧ now ≤ 40 ∧ ms.length ≤ 8 ∧ Bel w w' := by
  obtain ⟨_, A9, c9, rfl, hc1, hc2, hrd⟩ := hz
  unfold maxLen at hc2
  have HR := Lib.hid hrd
  obtain ⟨n, Hn⟩ : ∃ n, Hid (n = zs.length) := ⟨_, rfl⟩
  rw [← Hn.out] at hc1 ⊢
  clear hrd
  have hl1 := rnd_lo lim 20
  have hl2 := rnd_hi lim 20 (by omega)
  have HRL := Lib.hid (fun w' => round_any lim 20 w' (by omega))
  generalize rnd lim 20 = lm at *
  go_enter Try.func42, Try.ntmps42
  go_wp2_with fail
  refine (HRL.out _).mono ?_; rintro e w1 ⟨rfl, rfl⟩
  have hR0 := (AtF.new_at (w := w) rfl 68 [.int .i64 0, .slice none 0 0, .int .i64 0]).alloc (.cells [.int .i64 (1 + lm), .slice none 0 0, .int .i64 0].toArray 68)
  have hG0 := AtF.new_at (w := w.alloc (.cells [.int .i64 0, .slice none 0 0, .int .i64 0].toArray 68)) (g := w.heap.size + 1) (by simp) 68 [.int .i64 (1 + lm), .slice none 0 0, .int .i64 0]
  simp only [List.toArray] at hR0 hG0
  go_wp2
  go_loopw [7, 8] (fun tv iv wr => ∃ (i : Nat) (now : Int) (A : Option Addr) (c : Nat) (ms : List Wt), iv = .int .i64 i ∧ tv = .int .i64 now ∧ i ≤ n ∧ i ≤ 8 ∧ 0 ≤ now ∧ now ≤ 5 * i ∧ ms.length ≤ i ∧ MOk ms now ∧ (Value.slice A ms.length c).ownBlock ≠ some w.heap.size ∧ Rd wr (.slice A ms.length c) 2 ms.length (wcells ms) ∧ AtF wr (w.heap.size + 1) [.int .i64 (1 + lm), .slice A ms.length c, .int .i64 0] ∧ AtF wr w.heap.size [.int .i64 0, .slice none 0 0, .int .i64 0] ∧ Bel w wr) (fun _ iv _ => n - (intOf iv).toNat)
  case atStart => exact ⟨0, 0, none, 0, [], rfl, rfl, by omega, by omega, by omega, by omega, Nat.le_refl _, MOk.nil, by simp [Value.ownBlock], Rd.nil _ 2, hG0, hR0, (by repeat (first | (with_reducible exact Bel.refl _) | (with_reducible assumption) | (with_reducible refine Bel.drewN ?_ _) | (with_reducible refine Bel.drew ?_) | (with_reducible refine Bel.alloc ?_ _) | (with_reducible refine Bel.setNew ?_ ?_ _) | (with_reducible refine Bel.trans ?_ (by assumption)) | (focus (simp; done)) | (focus (simp; omega))))⟩
  case round =>
    obtain ⟨i, now, A, c, ms, rfl, rfl, p1, p2, p3, p4, p5, hmo, hne, hrd, hG, hRb, hbr⟩ := hrel
    clear hR0 hG0
    by_cases hlt : i < n ∧ i < 8
    · obtain ⟨g1, g2⟩ := hlt
      have i1 : (i : Int) < (n : Int) := by omega
      have i2 : (i : Int) < 8 := by omega
      obtain ⟨b, o, rfl, hlb, hcell⟩ := HR.out (by rw [← Hn.out]; omega)
      obtain ⟨z, hz⟩ : ∃ z, z = zs[i]'(by rw [← Hn.out]; omega) := ⟨_, rfl⟩
      have z0 : wr.cell? ⟨b, o + i, none⟩ = some (.int .i64 z) := by
        rw [hbr.cellAt b _ hlb, hz]; exact hcell i (by rw [← Hn.out]; omega)
      clear hcell hz
      have hq1 := rnd_lo z 6
      have hq2 := rnd_hi z 6 (by omega)
      have HRZ := Lib.hid (fun w' => round_any z 6 w' (by omega))
      generalize rnd z 6 = q at *
      obtain ⟨id, Hid'⟩ : ∃ d, Hid (d = rnd (z / 8) 10) := ⟨_, rfl⟩
      have HRI := Lib.hid (fun w' => round_any (z / 8) 10 w' (by omega))
      rw [← Hid'.out] at HRI
      have HST := Lib.hid (fun w' (hb : Bel wr w') => refStart_any (1 + lm) 0 id (now + q) _ ms w' (hrd.bel hb) (by omega))
      have hmo2 := hmo.start (L := 1 + lm) (id := id) (b := now + q) (by omega) (by omega)
      have hln2 := stW_len (1 + lm) ms id (now + q)
      obtain ⟨k, Hk⟩ : ∃ k, Hid (k = ms.length) := ⟨_, rfl⟩
      rw [← Hk.out] at HST hG p5 hln2
      rw [← Hk.out] at hrd
      generalize stW (1 + lm) ms id (now + q) = ms2 at *
      obtain ⟨k2, Hk2⟩ : ∃ k, Hid (k = ms2.length) := ⟨_, rfl⟩
      rw [← Hk2.out] at HST hln2
      generalize stB (1 + lm) ms id (now + q) = sb at *
      go_wp2_with fail
      refine (HRZ.out _).mono ?_; rintro e w1 ⟨rfl, rfl⟩
      go_upto_region 7 with fail
      have HZ : wr.drew.cell? ⟨b, o + i, none⟩ = some (.int .i64 z) := z0
      have hGd := hG.drew
      have d0 := hGd.1.2 0 _ rfl
      have d1 := hGd.1.2 1 _ rfl
      have d2 := hGd.1.2 2 _ rfl
      have hlb2 : b ≠ w.heap.size + 1 := by omega
      have hlw : b < wr.heap.size := by have := hbr.size; omega
      let MDS : World → Prop := fun W' => b < W'.heap.size ∧ W'.cell? ⟨b, o + i, none⟩ = some (.int .i64 z)
      haveI nnS : Nonempty (InS MDS) := ⟨⟨wr, hlw, z0⟩⟩
      have rg0 := fun (p : InS MDS) => p.h.2
      refine wp_region_sts MDS [0, 6, 8, 12] 13 (by kernel_rfl) (by kernel_rfl) ?hS0 ?_
      case hS0 => exact ⟨hlw, HZ⟩
      with_reducible refine st_sel [1, 2, 3, 4, 5, 7] (by kernel_rfl) (by kernel_rfl) ?_
      simp only [picked, List.getElem?_cons_succ, List.getElem?_cons_zero, Option.toList_some, List.nil_append, List.cons_append, List.append_nil]
      try simp only [Act.put, List.setIfInBounds_toArray, List.set_cons_succ, List.set_cons_zero]
      repeat (go_big_quiet_step (fail))
      with_reducible refine wpQuiet_nil ?_
      refine st_branch [0, 6] (by kernel_rfl) (branch_cons (by simp only [List.getElem?_toArray, List.getElem?_cons_succ, List.getElem?_cons_zero]; rfl) ?_ (branch_cons (by simp only [List.getElem?_toArray, List.getElem?_cons_succ, List.getElem?_cons_zero]; rfl) ?_ branch_nil))
      · skip
        refine eff_made_s rfl (by simp [go_sem, d0, d1, d2]; exact ⟨rfl, rfl⟩) ?hS1 ?_
        case hS1 => exact ⟨hlw, HZ⟩
        try simp only [List.nil_append, List.cons_append, Act.put, List.setIfInBounds_toArray, List.set_cons_succ, List.set_cons_zero]
        refine st_branch [6] (by kernel_rfl) (branch_cons (by simp only [List.getElem?_toArray, List.getElem?_cons_succ, List.getElem?_cons_zero]; rfl) ?_ branch_nil)
        refine eff_call_s 14 rfl (by simp [go_sem]; rfl) ⟨hlw, HZ⟩ ?_
        refine (HRI.out _).mono ?_; rintro e wq ⟨rfl, rfl⟩
        refine ⟨_, rfl, ⟨hlw, HZ⟩, ?_⟩
        try simp only [List.nil_append, List.cons_append, Act.put, List.setIfInBounds_toArray, List.set_cons_succ, List.set_cons_zero]
        refine st_branch [8] (by kernel_rfl) (branch_cons (by simp only [List.getElem?_toArray, List.getElem?_cons_succ, List.getElem?_cons_zero]; rfl) ?_ branch_nil)
        refine eff_call_s 44 rfl (by simp [go_sem]; rfl) ⟨hlw, HZ⟩ ?_
        refine (HST.out _ (Bel.drew (Bel.refl _))).mono ?_; rintro e w5 ⟨v5, rfl, ho5, hb5⟩
        obtain ⟨A5, c5, rfl⟩ := own_slice ho5
        have hG5 := hGd.bel hb5
        have hR5 := hRb.drew.bel hb5
        have HZ5 : MDS w5 := ⟨Nat.lt_of_lt_of_le hlw hb5.size, (hb5.cellAt b _ hlw).trans HZ⟩
        have e0 := hG5.1.2 0 _ rfl
        have e1 := hG5.1.2 1 _ rfl
        have e2 := hG5.1.2 2 _ rfl
        have ef := hG5.2
        refine ⟨_, rfl, HZ5, ?_⟩
        try simp only [List.nil_append, List.cons_append, Act.put, List.setIfInBounds_toArray, List.set_cons_succ, List.set_cons_zero]
        with_reducible refine st_sel [9, 10, 11] (by kernel_rfl) (by kernel_rfl) ?_
        simp only [picked, List.getElem?_cons_succ, List.getElem?_cons_zero, Option.toList_some, List.nil_append, List.cons_append, List.append_nil]
        try simp only [Act.put, List.setIfInBounds_toArray, List.set_cons_succ, List.set_cons_zero]
        repeat (go_big_quiet_step (fail))
        with_reducible refine wpQuiet_nil ?_
        refine st_branch [12] (by kernel_rfl) (branch_cons (by simp only [List.getElem?_toArray, List.getElem?_cons_succ, List.getElem?_cons_zero]; rfl) ?_ branch_nil)
        refine eff_done_s rfl (by simp [go_sem, e0, e1, e2, ef]; rfl) ?hS1 ?_
        case hS1 => exact ⟨by simpa [World.setCell] using HZ5.1, by rw [World.cell?_setCell_other _ _ _ _ (by simp; try omega), World.cell?_setCell_other _ _ _ _ (by simp; try omega), World.cell?_setCell_other _ _ _ _ (by simp; try omega)]; exact HZ5.2⟩
        try simp only [List.nil_append, List.cons_append, Act.put, List.setIfInBounds_toArray, List.set_cons_succ, List.set_cons_zero]
        refine st_end (by kernel_rfl) ?_
        simp only [List.drop_succ_cons, List.drop_zero, List.drop_nil]
        clear rg0 nnS MDS HZ5
        have hzz : w.heap.size + 1 < wr.drew.heap.size := hGd.1.1
        have hG6 := hG5.setRow [.int .i64 (1 + lm), .slice A5 k2 c5, .int .i64 0] rfl
        have hR6 := hR5.setRow_other (B := w.heap.size + 1) (i := 0) [.int .i64 (1 + lm), .slice A5 k2 c5, .int .i64 0] (by omega)
        have hO6 := Rd.own (setRow_own (B := w.heap.size + 1) (i := 0) [.int .i64 (1 + lm), .slice A5 k2 c5, .int .i64 0] ho5 (own_ne ho5 (.inl hzz)))
        have HNE := Lib.hid (own_ne ho5 (k := w.heap.size) (.inl (by omega)))
        have hb6 := Bel.setRow (B := w.heap.size + 1) (i := 0) [.int .i64 (1 + lm), .slice A5 k2 c5, .int .i64 0] (hbr.trans ((Bel.drew (Bel.refl _)).trans hb5)) (by omega)
        have HX := Lib.hid (And.intro hG6 (And.intro hR6 (And.intro hO6 hb6)))
        clear hG6 hR6 hO6 hb6 e0 e1 e2 ef d0 d1 d2
        go_wp2
        go_roundw
        case rel => exact ⟨i + 1, now + q, A5, c5, ms2, by go_num, by go_num, by omega, by omega, by omega, by omega, by rw [← Hk2.out]; omega, hmo2, by rw [← Hk2.out]; exact HNE.out, by rw [← Hk2.out]; exact HX.out.2.2.1, by rw [← Hk2.out]; exact HX.out.1, HX.out.2.1, HX.out.2.2.2⟩
        case measure => simp [intOf]; omega
      · skip
        refine eff_call_s 14 rfl (by simp [go_sem]; rfl) ⟨hlw, HZ⟩ ?_
        refine (HRI.out _).mono ?_; rintro e wq ⟨rfl, rfl⟩
        refine ⟨_, rfl, ⟨hlw, HZ⟩, ?_⟩
        try simp only [List.nil_append, List.cons_append, Act.put, List.setIfInBounds_toArray, List.set_cons_succ, List.set_cons_zero]
        refine st_branch [0] (by kernel_rfl) (branch_cons (by simp only [List.getElem?_toArray, List.getElem?_cons_succ, List.getElem?_cons_zero]; rfl) ?_ branch_nil)
        refine eff_made_s rfl (by simp [go_sem, d0, d1, d2]; exact ⟨rfl, rfl⟩) ?hS1 ?_
        case hS1 => exact ⟨hlw, HZ⟩
        try simp only [List.nil_append, List.cons_append, Act.put, List.setIfInBounds_toArray, List.set_cons_succ, List.set_cons_zero]
        refine st_branch [8] (by kernel_rfl) (branch_cons (by simp only [List.getElem?_toArray, List.getElem?_cons_succ, List.getElem?_cons_zero]; rfl) ?_ branch_nil)
        refine eff_call_s 44 rfl (by simp [go_sem]; rfl) ⟨hlw, HZ⟩ ?_
        refine (HST.out _ (Bel.drew (Bel.refl _))).mono ?_; rintro e w5 ⟨v5, rfl, ho5, hb5⟩
        obtain ⟨A5, c5, rfl⟩ := own_slice ho5
        have hG5 := hGd.bel hb5
        have hR5 := hRb.drew.bel hb5
        have HZ5 : MDS w5 := ⟨Nat.lt_of_lt_of_le hlw hb5.size, (hb5.cellAt b _ hlw).trans HZ⟩
        have e0 := hG5.1.2 0 _ rfl
        have e1 := hG5.1.2 1 _ rfl
        have e2 := hG5.1.2 2 _ rfl
        have ef := hG5.2
        refine ⟨_, rfl, HZ5, ?_⟩
        try simp only [List.nil_append, List.cons_append, Act.put, List.setIfInBounds_toArray, List.set_cons_succ, List.set_cons_zero]
        with_reducible refine st_sel [9, 10, 11] (by kernel_rfl) (by kernel_rfl) ?_
        simp only [picked, List.getElem?_cons_succ, List.getElem?_cons_zero, Option.toList_some, List.nil_append, List.cons_append, List.append_nil]
        try simp only [Act.put, List.setIfInBounds_toArray, List.set_cons_succ, List.set_cons_zero]
        repeat (go_big_quiet_step (fail))
        with_reducible refine wpQuiet_nil ?_
        refine st_branch [12] (by kernel_rfl) (branch_cons (by simp only [List.getElem?_toArray, List.getElem?_cons_succ, List.getElem?_cons_zero]; rfl) ?_ branch_nil)
        refine eff_done_s rfl (by simp [go_sem, e0, e1, e2, ef]; rfl) ?hS1 ?_
        case hS1 => exact ⟨by simpa [World.setCell] using HZ5.1, by rw [World.cell?_setCell_other _ _ _ _ (by simp; try omega), World.cell?_setCell_other _ _ _ _ (by simp; try omega), World.cell?_setCell_other _ _ _ _ (by simp; try omega)]; exact HZ5.2⟩
        try simp only [List.nil_append, List.cons_append, Act.put, List.setIfInBounds_toArray, List.set_cons_succ, List.set_cons_zero]
        refine st_end (by kernel_rfl) ?_
        simp only [List.drop_succ_cons, List.drop_zero, List.drop_nil]
        clear rg0 nnS MDS HZ5
        have hzz : w.heap.size + 1 < wr.drew.heap.size := hGd.1.1
        have hG6 := hG5.setRow [.int .i64 (1 + lm), .slice A5 k2 c5, .int .i64 0] rfl
        have hR6 := hR5.setRow_other (B := w.heap.size + 1) (i := 0) [.int .i64 (1 + lm), .slice A5 k2 c5, .int .i64 0] (by omega)
        have hO6 := Rd.own (setRow_own (B := w.heap.size + 1) (i := 0) [.int .i64 (1 + lm), .slice A5 k2 c5, .int .i64 0] ho5 (own_ne ho5 (.inl hzz)))
        have HNE := Lib.hid (own_ne ho5 (k := w.heap.size) (.inl (by omega)))
        have hb6 := Bel.setRow (B := w.heap.size + 1) (i := 0) [.int .i64 (1 + lm), .slice A5 k2 c5, .int .i64 0] (hbr.trans ((Bel.drew (Bel.refl _)).trans hb5)) (by omega)
        have HX := Lib.hid (And.intro hG6 (And.intro hR6 (And.intro hO6 hb6)))
        clear hG6 hR6 hO6 hb6 e0 e1 e2 ef d0 d1 d2
        go_wp2
        go_roundw
        case rel => exact ⟨i + 1, now + q, A5, c5, ms2, by go_num, by go_num, by omega, by omega, by omega, by omega, by rw [← Hk2.out]; omega, hmo2, by rw [← Hk2.out]; exact HNE.out, by rw [← Hk2.out]; exact HX.out.2.2.1, by rw [← Hk2.out]; exact HX.out.1, HX.out.2.1, HX.out.2.2.2⟩
        case measure => simp [intOf]; omega
    · obtain ⟨k, Hk⟩ : ∃ k, Hid (k = ms.length) := ⟨_, rfl⟩
      have HRD := Lib.hid hrd
      rw [← Hk.out] at hG
      have d0 := hG.1.2 0 _ rfl
      have d1 := hG.1.2 1 _ rfl
      have d2 := hG.1.2 2 _ rfl
      have r0 := hRb.1.2 0 _ rfl
      have r1 := hRb.1.2 1 _ rfl
      have r2 := hRb.1.2 2 _ rfl
      have rf := hRb.2
      have rl := hRb.1.1
      have hR2 := hRb.setRow [.int .i64 (1 + lm), .slice A k c, .int .i64 0] rfl
      have HR3 : Hid (Rd (setRow wr w.heap.size 0 [.int .i64 (1 + lm), .slice A k c, .int .i64 0]) (.slice A ms.length c) 2 ms.length (wcells ms)) := Lib.hid (hrd.setRow _ hne)
      have HB3 := Lib.hid (hbr.setRow (B := w.heap.size) (i := 0) [.int .i64 (1 + lm), .slice A k c, .int .i64 0] (Nat.le_refl _))
      have HMO := Lib.hid hmo
      clear hrd hne hmo
      by_cases h1 : i < n
      · obtain rfl : i = 8 := by omega
        have i1 : (8 : Int) < (n : Int) := by omega
        go_wp2
        clear r0 r1 r2
        have r0 := hR2.1.2 0 _ rfl
        have r1 := hR2.1.2 1 _ rfl
        have r2 := hR2.1.2 2 _ rfl
        exact bodyPost_ret (v := .tuple #[.agg #[.int .i64 (1 + lm), .slice A k c, .int .i64 0], .int .i64 now]) (by simp only [setRow] at r0 r1 r2; simp [results, Try.results42, go_sem, r0, r1, r2]) rfl ⟨A, c, ms, now, by rw [← Hk.out], HR3.out, HMO.out, by omega, by omega, by omega, HB3.out⟩
      · obtain rfl : i = n := by omega
        have jk : decide ((i : Int) < (i : Int)) = false := by simp
        go_wp2
        clear r0 r1 r2
        have r0 := hR2.1.2 0 _ rfl
        have r1 := hR2.1.2 1 _ rfl
        have r2 := hR2.1.2 2 _ rfl
        exact bodyPost_ret (v := .tuple #[.agg #[.int .i64 (1 + lm), .slice A k c, .int .i64 0], .int .i64 now]) (by simp only [setRow] at r0 r1 r2; simp [results, Try.results42, go_sem, r0, r1, r2]) rfl ⟨A, c, ms, now, by rw [← Hk.out], HR3.out, HMO.out, by omega, by omega, by omega, HB3.out⟩
end Go.Proofs.Ytbijfmpmgmfpgaa
