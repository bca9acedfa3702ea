/- The walk of TokenRate. -/
import Derived.Test.YtchimkjbpmcpbaaTokZ
import Derived.Test.YtchimkjbpmcpbaaSch
namespace Go.Proofs.Ytchimkjbpmcpbaa
open Go.RowKit
set_option linter.unusedSimpArgs false

theorem rate_add {k p l l' y r t t' t2 : Int} (h : 1000 * k + l' ≤ l + r * (t' - t)) (h2 : 1000 * p + y ≤ l' + r * (t2 - t')) : 1000 * (k + p) + y ≤ l + r * (t2 - t) := by
  have e : r * (t2 - t) = r * (t2 - t') + r * (t' - t) := by rw [← Int.mul_add]; congr 1; omega
  rw [e]; omega
theorem rate_end {k l u l' r t t' now : Int} (ho : bkOk ⟨r, u, l', t'⟩ = true) (h : 1000 * k + l' ≤ l + r * (t' - t)) (hr : 0 ≤ r) (hl : l ≤ 1000 * u) (hn : t' ≤ now) : 1000 * k ≤ 1000 * u + r * (now - t) := by
  have e := Int.mul_le_mul_of_nonneg_left (show t' - t ≤ now - t by omega) hr
  have := bkOk_iff.1 ho
  omega
theorem join_new {wr w1 : World} {B : Nat} {cs : List Value} (T : TypeId) (cs' : List Value) (h : AtF wr B cs) (hb : Bel wr.drew w1) :
    AtF (w1.alloc (.cells cs'.toArray T)) B cs ∧ AtF (w1.alloc (.cells cs'.toArray T)) w1.heap.size cs' ∧ Bel wr (w1.alloc (.cells cs'.toArray T)) :=
  ⟨(h.drew.bel hb).alloc _, AtF.new w1 T cs', ((Bel.drew (Bel.refl wr)).trans hb).alloc _⟩
theorem join_old {wr w1 : World} {B : Nat} {cs : List Value} (T : TypeId) (z0 z1 z2 z3 a b c d : Value) (h : AtF wr B cs) (hb : Bel (wr.alloc (.cells #[z0, z1, z2, z3] T)).drew w1) :
    AtF ((((w1.setCell ⟨wr.heap.size, 0, none⟩ a).setCell ⟨wr.heap.size, 1, none⟩ b).setCell ⟨wr.heap.size, 2, none⟩ c).setCell ⟨wr.heap.size, 3, none⟩ d) B cs ∧
    AtF ((((w1.setCell ⟨wr.heap.size, 0, none⟩ a).setCell ⟨wr.heap.size, 1, none⟩ b).setCell ⟨wr.heap.size, 2, none⟩ c).setCell ⟨wr.heap.size, 3, none⟩ d) wr.heap.size [a, b, c, d] ∧
    Bel wr ((((w1.setCell ⟨wr.heap.size, 0, none⟩ a).setCell ⟨wr.heap.size, 1, none⟩ b).setCell ⟨wr.heap.size, 2, none⟩ c).setCell ⟨wr.heap.size, 3, none⟩ d) := by
  have h1 : AtF w1 B cs := ((h.alloc _).drew).bel hb
  have h2 : AtF w1 wr.heap.size [z0, z1, z2, z3] := ((AtF.new wr T [z0, z1, z2, z3]).drew).bel hb
  have hne : B ≠ wr.heap.size := Nat.ne_of_lt h.1.1
  have hb2 : Bel wr w1 := (Bel.drew ((Bel.refl wr).alloc _)).trans hb
  refine ⟨(((h1.other hne _ _).other hne _ _).other hne _ _).other hne _ _, (((h2.set 0 (by simp) a).set 1 (by simp) b).set 2 (by simp) c).set 3 (by simp) d, ?_⟩
  exact (((hb2.setNew (Nat.le_refl _) _).setNew (Nat.le_refl _) _).setNew (Nat.le_refl _) _).setNew (Nat.le_refl _) _
theorem take_rate {r u l t now p : Int} (hok : bkOk ⟨r, u, l, t⟩ = true) (hn : 0 ≤ now ∧ now ≤ 1000) (hp : 0 ≤ p ∧ p ≤ 128) (hr : ¬ r = 0) (ht : t ≤ now) :
    ∀ r' u' l' t' k, takeB ⟨r, u, l, t⟩ now p = (⟨r', u', l', t'⟩, k) → r = r' ∧ u = u' ∧ bkOk ⟨r, u, l', t'⟩ = true ∧ t ≤ t' ∧ t' ≤ now ∧ (k = true → 1000 * p + l' ≤ l + r * (t' - t)) := by
  intro r' u' l' t' k h
  have hB := bkOk_iff.1 hok
  have hT : tickB now = true := tickB_iff.2 ⟨by omega, by omega⟩
  have hR : rightB ⟨r, u, l, t⟩ now p = true := by simp [rightB, hok, hT, hp]
  unfold takeB at h
  rw [if_pos hR] at h
  simp only [if_neg hr] at h
  obtain ⟨⟨b1, b2, b3, b4, b5, b6⟩, b7, b8⟩ := hB
  have m1 := Int.mul_nonneg b1 (show 0 ≤ now - t by omega)
  by_cases hlt : t < now
  · have hf : refill ⟨r, u, l, t⟩ now = ⟨r, u, min (1000 * u) (l + r * (now - t)), now⟩ := by simp [refill, hok, hT, hlt]
    rw [hf] at h
    simp only at h
    generalize hm : r * (now - t) = m at *
    split at h
    · simp only [Prod.mk.injEq, Bk.mk.injEq] at h
      obtain ⟨⟨rfl, rfl, rfl, rfl⟩, rfl⟩ := h
      exact ⟨rfl, rfl, hok, by omega, by omega, by simp⟩
    · rename_i hge
      simp only [Prod.mk.injEq, Bk.mk.injEq] at h
      obtain ⟨⟨rfl, rfl, rfl, rfl⟩, rfl⟩ := h
      refine ⟨rfl, rfl, bkOk_iff.2 ⟨⟨b1, b2, b3, b4, by omega, by omega⟩, by omega, by omega⟩, by omega, by omega, fun _ => ?_⟩
      omega
  · have hf : refill ⟨r, u, l, t⟩ now = ⟨r, u, l, t⟩ := by simp [refill, hlt]
    rw [hf] at h
    simp only at h
    split at h
    · simp only [Prod.mk.injEq, Bk.mk.injEq] at h
      obtain ⟨⟨rfl, rfl, rfl, rfl⟩, rfl⟩ := h
      exact ⟨rfl, rfl, hok, by omega, by omega, by simp⟩
    · rename_i hge
      simp only [Prod.mk.injEq, Bk.mk.injEq] at h
      obtain ⟨⟨rfl, rfl, rfl, rfl⟩, rfl⟩ := h
      refine ⟨rfl, rfl, bkOk_iff.2 ⟨⟨b1, b2, b3, b4, by omega, by omega⟩, by omega, by omega⟩, by omega, by omega, fun _ => ?_⟩
      simp; omega

set_option maxHeartbeats 4000000 in
theorem tokenRate_walk (n : Int) (v : Value) (zs : List Int) (w : World) (_ : IsInt n) (hz : Ints w v zs) :
    Calls Try.prog 10 #[.int .i64 n, v] w fun e w' => e = .returned (.bool true) ∧ Bel w w' := by
  have hok := madeB_ok n
  have hbd := madeB_bounds n
  obtain ⟨m, Hm⟩ : ∃ m, Hid (m = madeB n) := ⟨_, rfl⟩
  rw [← Hm.out] at hok hbd
  obtain ⟨r, u, l, t⟩ := m
  simp only at hbd
  by_cases h0 : r = 0
  · subst h0
    go_enter Try.func10, Try.ntmps10
    go_wp2_with fail
    refine (madeTok_any n _).mono ?_; rw [← Hm.out]; unfold bv; rintro e w0 ⟨rfl, hb0⟩
    go_wp2_with fail
    refine (awakeTok_any _).mono ?_; rintro e w3 ⟨rfl, hb3⟩
    go_wp2
    go_ret
    exact ⟨rfl, (by repeat (first | (with_reducible exact Bel.refl _) | (with_reducible assumption) | (with_reducible refine Bel.drewN ?_ _) | (with_reducible refine Bel.drew ?_) | (with_reducible refine Bel.alloc ?_ _) | (with_reducible refine Bel.setNew ?_ ?_ _) | (with_reducible refine Bel.trans ?_ (by assumption)) | (focus (simp; done)) | (focus (simp; omega))))⟩
  · have h0' : (r == 0) = false := by simpa using h0
    have H0 := Lib.hid h0
    clear h0
    obtain ⟨hzi, A, cp, rfl, hcp, hmx, hrd⟩ := hz
    unfold maxLen at hmx
    have HI := Lib.hid hzi
    clear hzi
    obtain ⟨nL, HnL⟩ : ∃ nL, Hid (nL = zs.length) := ⟨_, rfl⟩
    rw [← HnL.out] at hcp
    have HR := Lib.hid hrd
    clear hrd
    rw [← HnL.out]
    go_enter Try.func10, Try.ntmps10
    go_wp2_with fail
    refine (madeTok_any n _).mono ?_; rw [← Hm.out]; unfold bv; rintro e w0 ⟨rfl, hb0⟩
    go_wp2_with fail
    go_loopw [6, 7, 8] (fun nv kv iv wr => ∃ (i : Nat) (now k l' t' : Int), nv = .int .i64 now ∧ kv = .int .i64 k ∧ iv = .int .i64 i ∧ (i : Int) ≤ 30 ∧ i ≤ nL ∧ 0 ≤ now ∧ now ≤ 20 + 4 * (i : Int) ∧ 0 ≤ k ∧ k ≤ 4 * (i : Int) ∧ t ≤ t' ∧ t' ≤ now ∧ Hid (bkOk ⟨r, u, l', t'⟩ = true) ∧ Hid (1000 * k + l' ≤ l + r * (t' - t)) ∧ AtF wr w0.heap.size [.int .i64 r, .int .i64 u, .int .i64 l', .int .i64 t'] ∧ Bel w0 wr) (fun _ _ iv _ => 30 - (intOf iv).toNat)
    case atStart => exact ⟨0, t, 0, l, t, rfl, rfl, rfl, by omega, by omega, by omega, by omega, by omega, by omega, by omega, by omega, hok, by show _ ≤ _; simp, AtF.new w0 37 [.int .i64 r, .int .i64 u, .int .i64 l, .int .i64 t], (Bel.refl _).alloc _⟩
    case round =>
      obtain ⟨i, now, k, l', t', rfl, rfl, rfl, p1, p2, p3, p4, p5, p6, p7, p8, HO, HP, hAF, hbr⟩ := hrel
      have hA := hAF.1
      by_cases hlt : i < nL
      · by_cases hlt2 : i < 30
        · obtain ⟨b, o, rfl, hlb, hcell⟩ := HR.out (by have := HnL.out; omega)
          have hiz : i < zs.length := by have := HnL.out; omega
          obtain ⟨x, Hx⟩ : ∃ x, Hid (x = zs[i]) := ⟨zs[i], rfl⟩
          have g0 : wr.cell? ⟨b, o + i, none⟩ = some (.int .i64 x) := by
            rw [hbr.cellAt _ _ (by have := hb0.size; first | omega | (simp at this; omega)), hb0.cellAt _ _ hlb, Hx.out]; exact hcell _ _
          have hlb2 : b < wr.heap.size := by have := World.block_lt_of_cell? _ _ g0; simpa using this
          have s1 := rnd_lo x 5
          have s2 := rnd_hi x 5 (by omega)
          have s3 := rnd_lo (x / 8) 5
          have s4 := rnd_hi (x / 8) 5 (by omega)
          obtain ⟨d, Hd⟩ : ∃ d, Hid (d = rnd x 5) := ⟨_, rfl⟩
          obtain ⟨p, Hp⟩ : ∃ p, Hid (p = rnd (x / 8) 5) := ⟨_, rfl⟩
          rw [← Hd.out] at s1 s2
          rw [← Hp.out] at s3 s4
          have htk := take_rate (p := p) HO.out (now := now + d) ⟨by omega, by omega⟩ ⟨by omega, by omega⟩ H0.out (by omega)
          obtain ⟨y, Hy⟩ : ∃ y, Hid (y = takeB ⟨r, u, l', t'⟩ (now + d) p) := ⟨_, rfl⟩
          obtain ⟨⟨y0, y1, y2, y3⟩, y4⟩ := y
          obtain ⟨rfl, rfl, hok2, ht2, ht3, hin⟩ := htk _ _ _ _ _ Hy.out.symm
          have HO2 := Lib.hid hok2
          have HN2 := Lib.hid hin
          clear htk hok2 hin hcell
          have i0 : (0 : Int) ≤ (i : Int) := by omega
          have i1 : (i : Int) < (nL : Int) := by omega
          have a0 := hA.2 0 _ rfl
          have a1 := hA.2 1 _ rfl
          have a2 := hA.2 2 _ rfl
          have a3 := hA.2 3 _ rfl
          have al := hA.1
          go_wp2_with fail
          refine (round_any x 5 _ (by omega)).mono ?_; rw [← Hd.out]; rintro e w1 ⟨rfl, rfl⟩
          go_wp2_with fail
          have q4 := fun d os => cell_regrown g0 d os
          have q0 := fun d os => cell_regrown (hA.2 0 _ rfl) d os
          have q1 := fun d os => cell_regrown (hA.2 1 _ rfl) d os
          have q2 := fun d os => cell_regrown (hA.2 2 _ rfl) d os
          have q3 := fun d os => cell_regrown (hA.2 3 _ rfl) d os
          cases y4
          · skip
            refine wp_region_st [7, 8, 12, 13] 15 (by kernel_rfl) (by kernel_rfl) ?_
            refine st_sel [0, 1, 2, 3, 4, 5, 6] (by kernel_rfl) (by kernel_rfl) ?_
            simp only [picked, List.getElem?_cons_succ, List.getElem?_cons_zero, Option.toList_some, List.nil_append, List.cons_append, List.append_nil]
            try simp only [Act.put, List.setIfInBounds_toArray, List.set_cons_succ, List.set_cons_zero]
            repeat (go_big_quiet_step (fail))
            refine wpQuiet_nil ?_
            refine st_branch [7, 12] (by kernel_rfl) (branch_cons (by simp only [List.getElem?_toArray, List.getElem?_cons_succ, List.getElem?_cons_zero]; rfl) ?_ (branch_cons (by simp only [List.getElem?_toArray, List.getElem?_cons_succ, List.getElem?_cons_zero]; rfl) ?_ branch_nil))
            · skip
              refine eff_call 14 rfl (by simp [go_sem]; rfl) (by repeat (first | (with_reducible exact Bel.refl _) | (with_reducible assumption) | (with_reducible refine Bel.drewN ?_ _) | (with_reducible refine Bel.drew ?_) | (with_reducible refine Bel.alloc ?_ _) | (with_reducible refine Bel.setNew ?_ ?_ _) | (with_reducible refine Bel.trans ?_ (by assumption)) | (focus (simp; done)) | (focus (simp; omega)))) ?_
              refine (round_any _ 5 _ (by omega)).mono ?_; rintro e wq ⟨rfl, rfl⟩
              refine ⟨_, rfl, Bel.refl _, ?_⟩
              try simp only [List.nil_append, List.cons_append, Act.put, List.setIfInBounds_toArray, List.set_cons_succ, List.set_cons_zero]
              rw [← Hp.out]
              refine st_branch [8, 12] (by kernel_rfl) (branch_cons (by simp only [List.getElem?_toArray, List.getElem?_cons_succ, List.getElem?_cons_zero]; rfl) ?_ (branch_cons (by simp only [List.getElem?_toArray, List.getElem?_cons_succ, List.getElem?_cons_zero]; rfl) ?_ branch_nil))
              · skip
                refine eff_call 24 rfl (by simp [go_sem]; rfl) (by repeat (first | (with_reducible exact Bel.refl _) | (with_reducible assumption) | (with_reducible refine Bel.drewN ?_ _) | (with_reducible refine Bel.drew ?_) | (with_reducible refine Bel.alloc ?_ _) | (with_reducible refine Bel.setNew ?_ ?_ _) | (with_reducible refine Bel.trans ?_ (by assumption)) | (focus (simp; done)) | (focus (simp; omega)))) ?_
                refine (tokTake_any r u l' t' _ p _).mono ?_; rw [← Hy.out]; unfold bv; rintro e w1 ⟨rfl, hb1⟩
                refine ⟨_, rfl, hb1, ?_⟩
                try simp only [List.nil_append, List.cons_append, Act.put, List.setIfInBounds_toArray, List.set_cons_succ, List.set_cons_zero]
                refine st_sel [9, 10, 11] (by kernel_rfl) (by kernel_rfl) ?_
                simp only [picked, List.getElem?_cons_succ, List.getElem?_cons_zero, Option.toList_some, List.nil_append, List.cons_append, List.append_nil]
                try simp only [Act.put, List.setIfInBounds_toArray, List.set_cons_succ, List.set_cons_zero]
                repeat (go_big_quiet_step (fail))
                refine wpQuiet_nil ?_
                refine st_branch [12] (by kernel_rfl) (branch1 (by simp only [List.getElem?_toArray, List.getElem?_cons_succ, List.getElem?_cons_zero]; rfl) ?_)
                refine eff_made rfl (by simp [go_sem]; exact ⟨rfl, rfl⟩) (by repeat (first | (with_reducible exact Bel.refl _) | (with_reducible assumption) | (with_reducible refine Bel.drewN ?_ _) | (with_reducible refine Bel.drew ?_) | (with_reducible refine Bel.alloc ?_ _) | (with_reducible refine Bel.setNew ?_ ?_ _) | (with_reducible refine Bel.trans ?_ (by assumption)) | (focus (simp; done)) | (focus (simp; omega)))) ?_
                try simp only [List.nil_append, List.cons_append, Act.put, List.setIfInBounds_toArray, List.set_cons_succ, List.set_cons_zero]
                refine st_branch [13] (by kernel_rfl) (branch1 (by simp only [List.getElem?_toArray, List.getElem?_cons_succ, List.getElem?_cons_zero]; rfl) ?_)
                refine eff_done rfl (by simp [go_sem]; rfl) (by repeat (first | (with_reducible exact Bel.refl _) | (with_reducible assumption) | (with_reducible refine Bel.drewN ?_ _) | (with_reducible refine Bel.drew ?_) | (with_reducible refine Bel.alloc ?_ _) | (with_reducible refine Bel.setNew ?_ ?_ _) | (with_reducible refine Bel.trans ?_ (by assumption)) | (focus (simp; done)) | (focus (simp; omega)))) ?_
                try simp only [List.nil_append, List.cons_append, Act.put, List.setIfInBounds_toArray, List.set_cons_succ, List.set_cons_zero]
                refine st_sel [14] (by kernel_rfl) (by kernel_rfl) ?_
                simp only [picked, List.getElem?_cons_succ, List.getElem?_cons_zero, Option.toList_some, List.nil_append, List.cons_append, List.append_nil]
                try simp only [Act.put, List.setIfInBounds_toArray, List.set_cons_succ, List.set_cons_zero]
                repeat (go_big_quiet_step (fail))
                refine wpQuiet_nil ?_
                refine st_end (by kernel_rfl) ?_
                simp only [List.drop_succ_cons, List.drop_zero]
                have H9 := join_new 37 [.int .i64 r, .int .i64 u, .int .i64 y2, .int .i64 y3] hAF hb1
                generalize hw9 : w1.alloc _ = w9 at H9 ⊢
                generalize hB9 : w1.heap.size = B9 at H9 ⊢
                clear hw9 hB9
                obtain ⟨A9F, C9F, hb9⟩ := H9
                have A9 := A9F.1
                have C9 := C9F.1
                have F9 := A9F.2
                have G9 : w9.cell? ⟨b, o + i, none⟩ = some (.int .i64 x) := by rw [hb9.cellAt _ _ hlb2]; exact g0
                clear hb1 q0 q1 q2 q3 q4 a0 a1 a2 a3 al
                have a0 := A9.2 0 _ rfl
                have a1 := A9.2 1 _ rfl
                have a2 := A9.2 2 _ rfl
                have a3 := A9.2 3 _ rfl
                have al := A9.1
                have c0 := C9.2 0 _ rfl
                have c1 := C9.2 1 _ rfl
                have c2 := C9.2 2 _ rfl
                have c3 := C9.2 3 _ rfl
                have cl := C9.1
                go_wp2_with fail
                refine (tokValid_any r u l' t' _).mono ?_; rw [HO.out]; rintro e w12 ⟨rfl, hb12⟩
                have hS := A9F.bel hb12
                have hbz : Bel w0 w12 := (hbr.trans hb9).trans hb12
                clear a0 a1 a2 a3 al c0 c1 c2 c3 cl
                go_wp2
                go_roundw
                case rel => exact ⟨i + 1, now + d, k, l', t', by go_num, by go_num, by go_num, by omega, by omega, by omega, by omega, by omega, by omega, by omega, by omega, HO, HP, hS, hbz⟩
                case measure => simp [intOf]; omega
              · skip
                refine eff_made rfl (by simp [go_sem]; exact ⟨rfl, rfl⟩) (by repeat (first | (with_reducible exact Bel.refl _) | (with_reducible assumption) | (with_reducible refine Bel.drewN ?_ _) | (with_reducible refine Bel.drew ?_) | (with_reducible refine Bel.alloc ?_ _) | (with_reducible refine Bel.setNew ?_ ?_ _) | (with_reducible refine Bel.trans ?_ (by assumption)) | (focus (simp; done)) | (focus (simp; omega)))) ?_
                try simp only [List.nil_append, List.cons_append, Act.put, List.setIfInBounds_toArray, List.set_cons_succ, List.set_cons_zero]
                refine st_branch [8] (by kernel_rfl) (branch1 (by simp only [List.getElem?_toArray, List.getElem?_cons_succ, List.getElem?_cons_zero]; rfl) ?_)
                refine eff_call 24 rfl (by simp [go_sem]; rfl) (by repeat (first | (with_reducible exact Bel.refl _) | (with_reducible assumption) | (with_reducible refine Bel.drewN ?_ _) | (with_reducible refine Bel.drew ?_) | (with_reducible refine Bel.alloc ?_ _) | (with_reducible refine Bel.setNew ?_ ?_ _) | (with_reducible refine Bel.trans ?_ (by assumption)) | (focus (simp; done)) | (focus (simp; omega)))) ?_
                refine (tokTake_any r u l' t' _ p _).mono ?_; rw [← Hy.out]; unfold bv; rintro e w1 ⟨rfl, hb1⟩
                refine ⟨_, rfl, hb1, ?_⟩
                try simp only [List.nil_append, List.cons_append, Act.put, List.setIfInBounds_toArray, List.set_cons_succ, List.set_cons_zero]
                refine st_sel [9, 10, 11] (by kernel_rfl) (by kernel_rfl) ?_
                simp only [picked, List.getElem?_cons_succ, List.getElem?_cons_zero, Option.toList_some, List.nil_append, List.cons_append, List.append_nil]
                try simp only [Act.put, List.setIfInBounds_toArray, List.set_cons_succ, List.set_cons_zero]
                repeat (go_big_quiet_step (fail))
                refine wpQuiet_nil ?_
                have e0 := hb1.cellAt wr.heap.size 0 (by simp)
                have e1 := hb1.cellAt wr.heap.size 1 (by simp)
                have e2 := hb1.cellAt wr.heap.size 2 (by simp)
                have e3 := hb1.cellAt wr.heap.size 3 (by simp)
                have f0 := hb1.frozenAt wr.heap.size 0 (by simp)
                have f1 := hb1.frozenAt wr.heap.size 1 (by simp)
                have f2 := hb1.frozenAt wr.heap.size 2 (by simp)
                have f3 := hb1.frozenAt wr.heap.size 3 (by simp)
                simp [go_sem] at e0 e1 e2 e3 f0 f1 f2 f3
                refine st_branch [13] (by kernel_rfl) (branch1 (by simp only [List.getElem?_toArray, List.getElem?_cons_succ, List.getElem?_cons_zero]; rfl) ?_)
                refine eff_done rfl (by simp [go_sem, e0, e1, e2, e3, f0, f1, f2, f3]; rfl) (by repeat (first | (with_reducible exact Bel.refl _) | (with_reducible assumption) | (with_reducible refine Bel.drewN ?_ _) | (with_reducible refine Bel.drew ?_) | (with_reducible refine Bel.alloc ?_ _) | (with_reducible refine Bel.setNew ?_ ?_ _) | (with_reducible refine Bel.trans ?_ (by assumption)) | (focus (simp; done)) | (focus (simp; omega)))) ?_
                try simp only [List.nil_append, List.cons_append, Act.put, List.setIfInBounds_toArray, List.set_cons_succ, List.set_cons_zero]
                refine st_sel [14] (by kernel_rfl) (by kernel_rfl) ?_
                simp only [picked, List.getElem?_cons_succ, List.getElem?_cons_zero, Option.toList_some, List.nil_append, List.cons_append, List.append_nil]
                try simp only [Act.put, List.setIfInBounds_toArray, List.set_cons_succ, List.set_cons_zero]
                repeat (go_big_quiet_step (fail))
                refine wpQuiet_nil ?_
                refine st_end (by kernel_rfl) ?_
                simp only [List.drop_succ_cons, List.drop_zero]
                clear e0 e1 e2 e3 f0 f1 f2 f3
                have H9 := join_old 37 (.int .i64 0) (.int .i64 0) (.int .i64 0) (.int .i64 0) (.int .i64 r) (.int .i64 u) (.int .i64 y2) (.int .i64 y3) hAF hb1
                generalize hw9 : World.setCell _ _ _ = w9 at H9 ⊢
                generalize hB9 : wr.heap.size = B9 at H9 ⊢
                clear hw9 hB9
                obtain ⟨A9F, C9F, hb9⟩ := H9
                have A9 := A9F.1
                have C9 := C9F.1
                have F9 := A9F.2
                have G9 : w9.cell? ⟨b, o + i, none⟩ = some (.int .i64 x) := by rw [hb9.cellAt _ _ hlb2]; exact g0
                clear hb1 q0 q1 q2 q3 q4 a0 a1 a2 a3 al
                have a0 := A9.2 0 _ rfl
                have a1 := A9.2 1 _ rfl
                have a2 := A9.2 2 _ rfl
                have a3 := A9.2 3 _ rfl
                have al := A9.1
                have c0 := C9.2 0 _ rfl
                have c1 := C9.2 1 _ rfl
                have c2 := C9.2 2 _ rfl
                have c3 := C9.2 3 _ rfl
                have cl := C9.1
                go_wp2_with fail
                refine (tokValid_any r u l' t' _).mono ?_; rw [HO.out]; rintro e w12 ⟨rfl, hb12⟩
                have hS := A9F.bel hb12
                have hbz : Bel w0 w12 := (hbr.trans hb9).trans hb12
                clear a0 a1 a2 a3 al c0 c1 c2 c3 cl
                go_wp2
                go_roundw
                case rel => exact ⟨i + 1, now + d, k, l', t', by go_num, by go_num, by go_num, by omega, by omega, by omega, by omega, by omega, by omega, by omega, by omega, HO, HP, hS, hbz⟩
                case measure => simp [intOf]; omega
            · skip
              refine eff_made rfl (by simp [go_sem]; exact ⟨rfl, rfl⟩) (by repeat (first | (with_reducible exact Bel.refl _) | (with_reducible assumption) | (with_reducible refine Bel.drewN ?_ _) | (with_reducible refine Bel.drew ?_) | (with_reducible refine Bel.alloc ?_ _) | (with_reducible refine Bel.setNew ?_ ?_ _) | (with_reducible refine Bel.trans ?_ (by assumption)) | (focus (simp; done)) | (focus (simp; omega)))) ?_
              try simp only [List.nil_append, List.cons_append, Act.put, List.setIfInBounds_toArray, List.set_cons_succ, List.set_cons_zero]
              refine st_branch [7] (by kernel_rfl) (branch1 (by simp only [List.getElem?_toArray, List.getElem?_cons_succ, List.getElem?_cons_zero]; rfl) ?_)
              refine eff_call 14 rfl (by simp [go_sem]; rfl) (by repeat (first | (with_reducible exact Bel.refl _) | (with_reducible assumption) | (with_reducible refine Bel.drewN ?_ _) | (with_reducible refine Bel.drew ?_) | (with_reducible refine Bel.alloc ?_ _) | (with_reducible refine Bel.setNew ?_ ?_ _) | (with_reducible refine Bel.trans ?_ (by assumption)) | (focus (simp; done)) | (focus (simp; omega)))) ?_
              refine (round_any _ 5 _ (by omega)).mono ?_; rintro e wq ⟨rfl, rfl⟩
              refine ⟨_, rfl, Bel.refl _, ?_⟩
              try simp only [List.nil_append, List.cons_append, Act.put, List.setIfInBounds_toArray, List.set_cons_succ, List.set_cons_zero]
              rw [← Hp.out]
              refine st_branch [8] (by kernel_rfl) (branch1 (by simp only [List.getElem?_toArray, List.getElem?_cons_succ, List.getElem?_cons_zero]; rfl) ?_)
              refine eff_call 24 rfl (by simp [go_sem]; rfl) (by repeat (first | (with_reducible exact Bel.refl _) | (with_reducible assumption) | (with_reducible refine Bel.drewN ?_ _) | (with_reducible refine Bel.drew ?_) | (with_reducible refine Bel.alloc ?_ _) | (with_reducible refine Bel.setNew ?_ ?_ _) | (with_reducible refine Bel.trans ?_ (by assumption)) | (focus (simp; done)) | (focus (simp; omega)))) ?_
              refine (tokTake_any r u l' t' _ p _).mono ?_; rw [← Hy.out]; unfold bv; rintro e w1 ⟨rfl, hb1⟩
              refine ⟨_, rfl, hb1, ?_⟩
              try simp only [List.nil_append, List.cons_append, Act.put, List.setIfInBounds_toArray, List.set_cons_succ, List.set_cons_zero]
              refine st_sel [9, 10, 11] (by kernel_rfl) (by kernel_rfl) ?_
              simp only [picked, List.getElem?_cons_succ, List.getElem?_cons_zero, Option.toList_some, List.nil_append, List.cons_append, List.append_nil]
              try simp only [Act.put, List.setIfInBounds_toArray, List.set_cons_succ, List.set_cons_zero]
              repeat (go_big_quiet_step (fail))
              refine wpQuiet_nil ?_
              have e0 := hb1.cellAt wr.heap.size 0 (by simp)
              have e1 := hb1.cellAt wr.heap.size 1 (by simp)
              have e2 := hb1.cellAt wr.heap.size 2 (by simp)
              have e3 := hb1.cellAt wr.heap.size 3 (by simp)
              have f0 := hb1.frozenAt wr.heap.size 0 (by simp)
              have f1 := hb1.frozenAt wr.heap.size 1 (by simp)
              have f2 := hb1.frozenAt wr.heap.size 2 (by simp)
              have f3 := hb1.frozenAt wr.heap.size 3 (by simp)
              simp [go_sem] at e0 e1 e2 e3 f0 f1 f2 f3
              refine st_branch [13] (by kernel_rfl) (branch1 (by simp only [List.getElem?_toArray, List.getElem?_cons_succ, List.getElem?_cons_zero]; rfl) ?_)
              refine eff_done rfl (by simp [go_sem, e0, e1, e2, e3, f0, f1, f2, f3]; rfl) (by repeat (first | (with_reducible exact Bel.refl _) | (with_reducible assumption) | (with_reducible refine Bel.drewN ?_ _) | (with_reducible refine Bel.drew ?_) | (with_reducible refine Bel.alloc ?_ _) | (with_reducible refine Bel.setNew ?_ ?_ _) | (with_reducible refine Bel.trans ?_ (by assumption)) | (focus (simp; done)) | (focus (simp; omega)))) ?_
              try simp only [List.nil_append, List.cons_append, Act.put, List.setIfInBounds_toArray, List.set_cons_succ, List.set_cons_zero]
              refine st_sel [14] (by kernel_rfl) (by kernel_rfl) ?_
              simp only [picked, List.getElem?_cons_succ, List.getElem?_cons_zero, Option.toList_some, List.nil_append, List.cons_append, List.append_nil]
              try simp only [Act.put, List.setIfInBounds_toArray, List.set_cons_succ, List.set_cons_zero]
              repeat (go_big_quiet_step (fail))
              refine wpQuiet_nil ?_
              refine st_end (by kernel_rfl) ?_
              simp only [List.drop_succ_cons, List.drop_zero]
              clear e0 e1 e2 e3 f0 f1 f2 f3
              have H9 := join_old 37 (.int .i64 0) (.int .i64 0) (.int .i64 0) (.int .i64 0) (.int .i64 r) (.int .i64 u) (.int .i64 y2) (.int .i64 y3) hAF hb1
              generalize hw9 : World.setCell _ _ _ = w9 at H9 ⊢
              generalize hB9 : wr.heap.size = B9 at H9 ⊢
              clear hw9 hB9
              obtain ⟨A9F, C9F, hb9⟩ := H9
              have A9 := A9F.1
              have C9 := C9F.1
              have F9 := A9F.2
              have G9 : w9.cell? ⟨b, o + i, none⟩ = some (.int .i64 x) := by rw [hb9.cellAt _ _ hlb2]; exact g0
              clear hb1 q0 q1 q2 q3 q4 a0 a1 a2 a3 al
              have a0 := A9.2 0 _ rfl
              have a1 := A9.2 1 _ rfl
              have a2 := A9.2 2 _ rfl
              have a3 := A9.2 3 _ rfl
              have al := A9.1
              have c0 := C9.2 0 _ rfl
              have c1 := C9.2 1 _ rfl
              have c2 := C9.2 2 _ rfl
              have c3 := C9.2 3 _ rfl
              have cl := C9.1
              go_wp2_with fail
              refine (tokValid_any r u l' t' _).mono ?_; rw [HO.out]; rintro e w12 ⟨rfl, hb12⟩
              have hS := A9F.bel hb12
              have hbz : Bel w0 w12 := (hbr.trans hb9).trans hb12
              clear a0 a1 a2 a3 al c0 c1 c2 c3 cl
              go_wp2
              go_roundw
              case rel => exact ⟨i + 1, now + d, k, l', t', by go_num, by go_num, by go_num, by omega, by omega, by omega, by omega, by omega, by omega, by omega, by omega, HO, HP, hS, hbz⟩
              case measure => simp [intOf]; omega
          · skip
            refine wp_region_st [7, 8, 12, 13] 15 (by kernel_rfl) (by kernel_rfl) ?_
            refine st_sel [0, 1, 2, 3, 4, 5, 6] (by kernel_rfl) (by kernel_rfl) ?_
            simp only [picked, List.getElem?_cons_succ, List.getElem?_cons_zero, Option.toList_some, List.nil_append, List.cons_append, List.append_nil]
            try simp only [Act.put, List.setIfInBounds_toArray, List.set_cons_succ, List.set_cons_zero]
            repeat (go_big_quiet_step (fail))
            refine wpQuiet_nil ?_
            refine st_branch [7, 12] (by kernel_rfl) (branch_cons (by simp only [List.getElem?_toArray, List.getElem?_cons_succ, List.getElem?_cons_zero]; rfl) ?_ (branch_cons (by simp only [List.getElem?_toArray, List.getElem?_cons_succ, List.getElem?_cons_zero]; rfl) ?_ branch_nil))
            · skip
              refine eff_call 14 rfl (by simp [go_sem]; rfl) (by repeat (first | (with_reducible exact Bel.refl _) | (with_reducible assumption) | (with_reducible refine Bel.drewN ?_ _) | (with_reducible refine Bel.drew ?_) | (with_reducible refine Bel.alloc ?_ _) | (with_reducible refine Bel.setNew ?_ ?_ _) | (with_reducible refine Bel.trans ?_ (by assumption)) | (focus (simp; done)) | (focus (simp; omega)))) ?_
              refine (round_any _ 5 _ (by omega)).mono ?_; rintro e wq ⟨rfl, rfl⟩
              refine ⟨_, rfl, Bel.refl _, ?_⟩
              try simp only [List.nil_append, List.cons_append, Act.put, List.setIfInBounds_toArray, List.set_cons_succ, List.set_cons_zero]
              rw [← Hp.out]
              refine st_branch [8, 12] (by kernel_rfl) (branch_cons (by simp only [List.getElem?_toArray, List.getElem?_cons_succ, List.getElem?_cons_zero]; rfl) ?_ (branch_cons (by simp only [List.getElem?_toArray, List.getElem?_cons_succ, List.getElem?_cons_zero]; rfl) ?_ branch_nil))
              · skip
                refine eff_call 24 rfl (by simp [go_sem]; rfl) (by repeat (first | (with_reducible exact Bel.refl _) | (with_reducible assumption) | (with_reducible refine Bel.drewN ?_ _) | (with_reducible refine Bel.drew ?_) | (with_reducible refine Bel.alloc ?_ _) | (with_reducible refine Bel.setNew ?_ ?_ _) | (with_reducible refine Bel.trans ?_ (by assumption)) | (focus (simp; done)) | (focus (simp; omega)))) ?_
                refine (tokTake_any r u l' t' _ p _).mono ?_; rw [← Hy.out]; unfold bv; rintro e w1 ⟨rfl, hb1⟩
                refine ⟨_, rfl, hb1, ?_⟩
                try simp only [List.nil_append, List.cons_append, Act.put, List.setIfInBounds_toArray, List.set_cons_succ, List.set_cons_zero]
                refine st_sel [9, 10, 11] (by kernel_rfl) (by kernel_rfl) ?_
                simp only [picked, List.getElem?_cons_succ, List.getElem?_cons_zero, Option.toList_some, List.nil_append, List.cons_append, List.append_nil]
                try simp only [Act.put, List.setIfInBounds_toArray, List.set_cons_succ, List.set_cons_zero]
                repeat (go_big_quiet_step (fail))
                refine wpQuiet_nil ?_
                refine st_branch [12] (by kernel_rfl) (branch1 (by simp only [List.getElem?_toArray, List.getElem?_cons_succ, List.getElem?_cons_zero]; rfl) ?_)
                refine eff_made rfl (by simp [go_sem]; exact ⟨rfl, rfl⟩) (by repeat (first | (with_reducible exact Bel.refl _) | (with_reducible assumption) | (with_reducible refine Bel.drewN ?_ _) | (with_reducible refine Bel.drew ?_) | (with_reducible refine Bel.alloc ?_ _) | (with_reducible refine Bel.setNew ?_ ?_ _) | (with_reducible refine Bel.trans ?_ (by assumption)) | (focus (simp; done)) | (focus (simp; omega)))) ?_
                try simp only [List.nil_append, List.cons_append, Act.put, List.setIfInBounds_toArray, List.set_cons_succ, List.set_cons_zero]
                refine st_branch [13] (by kernel_rfl) (branch1 (by simp only [List.getElem?_toArray, List.getElem?_cons_succ, List.getElem?_cons_zero]; rfl) ?_)
                refine eff_done rfl (by simp [go_sem]; rfl) (by repeat (first | (with_reducible exact Bel.refl _) | (with_reducible assumption) | (with_reducible refine Bel.drewN ?_ _) | (with_reducible refine Bel.drew ?_) | (with_reducible refine Bel.alloc ?_ _) | (with_reducible refine Bel.setNew ?_ ?_ _) | (with_reducible refine Bel.trans ?_ (by assumption)) | (focus (simp; done)) | (focus (simp; omega)))) ?_
                try simp only [List.nil_append, List.cons_append, Act.put, List.setIfInBounds_toArray, List.set_cons_succ, List.set_cons_zero]
                refine st_sel [14] (by kernel_rfl) (by kernel_rfl) ?_
                simp only [picked, List.getElem?_cons_succ, List.getElem?_cons_zero, Option.toList_some, List.nil_append, List.cons_append, List.append_nil]
                try simp only [Act.put, List.setIfInBounds_toArray, List.set_cons_succ, List.set_cons_zero]
                repeat (go_big_quiet_step (fail))
                refine wpQuiet_nil ?_
                refine st_end (by kernel_rfl) ?_
                simp only [List.drop_succ_cons, List.drop_zero]
                have H9 := join_new 37 [.int .i64 r, .int .i64 u, .int .i64 y2, .int .i64 y3] hAF hb1
                generalize hw9 : w1.alloc _ = w9 at H9 ⊢
                generalize hB9 : w1.heap.size = B9 at H9 ⊢
                clear hw9 hB9
                obtain ⟨A9F, C9F, hb9⟩ := H9
                have A9 := A9F.1
                have C9 := C9F.1
                have F9 := A9F.2
                have G9 : w9.cell? ⟨b, o + i, none⟩ = some (.int .i64 x) := by rw [hb9.cellAt _ _ hlb2]; exact g0
                clear hb1 q0 q1 q2 q3 q4 a0 a1 a2 a3 al
                have a0 := A9.2 0 _ rfl
                have a1 := A9.2 1 _ rfl
                have a2 := A9.2 2 _ rfl
                have a3 := A9.2 3 _ rfl
                have al := A9.1
                have c0 := C9.2 0 _ rfl
                have c1 := C9.2 1 _ rfl
                have c2 := C9.2 2 _ rfl
                have c3 := C9.2 3 _ rfl
                have cl := C9.1
                go_wp2_with fail
                refine (round_any _ 5 _ (by omega)).mono ?_; rw [← Hp.out]; rintro e w11 ⟨rfl, rfl⟩
                go_wp2_with fail
                refine (tokValid_any r u y2 y3 _).mono ?_; rw [HO2.out]; rintro e w12 ⟨rfl, hb12⟩
                have hS := ((((A9F.set 0 (by simp) (.int .i64 r)).set 1 (by simp) (.int .i64 u)).set 2 (by simp) (.int .i64 y2)).set 3 (by simp) (.int .i64 y3)).bel hb12
                have hbz : Bel w0 w12 := ((((((hbr.trans hb9).setNew (Nat.le_refl _) _).setNew (Nat.le_refl _) _).setNew (Nat.le_refl _) _).setNew (Nat.le_refl _) _)).trans hb12
                clear a0 a1 a2 a3 al c0 c1 c2 c3 cl
                go_wp2
                go_roundw
                case rel => exact ⟨i + 1, now + d, k + p, y2, y3, by go_num, by go_num, by go_num, by omega, by omega, by omega, by omega, by omega, by omega, by omega, by omega, HO2, rate_add HP.out (HN2.out (by simp)), hS, hbz⟩
                case measure => simp [intOf]; omega
              · skip
                refine eff_made rfl (by simp [go_sem]; exact ⟨rfl, rfl⟩) (by repeat (first | (with_reducible exact Bel.refl _) | (with_reducible assumption) | (with_reducible refine Bel.drewN ?_ _) | (with_reducible refine Bel.drew ?_) | (with_reducible refine Bel.alloc ?_ _) | (with_reducible refine Bel.setNew ?_ ?_ _) | (with_reducible refine Bel.trans ?_ (by assumption)) | (focus (simp; done)) | (focus (simp; omega)))) ?_
                try simp only [List.nil_append, List.cons_append, Act.put, List.setIfInBounds_toArray, List.set_cons_succ, List.set_cons_zero]
                refine st_branch [8] (by kernel_rfl) (branch1 (by simp only [List.getElem?_toArray, List.getElem?_cons_succ, List.getElem?_cons_zero]; rfl) ?_)
                refine eff_call 24 rfl (by simp [go_sem]; rfl) (by repeat (first | (with_reducible exact Bel.refl _) | (with_reducible assumption) | (with_reducible refine Bel.drewN ?_ _) | (with_reducible refine Bel.drew ?_) | (with_reducible refine Bel.alloc ?_ _) | (with_reducible refine Bel.setNew ?_ ?_ _) | (with_reducible refine Bel.trans ?_ (by assumption)) | (focus (simp; done)) | (focus (simp; omega)))) ?_
                refine (tokTake_any r u l' t' _ p _).mono ?_; rw [← Hy.out]; unfold bv; rintro e w1 ⟨rfl, hb1⟩
                refine ⟨_, rfl, hb1, ?_⟩
                try simp only [List.nil_append, List.cons_append, Act.put, List.setIfInBounds_toArray, List.set_cons_succ, List.set_cons_zero]
                refine st_sel [9, 10, 11] (by kernel_rfl) (by kernel_rfl) ?_
                simp only [picked, List.getElem?_cons_succ, List.getElem?_cons_zero, Option.toList_some, List.nil_append, List.cons_append, List.append_nil]
                try simp only [Act.put, List.setIfInBounds_toArray, List.set_cons_succ, List.set_cons_zero]
                repeat (go_big_quiet_step (fail))
                refine wpQuiet_nil ?_
                have e0 := hb1.cellAt wr.heap.size 0 (by simp)
                have e1 := hb1.cellAt wr.heap.size 1 (by simp)
                have e2 := hb1.cellAt wr.heap.size 2 (by simp)
                have e3 := hb1.cellAt wr.heap.size 3 (by simp)
                have f0 := hb1.frozenAt wr.heap.size 0 (by simp)
                have f1 := hb1.frozenAt wr.heap.size 1 (by simp)
                have f2 := hb1.frozenAt wr.heap.size 2 (by simp)
                have f3 := hb1.frozenAt wr.heap.size 3 (by simp)
                simp [go_sem] at e0 e1 e2 e3 f0 f1 f2 f3
                refine st_branch [13] (by kernel_rfl) (branch1 (by simp only [List.getElem?_toArray, List.getElem?_cons_succ, List.getElem?_cons_zero]; rfl) ?_)
                refine eff_done rfl (by simp [go_sem, e0, e1, e2, e3, f0, f1, f2, f3]; rfl) (by repeat (first | (with_reducible exact Bel.refl _) | (with_reducible assumption) | (with_reducible refine Bel.drewN ?_ _) | (with_reducible refine Bel.drew ?_) | (with_reducible refine Bel.alloc ?_ _) | (with_reducible refine Bel.setNew ?_ ?_ _) | (with_reducible refine Bel.trans ?_ (by assumption)) | (focus (simp; done)) | (focus (simp; omega)))) ?_
                try simp only [List.nil_append, List.cons_append, Act.put, List.setIfInBounds_toArray, List.set_cons_succ, List.set_cons_zero]
                refine st_sel [14] (by kernel_rfl) (by kernel_rfl) ?_
                simp only [picked, List.getElem?_cons_succ, List.getElem?_cons_zero, Option.toList_some, List.nil_append, List.cons_append, List.append_nil]
                try simp only [Act.put, List.setIfInBounds_toArray, List.set_cons_succ, List.set_cons_zero]
                repeat (go_big_quiet_step (fail))
                refine wpQuiet_nil ?_
                refine st_end (by kernel_rfl) ?_
                simp only [List.drop_succ_cons, List.drop_zero]
                clear e0 e1 e2 e3 f0 f1 f2 f3
                have H9 := join_old 37 (.int .i64 0) (.int .i64 0) (.int .i64 0) (.int .i64 0) (.int .i64 r) (.int .i64 u) (.int .i64 y2) (.int .i64 y3) hAF hb1
                generalize hw9 : World.setCell _ _ _ = w9 at H9 ⊢
                generalize hB9 : wr.heap.size = B9 at H9 ⊢
                clear hw9 hB9
                obtain ⟨A9F, C9F, hb9⟩ := H9
                have A9 := A9F.1
                have C9 := C9F.1
                have F9 := A9F.2
                have G9 : w9.cell? ⟨b, o + i, none⟩ = some (.int .i64 x) := by rw [hb9.cellAt _ _ hlb2]; exact g0
                clear hb1 q0 q1 q2 q3 q4 a0 a1 a2 a3 al
                have a0 := A9.2 0 _ rfl
                have a1 := A9.2 1 _ rfl
                have a2 := A9.2 2 _ rfl
                have a3 := A9.2 3 _ rfl
                have al := A9.1
                have c0 := C9.2 0 _ rfl
                have c1 := C9.2 1 _ rfl
                have c2 := C9.2 2 _ rfl
                have c3 := C9.2 3 _ rfl
                have cl := C9.1
                go_wp2_with fail
                refine (round_any _ 5 _ (by omega)).mono ?_; rw [← Hp.out]; rintro e w11 ⟨rfl, rfl⟩
                go_wp2_with fail
                refine (tokValid_any r u y2 y3 _).mono ?_; rw [HO2.out]; rintro e w12 ⟨rfl, hb12⟩
                have hS := ((((A9F.set 0 (by simp) (.int .i64 r)).set 1 (by simp) (.int .i64 u)).set 2 (by simp) (.int .i64 y2)).set 3 (by simp) (.int .i64 y3)).bel hb12
                have hbz : Bel w0 w12 := ((((((hbr.trans hb9).setNew (Nat.le_refl _) _).setNew (Nat.le_refl _) _).setNew (Nat.le_refl _) _).setNew (Nat.le_refl _) _)).trans hb12
                clear a0 a1 a2 a3 al c0 c1 c2 c3 cl
                go_wp2
                go_roundw
                case rel => exact ⟨i + 1, now + d, k + p, y2, y3, by go_num, by go_num, by go_num, by omega, by omega, by omega, by omega, by omega, by omega, by omega, by omega, HO2, rate_add HP.out (HN2.out (by simp)), hS, hbz⟩
                case measure => simp [intOf]; omega
            · skip
              refine eff_made rfl (by simp [go_sem]; exact ⟨rfl, rfl⟩) (by repeat (first | (with_reducible exact Bel.refl _) | (with_reducible assumption) | (with_reducible refine Bel.drewN ?_ _) | (with_reducible refine Bel.drew ?_) | (with_reducible refine Bel.alloc ?_ _) | (with_reducible refine Bel.setNew ?_ ?_ _) | (with_reducible refine Bel.trans ?_ (by assumption)) | (focus (simp; done)) | (focus (simp; omega)))) ?_
              try simp only [List.nil_append, List.cons_append, Act.put, List.setIfInBounds_toArray, List.set_cons_succ, List.set_cons_zero]
              refine st_branch [7] (by kernel_rfl) (branch1 (by simp only [List.getElem?_toArray, List.getElem?_cons_succ, List.getElem?_cons_zero]; rfl) ?_)
              refine eff_call 14 rfl (by simp [go_sem]; rfl) (by repeat (first | (with_reducible exact Bel.refl _) | (with_reducible assumption) | (with_reducible refine Bel.drewN ?_ _) | (with_reducible refine Bel.drew ?_) | (with_reducible refine Bel.alloc ?_ _) | (with_reducible refine Bel.setNew ?_ ?_ _) | (with_reducible refine Bel.trans ?_ (by assumption)) | (focus (simp; done)) | (focus (simp; omega)))) ?_
              refine (round_any _ 5 _ (by omega)).mono ?_; rintro e wq ⟨rfl, rfl⟩
              refine ⟨_, rfl, Bel.refl _, ?_⟩
              try simp only [List.nil_append, List.cons_append, Act.put, List.setIfInBounds_toArray, List.set_cons_succ, List.set_cons_zero]
              rw [← Hp.out]
              refine st_branch [8] (by kernel_rfl) (branch1 (by simp only [List.getElem?_toArray, List.getElem?_cons_succ, List.getElem?_cons_zero]; rfl) ?_)
              refine eff_call 24 rfl (by simp [go_sem]; rfl) (by repeat (first | (with_reducible exact Bel.refl _) | (with_reducible assumption) | (with_reducible refine Bel.drewN ?_ _) | (with_reducible refine Bel.drew ?_) | (with_reducible refine Bel.alloc ?_ _) | (with_reducible refine Bel.setNew ?_ ?_ _) | (with_reducible refine Bel.trans ?_ (by assumption)) | (focus (simp; done)) | (focus (simp; omega)))) ?_
              refine (tokTake_any r u l' t' _ p _).mono ?_; rw [← Hy.out]; unfold bv; rintro e w1 ⟨rfl, hb1⟩
              refine ⟨_, rfl, hb1, ?_⟩
              try simp only [List.nil_append, List.cons_append, Act.put, List.setIfInBounds_toArray, List.set_cons_succ, List.set_cons_zero]
              refine st_sel [9, 10, 11] (by kernel_rfl) (by kernel_rfl) ?_
              simp only [picked, List.getElem?_cons_succ, List.getElem?_cons_zero, Option.toList_some, List.nil_append, List.cons_append, List.append_nil]
              try simp only [Act.put, List.setIfInBounds_toArray, List.set_cons_succ, List.set_cons_zero]
              repeat (go_big_quiet_step (fail))
              refine wpQuiet_nil ?_
              have e0 := hb1.cellAt wr.heap.size 0 (by simp)
              have e1 := hb1.cellAt wr.heap.size 1 (by simp)
              have e2 := hb1.cellAt wr.heap.size 2 (by simp)
              have e3 := hb1.cellAt wr.heap.size 3 (by simp)
              have f0 := hb1.frozenAt wr.heap.size 0 (by simp)
              have f1 := hb1.frozenAt wr.heap.size 1 (by simp)
              have f2 := hb1.frozenAt wr.heap.size 2 (by simp)
              have f3 := hb1.frozenAt wr.heap.size 3 (by simp)
              simp [go_sem] at e0 e1 e2 e3 f0 f1 f2 f3
              refine st_branch [13] (by kernel_rfl) (branch1 (by simp only [List.getElem?_toArray, List.getElem?_cons_succ, List.getElem?_cons_zero]; rfl) ?_)
              refine eff_done rfl (by simp [go_sem, e0, e1, e2, e3, f0, f1, f2, f3]; rfl) (by repeat (first | (with_reducible exact Bel.refl _) | (with_reducible assumption) | (with_reducible refine Bel.drewN ?_ _) | (with_reducible refine Bel.drew ?_) | (with_reducible refine Bel.alloc ?_ _) | (with_reducible refine Bel.setNew ?_ ?_ _) | (with_reducible refine Bel.trans ?_ (by assumption)) | (focus (simp; done)) | (focus (simp; omega)))) ?_
              try simp only [List.nil_append, List.cons_append, Act.put, List.setIfInBounds_toArray, List.set_cons_succ, List.set_cons_zero]
              refine st_sel [14] (by kernel_rfl) (by kernel_rfl) ?_
              simp only [picked, List.getElem?_cons_succ, List.getElem?_cons_zero, Option.toList_some, List.nil_append, List.cons_append, List.append_nil]
              try simp only [Act.put, List.setIfInBounds_toArray, List.set_cons_succ, List.set_cons_zero]
              repeat (go_big_quiet_step (fail))
              refine wpQuiet_nil ?_
              refine st_end (by kernel_rfl) ?_
              simp only [List.drop_succ_cons, List.drop_zero]
              clear e0 e1 e2 e3 f0 f1 f2 f3
              have H9 := join_old 37 (.int .i64 0) (.int .i64 0) (.int .i64 0) (.int .i64 0) (.int .i64 r) (.int .i64 u) (.int .i64 y2) (.int .i64 y3) hAF hb1
              generalize hw9 : World.setCell _ _ _ = w9 at H9 ⊢
              generalize hB9 : wr.heap.size = B9 at H9 ⊢
              clear hw9 hB9
              obtain ⟨A9F, C9F, hb9⟩ := H9
              have A9 := A9F.1
              have C9 := C9F.1
              have F9 := A9F.2
              have G9 : w9.cell? ⟨b, o + i, none⟩ = some (.int .i64 x) := by rw [hb9.cellAt _ _ hlb2]; exact g0
              clear hb1 q0 q1 q2 q3 q4 a0 a1 a2 a3 al
              have a0 := A9.2 0 _ rfl
              have a1 := A9.2 1 _ rfl
              have a2 := A9.2 2 _ rfl
              have a3 := A9.2 3 _ rfl
              have al := A9.1
              have c0 := C9.2 0 _ rfl
              have c1 := C9.2 1 _ rfl
              have c2 := C9.2 2 _ rfl
              have c3 := C9.2 3 _ rfl
              have cl := C9.1
              go_wp2_with fail
              refine (round_any _ 5 _ (by omega)).mono ?_; rw [← Hp.out]; rintro e w11 ⟨rfl, rfl⟩
              go_wp2_with fail
              refine (tokValid_any r u y2 y3 _).mono ?_; rw [HO2.out]; rintro e w12 ⟨rfl, hb12⟩
              have hS := ((((A9F.set 0 (by simp) (.int .i64 r)).set 1 (by simp) (.int .i64 u)).set 2 (by simp) (.int .i64 y2)).set 3 (by simp) (.int .i64 y3)).bel hb12
              have hbz : Bel w0 w12 := ((((((hbr.trans hb9).setNew (Nat.le_refl _) _).setNew (Nat.le_refl _) _).setNew (Nat.le_refl _) _).setNew (Nat.le_refl _) _)).trans hb12
              clear a0 a1 a2 a3 al c0 c1 c2 c3 cl
              go_wp2
              go_roundw
              case rel => exact ⟨i + 1, now + d, k + p, y2, y3, by go_num, by go_num, by go_num, by omega, by omega, by omega, by omega, by omega, by omega, by omega, by omega, HO2, rate_add HP.out (HN2.out (by simp)), hS, hbz⟩
              case measure => simp [intOf]; omega
        · have hd8 : decide ((i : Int) < 30) = false := by simp; omega
          have hd9 : 30 ≤ (i : Int) := by omega
          have hd7 : (i : Int) < (nL : Int) := by omega
          obtain ⟨f1, f2⟩ := mul_fit (r := r) (d := now - t) (by omega) (by omega) (by omega) (by omega)
          have f3 := rate_end HO.out HP.out (show 0 ≤ r by omega) (show l ≤ 1000 * u by omega) p8
          have f4 : wrap64 (r * (now - t)) = r * (now - t) := IntWalk.wrap64_in _ ⟨by omega, by omega⟩
          generalize hm9 : r * (now - t) = mm at f1 f2 f3 f4
          go_wp2_with fail
          refine (madeTok_any n _).mono ?_; rw [← Hm.out]; unfold bv; rintro e w5 ⟨rfl, hb5⟩
          go_wp2_with fail
          refine (awakeTok_any _).mono ?_; rintro e w6 ⟨rfl, hb6⟩
          go_wp2
          go_ret
          exact ⟨rfl, (by repeat (first | (with_reducible exact Bel.refl _) | (with_reducible assumption) | (with_reducible refine Bel.drewN ?_ _) | (with_reducible refine Bel.drew ?_) | (with_reducible refine Bel.alloc ?_ _) | (with_reducible refine Bel.setNew ?_ ?_ _) | (with_reducible refine Bel.trans ?_ (by assumption)) | (focus (simp; done)) | (focus (simp; omega))))⟩
      · have hd8 : decide ((i : Int) < (nL : Int)) = false := by simp; omega
        have hd9 : (nL : Int) ≤ (i : Int) := by omega
        obtain ⟨f1, f2⟩ := mul_fit (r := r) (d := now - t) (by omega) (by omega) (by omega) (by omega)
        have f3 := rate_end HO.out HP.out (show 0 ≤ r by omega) (show l ≤ 1000 * u by omega) p8
        have f4 : wrap64 (r * (now - t)) = r * (now - t) := IntWalk.wrap64_in _ ⟨by omega, by omega⟩
        generalize hm9 : r * (now - t) = mm at f1 f2 f3 f4
        go_wp2_with fail
        refine (madeTok_any n _).mono ?_; rw [← Hm.out]; unfold bv; rintro e w5 ⟨rfl, hb5⟩
        go_wp2_with fail
        refine (awakeTok_any _).mono ?_; rintro e w6 ⟨rfl, hb6⟩
        go_wp2
        go_ret
        exact ⟨rfl, (by repeat (first | (with_reducible exact Bel.refl _) | (with_reducible assumption) | (with_reducible refine Bel.drewN ?_ _) | (with_reducible refine Bel.drew ?_) | (with_reducible refine Bel.alloc ?_ _) | (with_reducible refine Bel.setNew ?_ ?_ _) | (with_reducible refine Bel.trans ?_ (by assumption)) | (focus (simp; done)) | (focus (simp; omega))))⟩
end Go.Proofs.Ytchimkjbpmcpbaa
