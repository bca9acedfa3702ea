/- The walk of TimeoutNext. -/
import Derived.Test.YtbijfmpmgmfpgaaTmF
import Derived.Test.YtbijfmpmgmfpgaaTmH
import Derived.Test.YtbijfmpmgmfpgaaTmI
import Derived.Deep.DeepCutAuto
import Derived.Test.YtbijfmpmgmfpgaaLex
namespace Go.Proofs.Ytbijfmpmgmfpgaa
open Go.RowKit
set_option linter.unusedSimpArgs false

theorem srt_tail {m : Wt} {l : List Wt} (h : Srt (m :: l)) : Srt l := fun k x y hx hy => h (k + 1) x y (by simpa using hx) (by simpa using hy)
theorem srt_head : ∀ {l : List Wt} {m : Wt}, Srt (m :: l) → ∀ x ∈ l, m.at_ ≤ x.at_
  | [], _, _, x, hx => by cases hx
  | a :: l, m, h, x, hx => by
    have h0 := h 0 m a rfl rfl
    rcases List.mem_cons.1 hx with rfl | hx
    · exact h0
    · have := srt_head (srt_tail h) x hx
      omega
theorem srt_pw : ∀ {l : List Wt}, Srt l → l.Pairwise (fun a b => a.at_ ≤ b.at_)
  | [], _ => List.Pairwise.nil
  | _ :: _, h => List.Pairwise.cons (srt_head h) (srt_pw (srt_tail h))
theorem pw_srt {l : List Wt} (h : l.Pairwise (fun a b => a.at_ ≤ b.at_)) : Srt l := by
  intro k x y hx hy
  obtain ⟨h1, rfl⟩ := List.getElem?_eq_some_iff.1 hx
  obtain ⟨h2, rfl⟩ := List.getElem?_eq_some_iff.1 hy
  exact List.pairwise_iff_getElem.1 h k (k + 1) h1 h2 (by omega)
theorem srt_fl {id : Int} {ms : List Wt} (h : Srt ms) : Srt (flW id ms) := pw_srt ((srt_pw h).filter _)
theorem due_all {L now : Int} {ms : List Wt} (h : ∀ m ∈ ms, m.at_ + L ≤ now) : dueL L now ms = ms.map Wt.id := by
  unfold dueL
  rw [List.filter_eq_self.2 (fun m hm => decide_eq_true (h m hm))]
theorem due_none {L now : Int} {ms : List Wt} (h : ∀ m ∈ ms, now < m.at_ + L) : dueL L now ms = [] := by
  unfold dueL
  rw [List.filter_eq_nil_iff.2 (fun m hm => by have := h m hm; simp; omega)]
  rfl
theorem fl_mem {id : Int} {ms : List Wt} {m : Wt} (h : m ∈ flW id ms) : m ∈ ms ∧ m.id ≠ id := by
  unfold flW at h
  rw [List.mem_filter] at h
  exact ⟨h.1, by have := h.2; simpa [keep] using this⟩

set_option maxRecDepth 100000 in
set_option maxHeartbeats 8000000 in
theorem timeoutNext_walk (v : Value) (zs : List Int) (lim id : Int) (w : World) (hz : Ints w v zs) (_ : IsInt lim) (_ : IsInt id) :
    Calls Try.prog 12 #[v, .int .i64 lim, .int .i64 id] w fun e w' => e = .returned (.bool true) ∧ Bel w w' := by
  have HMD := Lib.hid (made_any v zs lim w hz)
  have hl1 := rnd_lo lim 20
  have hl2 := rnd_hi lim 20 (by omega)
  have HLB : Hid (limB (1 + rnd lim 20) = true) := Lib.hid (limB_iff.2 ⟨by omega, by omega⟩)
  generalize rnd lim 20 = lm at *
  have HA4 := Lib.hid (fun w' => awake28_any w')
  obtain ⟨A9, c9, rfl, _, _⟩ : ∃ A c, v = .slice A zs.length c ∧ zs.length ≤ c ∧ c ≤ maxLen := by
    obtain ⟨_, A, c, h1, h2, h3, _⟩ := hz
    exact ⟨A, c, h1, h2, h3⟩
  obtain ⟨z8, Hz8⟩ : ∃ z8, Hid (z8 = zs.length) := ⟨_, rfl⟩
  rw [← Hz8.out] at HMD ⊢
  clear hz
  go_enter Try.func12, Try.ntmps12
  go_wp2_with fail
  refine HMD.out.mono ?_; rintro e w1 ⟨A, c, ms, now, rfl, hrd, hmo, hn1, hn2, hln, hb1⟩
  have hG := AtF.new_at (w := w1) rfl 68 [.int .i64 (1 + lm), .slice A ms.length c, .int .i64 0]
  have hrd1 := hrd.alloc (.cells [.int .i64 (1 + lm), .slice A ms.length c, .int .i64 0].toArray 68)
  have hbw1 : Bel w (w1.alloc (.cells [.int .i64 (1 + lm), .slice A ms.length c, .int .i64 0].toArray 68)) := hb1.alloc _
  have hS := hmo.srt
  have hI := hmo.inR (by omega)
  simp only [List.toArray] at hG hrd1 hbw1
  have HNX := Lib.hid (next_any (1 + lm) 0 (.slice A ms.length c) ms _ hrd1 (by omega) hS hI HLB.out)
  cases ms with
  | nil =>
    clear HMD hmo hS hI
    simp only [List.length_nil, nextB] at hG hrd1 hbw1 HNX ⊢
    go_wp2_with fail
    refine HNX.out.mono ?_; rintro e w2 ⟨rfl, hb2⟩
    have hG2 := hG.bel hb2
    have g1 := hG2.1.2 1 _ rfl
    go_wp2_with fail
    refine (HA4.out _).mono ?_; rintro e w3 ⟨rfl, hb3⟩
    go_wp2
    go_ret
    exact ⟨rfl, hbw1.trans (hb2.trans hb3)⟩
  | cons m0 l =>
    have h00 : 0 ≤ m0.at_ ∧ m0.at_ ≤ now := hmo.inr m0 (by simp)
    have HHD : Hid (∀ x ∈ m0 :: l, m0.at_ ≤ x.at_ ∧ x.at_ ≤ now) := Lib.hid (fun x hx => ⟨by
      rcases List.mem_cons.1 hx with rfl | hx'
      · exact Int.le_refl _
      · exact srt_head hS x hx', (hmo.inr x hx).2⟩)
    simp only [nextB] at HNX
    generalize hms : m0 :: l = ms at *
    have HMS : Hid (m0 ∈ ms) := Lib.hid (by rw [← hms]; simp)
    clear hms
    have HLL : Hid (ms.length ≤ 8) := Lib.hid hln
    obtain ⟨rid, Hrid⟩ : ∃ r, Hid (r = rnd id 10) := ⟨_, rfl⟩
    have HRI := Lib.hid (fun w' => round_any id 10 w' (by omega))
    rw [← Hrid.out] at HRI
    obtain ⟨nx, Hnx⟩ : ∃ x, Hid (x = m0.at_ + (1 + lm)) := ⟨_, rfl⟩
    have hnx := Hnx.out
    have hnb : 0 ≤ nx ∧ nx ≤ 100 := by omega
    rw [← hnx] at HNX
    have HST := Lib.hid (fun w' (h : Bel (w1.alloc (.cells #[.int .i64 (1 + lm), .slice A ms.length c, .int .i64 0] 68)) w') => stop_any (1 + lm) 0 rid _ ms w' (hrd1.bel h) (by omega))
    have HD1 := Lib.hid (fun w' (h : Bel (w1.alloc (.cells #[.int .i64 (1 + lm), .slice A ms.length c, .int .i64 0] 68)) w') => due_any (1 + lm) 0 (nx - 1) _ ms w' (hrd1.bel h) (by omega) hS hI HLB.out)
    have HD2 := Lib.hid (fun w' (h : Bel (w1.alloc (.cells #[.int .i64 (1 + lm), .slice A ms.length c, .int .i64 0] 68)) w') => due_any (1 + lm) 0 nx _ ms w' (hrd1.bel h) (by omega) hS hI HLB.out)
    have HD3 := Lib.hid (fun w' (h : Bel (w1.alloc (.cells #[.int .i64 (1 + lm), .slice A ms.length c, .int .i64 0] 68)) w') => due_any (1 + lm) 0 (nx + 100) _ ms w' (hrd1.bel h) (by omega) hS hI HLB.out)
    have e1 : dueL (1 + lm) (nx - 1) ms = [] := due_none (fun m hm => by have := (HHD.out m hm).1; omega)
    have e3 : dueL (1 + lm) (nx + 100) ms = ms.map Wt.id := due_all (fun m hm => by have := (HHD.out m hm).2; omega)
    have e2 : 0 < (dueL (1 + lm) nx ms).length := by
      unfold dueL
      rw [List.length_map]
      exact List.length_pos_of_mem (List.mem_filter.2 ⟨HMS.out, decide_eq_true (by omega)⟩)
    rw [e1] at HD1
    rw [e3, List.length_map] at HD3
    have hFS : Srt (flW rid ms) := srt_fl hS
    have hFI : InR (flW rid ms) := fun m hm => hI m (fl_mem hm).1
    have hFL : (flW rid ms).length ≤ ms.length := List.length_filter_le _ _
    have HDF : Hid (∀ (v' : Value) (w' : World), Rd w' v' 2 (flW rid ms).length (wcells (flW rid ms)) → Calls Try.prog 50 #[.agg #[.int .i64 (1 + lm), v', .int .i64 0], .int .i64 (nx + 100)] w' fun e w2 => ∃ v'', e = .returned v'' ∧ w2.ownsRow w'.heap.size 3 1 v'' (flW rid ms).length (icells ((flW rid ms).map Wt.id)) ∧ Bel w' w2) := Lib.hid (fun v' w' h => by
      have := due_any (1 + lm) 0 (nx + 100) v' (flW rid ms) w' h (by omega) hFS hFI HLB.out
      rw [due_all (fun m hm => by have := (HHD.out m (fl_mem hm).1).2; omega), List.length_map] at this
      exact this)
    have HFM : Hid (∀ m ∈ flW rid ms, m.id ≠ rid) := Lib.hid (fun m hm => (fl_mem hm).2)
    generalize flW rid ms = F at *
    obtain ⟨d2, Hd2⟩ : ∃ d, Hid (d = (dueL (1 + lm) nx ms).length) := ⟨_, rfl⟩
    rw [← Hd2.out] at HD2 e2
    generalize icells (dueL (1 + lm) nx ms) = dc at *
    obtain ⟨k, Hk⟩ : ∃ k, Hid (k = ms.length) := ⟨_, rfl⟩
    rw [← Hk.out] at HST HD1 HD2 HD3 HNX hG hFL HLL hbw1 ⊢
    obtain ⟨f, Hf⟩ : ∃ k, Hid (k = F.length) := ⟨_, rfl⟩
    rw [← Hf.out] at HST HDF hFL
    clear HMD hmo hS hI e1 e3 hFS hFI hrd hrd1 hln
    have hk8 := HLL.out
    clear hnx h00
    obtain ⟨hnb1, hnb2⟩ := hnb
    go_wp2_with fail
    generalize w1.alloc _ = W1 at *
    generalize w1.heap.size = G at *
    refine HNX.out.mono ?_; rintro e w2 ⟨rfl, hb2⟩
    have hG2 := hG.bel hb2
    go_upto_region 5 with fail
    go_cut [11] (fun hv wx => ∃ (H : Nat) (A5 : Option Addr) (c5 : Nat), hv = .pointer (some ⟨H, 0, none⟩) ∧ AtF wx H [.int .i64 (1 + lm), .slice A5 f c5, .int .i64 0] ∧ Rd wx (.slice A5 f c5) 2 f (wcells F) ∧ Bel w2 wx)
    case first =>
      have g0 := hG2.1.2 0 _ rfl
      have g1 := hG2.1.2 1 _ rfl
      have g2 := hG2.1.2 2 _ rfl
      have rg0 := fun d os => cell_regrown g0 d os
      have rg1 := fun d os => cell_regrown g1 d os
      have rg2 := fun d os => cell_regrown g2 d os
      refine wp_region_st [2, 3, 4] 5 (by kernel_rfl) (by kernel_rfl) ?_
      with_reducible refine st_sel [0, 1] (by kernel_rfl) (by kernel_rfl) ?_
      simp only [picked, List.getElem?_cons_succ, List.getElem?_cons_zero, Option.toList_some, List.nil_append, List.cons_append, List.append_nil]
      try simp only [Act.put, List.setIfInBounds_toArray, List.set_cons_succ, List.set_cons_zero]
      repeat (go_big_quiet_step (fail))
      with_reducible refine wpQuiet_nil ?_
      refine st_branch [2, 4] (by kernel_rfl) (branch_cons (by simp only [List.getElem?_toArray, List.getElem?_cons_succ, List.getElem?_cons_zero]; rfl) ?_ (branch_cons (by simp only [List.getElem?_toArray, List.getElem?_cons_succ, List.getElem?_cons_zero]; rfl) ?_ branch_nil))
      · skip
        refine eff_call 14 rfl (by simp [go_sem]; rfl) (by repeat (first | (with_reducible exact Bel.refl _) | (with_reducible assumption) | (with_reducible refine Bel.drewN ?_ _) | (with_reducible refine Bel.drew ?_) | (with_reducible refine Bel.alloc ?_ _) | (with_reducible refine Bel.setNew ?_ ?_ _) | (with_reducible refine Bel.trans ?_ (by assumption)) | (focus (simp; done)) | (focus (simp; omega)))) ?_
        refine (HRI.out _).mono ?_; rintro e wq ⟨rfl, rfl⟩
        refine ⟨_, rfl, Bel.refl _, ?_⟩
        try simp only [List.nil_append, List.cons_append, Act.put, List.setIfInBounds_toArray, List.set_cons_succ, List.set_cons_zero]
        refine st_branch [3, 4] (by kernel_rfl) (branch_cons (by simp only [List.getElem?_toArray, List.getElem?_cons_succ, List.getElem?_cons_zero]; rfl) ?_ (branch_cons (by simp only [List.getElem?_toArray, List.getElem?_cons_succ, List.getElem?_cons_zero]; rfl) ?_ branch_nil))
        · skip
          refine eff_call 48 rfl (by simp [go_sem]; rfl) (by repeat (first | (with_reducible exact Bel.refl _) | (with_reducible assumption) | (with_reducible refine Bel.drewN ?_ _) | (with_reducible refine Bel.drew ?_) | (with_reducible refine Bel.alloc ?_ _) | (with_reducible refine Bel.setNew ?_ ?_ _) | (with_reducible refine Bel.trans ?_ (by assumption)) | (focus (simp; done)) | (focus (simp; omega)))) ?_
          refine (HST.out _ (hb2.trans (by repeat (first | (with_reducible exact Bel.refl _) | (with_reducible assumption) | (with_reducible refine Bel.drewN ?_ _) | (with_reducible refine Bel.drew ?_) | (with_reducible refine Bel.alloc ?_ _) | (with_reducible refine Bel.setNew ?_ ?_ _) | (with_reducible refine Bel.trans ?_ (by assumption)) | (focus (simp; done)) | (focus (simp; omega)))))).mono ?_; rintro e w5 ⟨A5, c5, rfl, hr5, hk5, hb5⟩
          refine ⟨_, rfl, hb5, ?_⟩
          try simp only [List.nil_append, List.cons_append, Act.put, List.setIfInBounds_toArray, List.set_cons_succ, List.set_cons_zero]
          refine st_branch [4] (by kernel_rfl) (branch_cons (by simp only [List.getElem?_toArray, List.getElem?_cons_succ, List.getElem?_cons_zero]; rfl) ?_ branch_nil)
          refine eff_made rfl (by simp [go_sem]; exact ⟨rfl, rfl⟩) (by repeat (first | (with_reducible exact Bel.refl _) | (with_reducible assumption) | (with_reducible refine Bel.drewN ?_ _) | (with_reducible refine Bel.drew ?_) | (with_reducible refine Bel.alloc ?_ _) | (with_reducible refine Bel.setNew ?_ ?_ _) | (with_reducible refine Bel.trans ?_ (by assumption)) | (focus (simp; done)) | (focus (simp; omega)))) ?_
          try simp only [List.nil_append, List.cons_append, Act.put, List.setIfInBounds_toArray, List.set_cons_succ, List.set_cons_zero]
          refine st_end (by kernel_rfl) ?_
          simp only [List.drop_succ_cons, List.drop_zero, List.drop_nil]
          clear rg0 rg1 rg2 g0 g1 g2
          have hb25 : Bel w2 w5 := by
            refine Bel.trans ?_ hb5
            exact (by repeat (first | (with_reducible exact Bel.refl _) | (with_reducible assumption) | (with_reducible refine Bel.drewN ?_ _) | (with_reducible refine Bel.drew ?_) | (with_reducible refine Bel.alloc ?_ _) | (with_reducible refine Bel.setNew ?_ ?_ _) | (with_reducible refine Bel.trans ?_ (by assumption)) | (focus (simp; done)) | (focus (simp; omega))))
          go_wp2_with fail
          go_meet
          exact ⟨_, A5, c5, rfl, AtF.new_at rfl _ _, hr5.alloc _, hb25.alloc _⟩
        · skip
          refine eff_made rfl (by simp [go_sem]; exact ⟨rfl, rfl⟩) (by repeat (first | (with_reducible exact Bel.refl _) | (with_reducible assumption) | (with_reducible refine Bel.drewN ?_ _) | (with_reducible refine Bel.drew ?_) | (with_reducible refine Bel.alloc ?_ _) | (with_reducible refine Bel.setNew ?_ ?_ _) | (with_reducible refine Bel.trans ?_ (by assumption)) | (focus (simp; done)) | (focus (simp; omega)))) ?_
          try simp only [List.nil_append, List.cons_append, Act.put, List.setIfInBounds_toArray, List.set_cons_succ, List.set_cons_zero]
          refine st_branch [3] (by kernel_rfl) (branch_cons (by simp only [List.getElem?_toArray, List.getElem?_cons_succ, List.getElem?_cons_zero]; rfl) ?_ branch_nil)
          refine eff_call 48 rfl (by simp [go_sem]; rfl) (by repeat (first | (with_reducible exact Bel.refl _) | (with_reducible assumption) | (with_reducible refine Bel.drewN ?_ _) | (with_reducible refine Bel.drew ?_) | (with_reducible refine Bel.alloc ?_ _) | (with_reducible refine Bel.setNew ?_ ?_ _) | (with_reducible refine Bel.trans ?_ (by assumption)) | (focus (simp; done)) | (focus (simp; omega)))) ?_
          refine (HST.out _ (hb2.trans (by repeat (first | (with_reducible exact Bel.refl _) | (with_reducible assumption) | (with_reducible refine Bel.drewN ?_ _) | (with_reducible refine Bel.drew ?_) | (with_reducible refine Bel.alloc ?_ _) | (with_reducible refine Bel.setNew ?_ ?_ _) | (with_reducible refine Bel.trans ?_ (by assumption)) | (focus (simp; done)) | (focus (simp; omega)))))).mono ?_; rintro e w5 ⟨A5, c5, rfl, hr5, hk5, hb5⟩
          refine ⟨_, rfl, hb5, ?_⟩
          try simp only [List.nil_append, List.cons_append, Act.put, List.setIfInBounds_toArray, List.set_cons_succ, List.set_cons_zero]
          refine st_end (by kernel_rfl) ?_
          simp only [List.drop_succ_cons, List.drop_zero, List.drop_nil]
          clear rg0 rg1 rg2 g0 g1 g2
          have hH5 : AtF w5 w2.heap.size [.int .i64 0, .slice none 0 0, .int .i64 0] := (AtF.new_at (w := w2.drew) rfl 68 [.int .i64 0, .slice none 0 0, .int .i64 0]).bel hb5
          have e0 := hH5.1.2 0 _ rfl
          have e1 := hH5.1.2 1 _ rfl
          have e2 := hH5.1.2 2 _ rfl
          have ef := hH5.2
          have hH6 := hH5.setRow [.int .i64 (1 + lm), .slice A5 f c5, .int .i64 0] rfl
          have hr6 := hr5.setRow (B := w2.heap.size) (i := 0) [.int .i64 (1 + lm), .slice A5 f c5, .int .i64 0] (fun e => by have := hk5 _ e; simp at this; try omega)
          have hb25 : Bel w2 w5 := by
            refine Bel.trans ?_ hb5
            exact (by repeat (first | (with_reducible exact Bel.refl _) | (with_reducible assumption) | (with_reducible refine Bel.drewN ?_ _) | (with_reducible refine Bel.drew ?_) | (with_reducible refine Bel.alloc ?_ _) | (with_reducible refine Bel.setNew ?_ ?_ _) | (with_reducible refine Bel.trans ?_ (by assumption)) | (focus (simp; done)) | (focus (simp; omega))))
          have hb6 : Bel w2 (setRow w5 w2.heap.size 0 [.int .i64 (1 + lm), .slice A5 f c5, .int .i64 0]) := Bel.setRow (B := w2.heap.size) (i := 0) [.int .i64 (1 + lm), .slice A5 f c5, .int .i64 0] hb25 (Nat.le_refl _)
          have el := hH5.1.1
          go_wp2_with fail
          go_meet
          exact ⟨_, A5, c5, rfl, hH6, hr6, hb6⟩
      · skip
        refine eff_made rfl (by simp [go_sem]; exact ⟨rfl, rfl⟩) (by repeat (first | (with_reducible exact Bel.refl _) | (with_reducible assumption) | (with_reducible refine Bel.drewN ?_ _) | (with_reducible refine Bel.drew ?_) | (with_reducible refine Bel.alloc ?_ _) | (with_reducible refine Bel.setNew ?_ ?_ _) | (with_reducible refine Bel.trans ?_ (by assumption)) | (focus (simp; done)) | (focus (simp; omega)))) ?_
        try simp only [List.nil_append, List.cons_append, Act.put, List.setIfInBounds_toArray, List.set_cons_succ, List.set_cons_zero]
        refine st_branch [2] (by kernel_rfl) (branch_cons (by simp only [List.getElem?_toArray, List.getElem?_cons_succ, List.getElem?_cons_zero]; rfl) ?_ branch_nil)
        refine eff_call 14 rfl (by simp [go_sem]; rfl) (by repeat (first | (with_reducible exact Bel.refl _) | (with_reducible assumption) | (with_reducible refine Bel.drewN ?_ _) | (with_reducible refine Bel.drew ?_) | (with_reducible refine Bel.alloc ?_ _) | (with_reducible refine Bel.setNew ?_ ?_ _) | (with_reducible refine Bel.trans ?_ (by assumption)) | (focus (simp; done)) | (focus (simp; omega)))) ?_
        refine (HRI.out _).mono ?_; rintro e wq ⟨rfl, rfl⟩
        refine ⟨_, rfl, Bel.refl _, ?_⟩
        try simp only [List.nil_append, List.cons_append, Act.put, List.setIfInBounds_toArray, List.set_cons_succ, List.set_cons_zero]
        refine st_branch [3] (by kernel_rfl) (branch_cons (by simp only [List.getElem?_toArray, List.getElem?_cons_succ, List.getElem?_cons_zero]; rfl) ?_ branch_nil)
        refine eff_call 48 rfl (by simp [go_sem]; rfl) (by repeat (first | (with_reducible exact Bel.refl _) | (with_reducible assumption) | (with_reducible refine Bel.drewN ?_ _) | (with_reducible refine Bel.drew ?_) | (with_reducible refine Bel.alloc ?_ _) | (with_reducible refine Bel.setNew ?_ ?_ _) | (with_reducible refine Bel.trans ?_ (by assumption)) | (focus (simp; done)) | (focus (simp; omega)))) ?_
        refine (HST.out _ (hb2.trans (by repeat (first | (with_reducible exact Bel.refl _) | (with_reducible assumption) | (with_reducible refine Bel.drewN ?_ _) | (with_reducible refine Bel.drew ?_) | (with_reducible refine Bel.alloc ?_ _) | (with_reducible refine Bel.setNew ?_ ?_ _) | (with_reducible refine Bel.trans ?_ (by assumption)) | (focus (simp; done)) | (focus (simp; omega)))))).mono ?_; rintro e w5 ⟨A5, c5, rfl, hr5, hk5, hb5⟩
        refine ⟨_, rfl, hb5, ?_⟩
        try simp only [List.nil_append, List.cons_append, Act.put, List.setIfInBounds_toArray, List.set_cons_succ, List.set_cons_zero]
        refine st_end (by kernel_rfl) ?_
        simp only [List.drop_succ_cons, List.drop_zero, List.drop_nil]
        clear rg0 rg1 rg2 g0 g1 g2
        have hH5 : AtF w5 w2.heap.size [.int .i64 0, .slice none 0 0, .int .i64 0] := (AtF.new_at (w := w2.drew) rfl 68 [.int .i64 0, .slice none 0 0, .int .i64 0]).bel hb5
        have e0 := hH5.1.2 0 _ rfl
        have e1 := hH5.1.2 1 _ rfl
        have e2 := hH5.1.2 2 _ rfl
        have ef := hH5.2
        have hH6 := hH5.setRow [.int .i64 (1 + lm), .slice A5 f c5, .int .i64 0] rfl
        have hr6 := hr5.setRow (B := w2.heap.size) (i := 0) [.int .i64 (1 + lm), .slice A5 f c5, .int .i64 0] (fun e => by have := hk5 _ e; simp at this; try omega)
        have hb25 : Bel w2 w5 := by
          refine Bel.trans ?_ hb5
          exact (by repeat (first | (with_reducible exact Bel.refl _) | (with_reducible assumption) | (with_reducible refine Bel.drewN ?_ _) | (with_reducible refine Bel.drew ?_) | (with_reducible refine Bel.alloc ?_ _) | (with_reducible refine Bel.setNew ?_ ?_ _) | (with_reducible refine Bel.trans ?_ (by assumption)) | (focus (simp; done)) | (focus (simp; omega))))
        have hb6 : Bel w2 (setRow w5 w2.heap.size 0 [.int .i64 (1 + lm), .slice A5 f c5, .int .i64 0]) := Bel.setRow (B := w2.heap.size) (i := 0) [.int .i64 (1 + lm), .slice A5 f c5, .int .i64 0] hb25 (Nat.le_refl _)
        have el := hH5.1.1
        go_wp2_with fail
        go_meet
        exact ⟨_, A5, c5, rfl, hH6, hr6, hb6⟩
    case rest =>
      obtain ⟨H, A5, c5, rfl, hH, hrF, hbc⟩ := hcut
      have hG3 := hG2.bel hbc
      have h0 := hH.1.2 0 _ rfl
      have h1 := hH.1.2 1 _ rfl
      have h2 := hH.1.2 2 _ rfl
      go_wp2_with fail
      refine (HDF.out _ _ hrF).mono ?_; rintro e w4 ⟨v4, rfl, ho4, hb4⟩
      obtain ⟨A4, c4, rfl⟩ := own_slice ho4
      obtain ⟨_, A4', c4', hv, _, hmx, hra⟩ := Rd.own ho4
      injection hv with hv1 hv2 hv3
      subst hv1 hv3
      have HRA := Lib.hid hra
      have hG4 := hG3.bel hb4
      have hH4 := hH.bel hb4
      have hbw4 : Bel W1 w4 := hb2.trans (hbc.trans hb4)
      clear h0 h1 h2 hra ho4 hG3 hH hb4 hbc hrF
      go_wp2
      go_loopw [13] (fun iv wr => ∃ i : Nat, iv = .int .i64 i ∧ i ≤ f ∧ Bel w4 wr) (fun iv _ => f - (intOf iv).toNat)
      case atStart => exact ⟨0, rfl, by omega, Bel.refl _⟩
      case round =>
        obtain ⟨i, rfl, p1, hbr⟩ := hrel
        by_cases hlt : i < f
        · have i1 : (i : Int) < (f : Int) := by omega
          obtain ⟨b, o, rfl, hlb, hcell⟩ := HRA.out (by omega)
          obtain ⟨x, hx⟩ : ∃ x, F[i]? = some x := ⟨F[i]'(by have := Hf.out; omega), List.getElem?_eq_getElem _⟩
          have d0 : wr.cell? ⟨b, o + i, none⟩ = some (.int .i64 x.id) := by
            rw [hbr.cellAt b _ hlb]; exact hcell i _ (by simp [icells, hx])
          have hid : (x.id == rid) = false := by
            have := HFM.out x (List.mem_of_getElem? hx)
            simpa using this
          have rg := fun d os => cell_regrown d0 d os
          clear hx hcell
          go_wp2_with fail
          refine wp_region_lex [5] 7 (by kernel_rfl) (by kernel_rfl) ?_
          simp only [List.take_succ_cons, List.take_zero, List.drop_succ_cons, List.drop_zero]
          with_reducible refine lex_seg 5 _ _ _ _ (by kernel_rfl) ?_
          simp only [List.take_succ_cons, List.take_zero, List.drop_succ_cons, List.drop_zero]
          try simp only [Act.put, List.setIfInBounds_toArray, List.set_cons_succ, List.set_cons_zero]
          repeat (go_big_quiet_step (fail))
          with_reducible refine wpQuiet_nil ?_
          refine lex_call 14 rfl rfl (by simp [go_sem]; rfl) ?_
          refine (HRI.out _).mono ?_; rintro e wq ⟨rfl, rfl⟩
          refine ⟨_, rfl, Bel.refl _, ?_⟩
          with_reducible refine lex_seg 1 _ _ _ _ (by kernel_rfl) ?_
          simp only [List.take_succ_cons, List.take_zero, List.drop_succ_cons, List.drop_zero]
          try simp only [Act.put, List.setIfInBounds_toArray, List.set_cons_succ, List.set_cons_zero]
          repeat (go_big_quiet_step (fail))
          with_reducible refine wpQuiet_nil ?_
          with_reducible refine lex_nil ?_
          clear rg
          go_wp2
          go_roundw
          case rel => exact ⟨i + 1, by go_num, by omega, hbr.trans (by repeat (first | (with_reducible exact Bel.refl _) | (with_reducible assumption) | (with_reducible refine Bel.drewN ?_ _) | (with_reducible refine Bel.drew ?_) | (with_reducible refine Bel.alloc ?_ _) | (with_reducible refine Bel.setNew ?_ ?_ _) | (with_reducible refine Bel.trans ?_ (by assumption)) | (focus (simp; done)) | (focus (simp; omega))))⟩
          case measure => simp [intOf]; omega
        · obtain rfl : i = f := by omega
          have jk : decide ((i : Int) < (i : Int)) = false := by simp
          have hG5 := hG4.bel hbr
          have hH5 := hH4.bel hbr
          have hb5 := hbw4.trans hbr
          have g0 := hG5.1.2 0 _ rfl
          have g1 := hG5.1.2 1 _ rfl
          have g2 := hG5.1.2 2 _ rfl
          have h1 := hH5.1.2 1 _ rfl
          have rg0 := fun d os => cell_regrown g0 d os
          have rg1 := fun d os => cell_regrown g1 d os
          have rg2 := fun d os => cell_regrown g2 d os
          have rh1 := fun d os => cell_regrown h1 d os
          have hd2 : (0 : Int) < (d2 : Int) := by omega
          go_wp2_with fail
          refine wp_region_lex [3, 9, 17, 33] 35 (by kernel_rfl) (by kernel_rfl) ?_
          simp only [List.take_succ_cons, List.take_zero, List.drop_succ_cons, List.drop_zero]
          with_reducible refine lex_seg 3 _ _ _ _ (by kernel_rfl) ?_
          simp only [List.take_succ_cons, List.take_zero, List.drop_succ_cons, List.drop_zero]
          try simp only [Act.put, List.setIfInBounds_toArray, List.set_cons_succ, List.set_cons_zero]
          repeat (go_big_quiet_step (fail))
          with_reducible refine wpQuiet_nil ?_
          refine lex_call 50 (by kernel_rfl) (by kernel_rfl) (by simp [go_sem]; rfl) ?_
          refine (HD1.out _ (hb5.trans (by repeat (first | (with_reducible exact Bel.refl _) | (with_reducible assumption) | (with_reducible refine Bel.drewN ?_ _) | (with_reducible refine Bel.drew ?_) | (with_reducible refine Bel.alloc ?_ _) | (with_reducible refine Bel.setNew ?_ ?_ _) | (with_reducible refine Bel.trans ?_ (by assumption)) | (focus (simp; done)) | (focus (simp; omega)))))).mono ?_; rintro e w6 ⟨v6, rfl, ho6, hb6⟩
          obtain ⟨A6, c6, rfl⟩ := own_slice ho6
          refine ⟨_, rfl, hb6, ?_⟩
          with_reducible refine lex_seg 5 _ _ _ _ (by kernel_rfl) ?_
          simp only [List.take_succ_cons, List.take_zero, List.drop_succ_cons, List.drop_zero]
          try simp only [Act.put, List.setIfInBounds_toArray, List.set_cons_succ, List.set_cons_zero]
          repeat (go_big_quiet_step (fail))
          with_reducible refine wpQuiet_nil ?_
          refine lex_call 50 (by kernel_rfl) (by kernel_rfl) (by simp [go_sem]; rfl) ?_
          refine (HD2.out _ (hb5.trans (by repeat (first | (with_reducible exact Bel.refl _) | (with_reducible assumption) | (with_reducible refine Bel.drewN ?_ _) | (with_reducible refine Bel.drew ?_) | (with_reducible refine Bel.alloc ?_ _) | (with_reducible refine Bel.setNew ?_ ?_ _) | (with_reducible refine Bel.trans ?_ (by assumption)) | (focus (simp; done)) | (focus (simp; omega)))))).mono ?_; rintro e w7 ⟨v7, rfl, ho7, hb7⟩
          obtain ⟨A7, c7, rfl⟩ := own_slice ho7
          refine ⟨_, rfl, hb7, ?_⟩
          with_reducible refine lex_seg 7 _ _ _ _ (by kernel_rfl) ?_
          simp only [List.take_succ_cons, List.take_zero, List.drop_succ_cons, List.drop_zero]
          try simp only [Act.put, List.setIfInBounds_toArray, List.set_cons_succ, List.set_cons_zero]
          repeat (go_big_quiet_step (fail))
          with_reducible refine wpQuiet_nil ?_
          refine lex_call 50 (by kernel_rfl) (by kernel_rfl) (by simp [go_sem]; rfl) ?_
          refine (HD3.out _ (hb5.trans (by repeat (first | (with_reducible exact Bel.refl _) | (with_reducible assumption) | (with_reducible refine Bel.drewN ?_ _) | (with_reducible refine Bel.drew ?_) | (with_reducible refine Bel.alloc ?_ _) | (with_reducible refine Bel.setNew ?_ ?_ _) | (with_reducible refine Bel.trans ?_ (by assumption)) | (focus (simp; done)) | (focus (simp; omega)))))).mono ?_; rintro e w8 ⟨v8, rfl, ho8, hb8⟩
          obtain ⟨A8, c8, rfl⟩ := own_slice ho8
          refine ⟨_, rfl, hb8, ?_⟩
          with_reducible refine lex_seg 15 _ _ _ _ (by kernel_rfl) ?_
          simp only [List.take_succ_cons, List.take_zero, List.drop_succ_cons, List.drop_zero]
          try simp only [Act.put, List.setIfInBounds_toArray, List.set_cons_succ, List.set_cons_zero]
          repeat (go_big_quiet_step (fail))
          with_reducible refine wpQuiet_nil ?_
          refine lex_call 52 (by kernel_rfl) (by kernel_rfl) (by simp [go_sem]; rfl) ?_
          refine (HA4.out _).mono ?_; rintro e w9 ⟨rfl, hb9⟩
          refine ⟨_, rfl, hb9, ?_⟩
          with_reducible refine lex_seg 1 _ _ _ _ (by kernel_rfl) ?_
          simp only [List.take_succ_cons, List.take_zero, List.drop_succ_cons, List.drop_zero]
          try simp only [Act.put, List.setIfInBounds_toArray, List.set_cons_succ, List.set_cons_zero]
          repeat (go_big_quiet_step (fail))
          with_reducible refine wpQuiet_nil ?_
          with_reducible refine lex_nil ?_
          go_wp2
          go_ret
          exact ⟨rfl, hbw1.trans (hb5.trans (by repeat (first | (with_reducible exact Bel.refl _) | (with_reducible assumption) | (with_reducible refine Bel.drewN ?_ _) | (with_reducible refine Bel.drew ?_) | (with_reducible refine Bel.alloc ?_ _) | (with_reducible refine Bel.setNew ?_ ?_ _) | (with_reducible refine Bel.trans ?_ (by assumption)) | (focus (simp; done)) | (focus (simp; omega)))))⟩
end Go.Proofs.Ytbijfmpmgmfpgaa
