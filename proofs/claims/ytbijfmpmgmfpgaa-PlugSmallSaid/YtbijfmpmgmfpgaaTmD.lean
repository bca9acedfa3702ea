/- timeout.watched over a list that is in order: a copy of it. -/
import Derived.Test.YtbijfmpmgmfpgaaTmC
import Derived.Test.YtbijfmpmgmfpgaaLex
namespace Go.Proofs.Ytbijfmpmgmfpgaa
open Go.RowKit
set_option linter.unusedSimpArgs false

def cmpI (a b : Int) : Int := if a < b then -1 else if b < a then 1 else 0
set_option maxHeartbeats 1000000 in
theorem isNaN_any (a : Int) (w : World) :
    Calls Try.prog 97 #[.int .i64 a] w fun e w' => e = .returned (.bool false) ∧ w = w' := by
  go_enter Try.func97, Try.ntmps97
  go_wp2
  go_ret
  exact ⟨rfl, rfl⟩

set_option maxHeartbeats 1000000 in
theorem compare_any (a b : Int) (w : World) :
    Calls Try.prog 93 #[.int .i64 a, .int .i64 b] w fun e w' => e = .returned (.int .i64 (cmpI a b)) ∧ w = w' := by
  by_cases h1 : a < b
  · have HF := Lib.hid (show cmpI a b = -1 by simp [cmpI, h1])
    rw [HF.out]
    go_enter Try.func93, Try.ntmps93
    go_wp2_with (go_at_call 97; refine (isNaN_any _ _).mono ?_; rintro e w' ⟨rfl, rfl⟩)
    go_ret
    exact ⟨rfl, rfl⟩
  · by_cases h2 : b < a
    · have HF := Lib.hid (show cmpI a b = 1 by simp [cmpI, h1, h2])
      rw [HF.out]
      go_enter Try.func93, Try.ntmps93
      go_wp2_with (go_at_call 97; refine (isNaN_any _ _).mono ?_; rintro e w' ⟨rfl, rfl⟩)
      go_ret
      exact ⟨rfl, rfl⟩
    · obtain rfl : a = b := by omega
      have HF := Lib.hid (show cmpI a a = 0 by simp [cmpI])
      rw [HF.out]
      go_enter Try.func93, Try.ntmps93
      go_wp2_with (go_at_call 97; refine (isNaN_any _ _).mono ?_; rintro e w' ⟨rfl, rfl⟩)
      go_ret
      exact ⟨rfl, rfl⟩

set_option maxHeartbeats 1000000 in
theorem watched1_any (x : Wt) (w : World) :
    Calls Try.prog 90 #[.agg #[.int .i64 x.id, .int .i64 x.at_]] w fun e w' => e = .returned (.bool (!sncB x.at_)) ∧ Bel w w' := by
  obtain ⟨b, Hb⟩ : ∃ b, Hid (b = sncB x.at_) := ⟨_, rfl⟩
  rw [← Hb.out]
  go_enter Try.func90, Try.ntmps90
  go_wp2_with fail
  refine (since_any _ _).mono ?_; rw [← Hb.out]; rintro e w1 ⟨rfl, rfl⟩
  go_wp2
  go_ret
  exact ⟨rfl, (by repeat (first | (with_reducible exact Bel.refl _) | (with_reducible assumption) | (with_reducible refine Bel.drewN ?_ _) | (with_reducible refine Bel.drew ?_) | (with_reducible refine Bel.alloc ?_ _) | (with_reducible refine Bel.setNew ?_ ?_ _) | (with_reducible refine Bel.trans ?_ (by assumption)) | (focus (simp; done)) | (focus (simp; omega))))⟩
set_option maxHeartbeats 1000000 in
theorem watched2_any (x y : Wt) (w : World) :
    Calls Try.prog 92 #[.agg #[.int .i64 x.id, .int .i64 x.at_], .agg #[.int .i64 y.id, .int .i64 y.at_]] w fun e w' => e = .returned (.int .i64 (cmpI x.at_ y.at_)) ∧ Bel w w' := by
  obtain ⟨b, Hb⟩ : ∃ b, Hid (b = cmpI x.at_ y.at_) := ⟨_, rfl⟩
  rw [← Hb.out]
  go_enter Try.func92, Try.ntmps92
  go_wp2_with fail
  refine (compare_any _ _ _).mono ?_; rw [← Hb.out]; rintro e w1 ⟨rfl, rfl⟩
  go_wp2
  go_ret
  exact ⟨rfl, (by repeat (first | (with_reducible exact Bel.refl _) | (with_reducible assumption) | (with_reducible refine Bel.drewN ?_ _) | (with_reducible refine Bel.drew ?_) | (with_reducible refine Bel.alloc ?_ _) | (with_reducible refine Bel.setNew ?_ ?_ _) | (with_reducible refine Bel.trans ?_ (by assumption)) | (focus (simp; done)) | (focus (simp; omega))))⟩

/-- In order. -/
def Srt (ms : List Wt) : Prop := ∀ (k : Nat) (x y : Wt), ms[k]? = some x → ms[k + 1]? = some y → x.at_ ≤ y.at_
def InR (ms : List Wt) : Prop := ∀ m ∈ ms, sncB m.at_ = true

set_option maxRecDepth 100000 in
set_option maxHeartbeats 4000000 in
theorem insSorted_any (ms : List Wt) (v : Value) (w : World) (h : Rd w v 2 ms.length (wcells ms)) (hn : ms.length ≤ 16) (hS : Srt ms) :
    Calls Try.prog 98 #[v, .int .i64 0, .int .i64 (ms.length : Int), .func (.func 92) #[] #[]] w fun e w' => e = .returned (.tuple #[]) ∧ Bel w w' := by
  obtain ⟨A, c, rfl, hc1, hc2⟩ := h.form
  unfold maxLen at hc2
  have eg : ∀ args w, (callFunc 92 args).run Try.prog w = .ok (.enter 92 args) w := enters_of Try.func92 (by kernel_rfl) rfl
  have HAT := Lib.hid (fun k m (hk : ms[k]? = some m) => wts_at h hk)
  have HS := Lib.hid hS
  obtain ⟨n, Hn⟩ : ∃ n, Hid (n = ms.length) := ⟨_, rfl⟩
  rw [← Hn.out] at hc1 hn ⊢
  clear h hS
  go_enter Try.func98, Try.ntmps98
  go_wp2
  go_loopw [8] (fun iv wr => ∃ i : Nat, iv = .int .i64 i ∧ 1 ≤ i ∧ i ≤ n + 1 ∧ Bel w wr) (fun iv _ => n + 1 - (intOf iv).toNat)
  case atStart => exact ⟨1, rfl, by omega, by omega, Bel.refl _⟩
  case round =>
    obtain ⟨i, rfl, p0, p1, hbr⟩ := hrel
    by_cases hlt : i < n
    · have i1 : (i : Int) < (n : Int) := by omega
      obtain ⟨W, rfl⟩ : ∃ W, W = wr := ⟨_, rfl⟩
      go_wp2
      go_loopw [9] (fun jv wr => jv = .int .i64 i ∧ Bel w wr) (fun _ _ => 0)
      case atStart => exact ⟨rfl, hbr⟩
      case round =>
        obtain ⟨rfl, hbq⟩ := hrel
        obtain ⟨x, hx⟩ : ∃ x, ms[i - 1]? = some x := ⟨ms[i - 1]'(by have := Hn.out; omega), List.getElem?_eq_getElem _⟩
        obtain ⟨y, hy⟩ : ∃ y, ms[i]? = some y := ⟨ms[i]'(by have := Hn.out; omega), List.getElem?_eq_getElem _⟩
        have hxy : x.at_ ≤ y.at_ := HS.out (i - 1) x y hx (by rw [show i - 1 + 1 = i by omega]; exact hy)
        obtain ⟨b, o, rfl, hlb, hrx⟩ := HAT.out (i - 1) x hx
        obtain ⟨b', o', hbo, hlb', hry⟩ := HAT.out i y hy
        cases hbo
        obtain ⟨k, rfl⟩ : ∃ k, i = k + 1 := ⟨i - 1, by omega⟩
        rw [Nat.add_sub_cancel] at hrx
        have hrx := hrx.bel hbq hlb
        have hry := hry.bel hbq hlb
        have d0 := hrx.cell 0 rfl
        have d1 := hrx.cell 1 rfl
        rw [Nat.add_zero] at d0
        have e0 := hry.cell 0 rfl
        have e1 := hry.cell 1 rfl
        rw [Nat.add_zero] at e0
        have r0 := fun d os => cell_regrown d0 d os
        have r1 := fun d os => cell_regrown d1 d os
        have r2 := fun d os => cell_regrown e0 d os
        have r3 := fun d os => cell_regrown e1 d os
        have hcm : Hid (cmpI y.at_ x.at_ = 1 ∨ cmpI y.at_ x.at_ = 0) := by
          show _ ∨ _
          unfold cmpI
          rw [if_neg (by omega)]
          split <;> simp
        clear hx hy hrx hry hxy
        go_wp2_with fail
        refine wp_region_lex [14] 17 (by kernel_rfl) (by kernel_rfl) ?_
        simp only [List.take_succ_cons, List.take_zero, List.drop_succ_cons, List.drop_zero]
        with_reducible refine lex_seg 14 _ _ _ _ (by kernel_rfl) ?_
        simp only [List.take_succ_cons, List.take_zero, List.drop_succ_cons, List.drop_zero]
        try simp only [Act.put, List.setIfInBounds_toArray, List.set_cons_succ, List.set_cons_zero]
        repeat (go_big_quiet_step (fail))
        with_reducible refine wpQuiet_nil ?_
        refine lex_call 92 (by kernel_rfl) (by kernel_rfl) (by simp [go_sem, eg]; rfl) ?_
        refine (watched2_any y x _).mono ?_; rintro e w1 ⟨rfl, hb1⟩
        refine ⟨_, rfl, hb1, ?_⟩
        obtain ⟨cc, Hcc⟩ : ∃ cc, Hid (cc = cmpI y.at_ x.at_) := ⟨_, rfl⟩
        rw [← Hcc.out]
        have hcc : decide (cc < 0) = false := by
          rw [decide_eq_false_iff_not]
          have := hcm.out
          rw [← Hcc.out] at this
          omega
        with_reducible refine lex_seg 2 _ _ _ _ (by kernel_rfl) ?_
        simp only [List.take_succ_cons, List.take_zero, List.drop_succ_cons, List.drop_zero]
        try simp only [Act.put, List.setIfInBounds_toArray, List.set_cons_succ, List.set_cons_zero]
        repeat (go_big_quiet_step (fail))
        with_reducible refine wpQuiet_nil ?_
        with_reducible refine lex_nil ?_
        clear r0 r1 r2 r3
        have hb2 : Bel wr w1 := (by repeat (first | (with_reducible exact Bel.refl _) | (with_reducible assumption) | (with_reducible refine Bel.drewN ?_ _) | (with_reducible refine Bel.drew ?_) | (with_reducible refine Bel.alloc ?_ _) | (with_reducible refine Bel.setNew ?_ ?_ _) | (with_reducible refine Bel.trans ?_ (by assumption)) | (focus (simp; done)) | (focus (simp; omega))))
        clear hb1
        go_wp2
        go_roundw
        case rel => exact ⟨k + 1 + 1, by go_num, by omega, by omega, hbq.trans hb2⟩
        case measure => simp [intOf]; omega
    · have jk : decide ((i : Int) < (n : Int)) = false := by simp; omega
      go_wp2
      exact bodyPost_end (results_none rfl _ _ _) rfl ⟨rfl, hbr⟩

set_option maxHeartbeats 2000000 in
theorem stable_any (ms : List Wt) (v : Value) (w : World) (h : Rd w v 2 ms.length (wcells ms)) (hn : ms.length ≤ 16) (hS : Srt ms) :
    Calls Try.prog 96 #[v, .int .i64 (ms.length : Int), .func (.func 92) #[] #[]] w fun e w' => e = .returned (.tuple #[]) ∧ Bel w w' := by
  have HI := Lib.hid (fun w' (hb : Bel w w') => insSorted_any ms v w' (h.bel hb) hn hS)
  obtain ⟨A, c, rfl, _, _⟩ := h.form
  obtain ⟨n, Hn⟩ : ∃ n, Hid (n = ms.length) := ⟨_, rfl⟩
  rw [← Hn.out] at hn HI ⊢
  clear h hS
  have h1 : decide ((20 : Int) ≤ (n : Int)) = false := by simp; omega
  have h2 : decide ((20 : Int) < (n : Int)) = false := by simp; omega
  go_enter Try.func96, Try.ntmps96
  go_wp2
  go_loopw [7, 8] (fun av bv wr => av = .int .i64 0 ∧ bv = .int .i64 20 ∧ Bel w wr) (fun _ _ _ => 0)
  case atStart => exact ⟨rfl, rfl, (by repeat (first | (with_reducible exact Bel.refl _) | (with_reducible assumption) | (with_reducible refine Bel.drewN ?_ _) | (with_reducible refine Bel.drew ?_) | (with_reducible refine Bel.alloc ?_ _) | (with_reducible refine Bel.setNew ?_ ?_ _) | (with_reducible refine Bel.trans ?_ (by assumption)) | (focus (simp; done)) | (focus (simp; omega))))⟩
  case round =>
    obtain ⟨rfl, rfl, hbq⟩ := hrel
    go_wp2_with fail
    refine (HI.out _ hbq).mono ?_; rintro e w1 ⟨rfl, hb1⟩
    have hbw := hbq.trans hb1
    clear hbq hb1
    obtain ⟨W, rfl⟩ : ∃ W, W = wr := ⟨_, rfl⟩
    go_wp2
    go_loopw [6] (fun av wr => av = .int .i64 20 ∧ Bel w wr) (fun _ _ => 0)
    case atStart => exact ⟨rfl, hbw⟩
    case round =>
      obtain ⟨rfl, hbq⟩ := hrel
      go_wp2
      exact bodyPost_end (results_none rfl _ _ _) rfl ⟨rfl, hbq⟩

set_option maxHeartbeats 2000000 in
theorem sortStable_any (ms : List Wt) (v : Value) (w : World) (h : Rd w v 2 ms.length (wcells ms)) (hn : ms.length ≤ 16) (hS : Srt ms) :
    Calls Try.prog 91 #[v, .func (.func 92) #[] #[]] w fun e w' => e = .returned (.tuple #[]) ∧ Bel w w' := by
  have HI := Lib.hid (fun w' (hb : Bel w w') => stable_any ms v w' (h.bel hb) hn hS)
  obtain ⟨A, c, rfl, _, _⟩ := h.form
  obtain ⟨n, Hn⟩ : ∃ n, Hid (n = ms.length) := ⟨_, rfl⟩
  rw [← Hn.out] at hn HI ⊢
  clear h hS
  go_enter Try.func91, Try.ntmps91
  go_wp2_with fail
  refine (HI.out _ (by repeat (first | (with_reducible exact Bel.refl _) | (with_reducible assumption) | (with_reducible refine Bel.drewN ?_ _) | (with_reducible refine Bel.drew ?_) | (with_reducible refine Bel.alloc ?_ _) | (with_reducible refine Bel.setNew ?_ ?_ _) | (with_reducible refine Bel.trans ?_ (by assumption)) | (focus (simp; done)) | (focus (simp; omega))))).mono ?_; rintro e w1 ⟨rfl, hb1⟩
  go_wp2
  exact bodyPost_end (results_none rfl _ _ _) rfl ⟨rfl, hb1⟩

set_option maxHeartbeats 2000000 in
theorem deleteNo_any (ms : List Wt) (v : Value) (g : Nat) (lb : Array Value) (p : Wt → Bool) (w : World) (h : Rd w v 2 ms.length (wcells ms)) (hno : ms.any p = false)
    (eg : ∀ args w, (callFunc g args).run Try.prog w = .ok (.enter g args) w)
    (hg : ∀ W x, Bel w W → x ∈ ms → Calls Try.prog g (#[.agg #[.int .i64 x.id, .int .i64 x.at_]] ++ lb) W fun e w' => e = .returned (.bool (p x)) ∧ Bel W w') :
    Calls Try.prog 81 #[v, .func (.func g) #[] lb] w fun e w' => e = .returned v ∧ Bel w w' := by
  have HI := Lib.hid (indexWt_any ms v g lb p w h eg hg)
  rw [idxB_no hno] at HI
  clear hg eg
  obtain ⟨A, c, rfl, _, _⟩ := h.form
  clear h
  go_enter Try.func81, Try.ntmps81
  go_wp2_with fail
  refine HI.out.mono ?_; rintro e w1 ⟨rfl, hb1⟩
  go_wp2
  go_ret
  exact ⟨rfl, hb1⟩

set_option maxRecDepth 100000 in
set_option maxHeartbeats 4000000 in
theorem watched_any (L s : Int) (v : Value) (ms : List Wt) (w : World) (h : Rd w v 2 ms.length (wcells ms)) (hn : ms.length ≤ 16) (hS : Srt ms) (hI : InR ms) (hL : limB L = true) :
    Calls Try.prog 80 #[.agg #[.int .i64 L, v, .int .i64 s]] w fun e w' => ∃ v', e = .returned v' ∧ w'.ownsRow w.heap.size 96 2 v' ms.length (wcells ms) ∧ Bel w w' := by
  have eg := enters_of Try.func90 (by kernel_rfl) rfl
  have hno : (ms.any fun x => !sncB x.at_) = false := by
    rw [List.any_eq_false]
    intro x hx
    rw [hI x hx]; simp
  have HDL := Lib.hid (fun (v' : Value) (W : World) (hR : Rd W v' 2 ms.length (wcells ms)) => deleteNo_any ms v' 90 #[] (fun x => !sncB x.at_) W hR hno eg (fun W' x _ _ => watched1_any x W'))
  have HST := Lib.hid (fun (v' : Value) (W : World) (hR : Rd W v' 2 ms.length (wcells ms)) => sortStable_any ms v' W hR hn hS)
  have HC := Lib.hid (fun w' (hb : Bel w w') => cloneWt_any _ _ _ w' (h.bel hb) (wcells_one ms) (by omega))
  obtain ⟨A, c, rfl, hc1, hc2⟩ := h.form
  obtain ⟨n, Hn⟩ : ∃ n, Hid (n = ms.length) := ⟨_, rfl⟩
  rw [← Hn.out] at HC HDL HST ⊢
  clear h hn hS hI hno eg hc1 hc2
  have hX := AtF.new w 68 [.int .i64 L, .slice A n c, .int .i64 s]
  simp only [List.toArray] at hX
  go_enter Try.func80, Try.ntmps80
  go_wp2_with fail
  refine (tmLimit_any L s _ _).mono ?_; rw [hL]; rintro e w1 ⟨rfl, hb1⟩
  have hX1 := hX.bel hb1
  have x1 := hX1.1.2 1 _ rfl
  have hbw : Bel w w1 := (by repeat (first | (with_reducible exact Bel.refl _) | (with_reducible assumption) | (with_reducible refine Bel.drewN ?_ _) | (with_reducible refine Bel.drew ?_) | (with_reducible refine Bel.alloc ?_ _) | (with_reducible refine Bel.setNew ?_ ?_ _) | (with_reducible refine Bel.trans ?_ (by assumption)) | (focus (simp; done)) | (focus (simp; omega))))
  clear hb1
  go_wp2_with fail
  refine (HC.out _ hbw).mono ?_; rintro e w2 ⟨v', rfl, hown, hb2⟩
  obtain ⟨A', c', rfl⟩ := own_slice hown
  go_wp2_with fail
  refine (HDL.out _ _ (Rd.own hown)).mono ?_; rintro e w3 ⟨rfl, hb3⟩
  have hown3 := own_keep hown hb3
  go_wp2_with fail
  refine (HST.out _ _ (Rd.own hown3)).mono ?_; rintro e w4 ⟨rfl, hb4⟩
  have hown4 := own_keep hown3 hb4
  go_wp2
  go_ret
  exact ⟨_, rfl, own_mono hown4 hbw.size, hbw.trans (hb2.trans (hb3.trans hb4))⟩
end Go.Proofs.Ytbijfmpmgmfpgaa
