/- The fair package: cells of flows; the contracts of time, Valid and of the library functions under it. -/
import Derived.Test.YtacbljfpcchbbaaRows2
import Derived.Lib.SliceRun
namespace Go.Proofs.Ytacbljfpcchbbaa
open Go.RowKit

/-- The cells of flows: weight and finish. -/
def fcells (l : List (Int × Int)) : List Value := l.flatMap fun p => [.int .i64 p.1, .int .i64 p.2]
theorem fcells_len (l : List (Int × Int)) : (fcells l).length = l.length * 2 := by
  induction l with
  | nil => rfl
  | cons p l ih => simp only [fcells, List.flatMap_cons, List.length_append, List.length_cons, List.length_nil] at ih ⊢; omega
theorem fcells_app (l m : List (Int × Int)) : fcells (l ++ m) = fcells l ++ fcells m := by simp [fcells]
theorem fcells_one (l : List (Int × Int)) : ∀ u ∈ fcells l, u.oneCell' = true := by
  intro u hu
  simp only [fcells, List.mem_flatMap] at hu
  obtain ⟨p, _, hp⟩ := hu
  simp at hp
  rcases hp with rfl | rfl <;> rfl
theorem fcells_at0 : ∀ (l : List (Int × Int)) (k : Nat) (p : Int × Int), l[k]? = some p → (fcells l)[k * 2]? = some (.int .i64 p.1)
  | [], k, p, h => by simp at h
  | q :: l, 0, p, h => by simp at h; subst h; simp [fcells]
  | q :: l, k + 1, p, h => by
    have := fcells_at0 l k p (by simpa using h)
    rw [show (k + 1) * 2 = k * 2 + 2 by omega]
    simpa [fcells] using this
theorem fcells_at1 : ∀ (l : List (Int × Int)) (k : Nat) (p : Int × Int), l[k]? = some p → (fcells l)[k * 2 + 1]? = some (.int .i64 p.2)
  | [], k, p, h => by simp at h
  | q :: l, 0, p, h => by simp at h; subst h; simp [fcells]
  | q :: l, k + 1, p, h => by
    have := fcells_at1 l k p (by simpa using h)
    rw [show (k + 1) * 2 + 1 = k * 2 + 1 + 2 by omega]
    simpa [fcells] using this

def timeB (n : Int) : Bool := decide (0 ≤ n ∧ n ≤ 1125899906842624)
def flowOk (p : Int × Int) : Bool := decide (1 ≤ p.1 ∧ p.1 ≤ 8) && timeB p.2
def fairOk (V : Int) (fs : List (Int × Int)) : Bool := decide (1 ≤ fs.length ∧ fs.length ≤ 4) && timeB V && fs.all flowOk
theorem timeB_iff {n : Int} : timeB n = true ↔ 0 ≤ n ∧ n ≤ 1125899906842624 := by simp [timeB]
theorem flowOk_iff {a b : Int} : flowOk (a, b) = true ↔ (1 ≤ a ∧ a ≤ 8) ∧ 0 ≤ b ∧ b ≤ 1125899906842624 := by simp [flowOk, timeB]

set_option maxHeartbeats 400000 in
theorem fairTime_any (n : Int) (w : World) :
    Calls Try.prog 36 #[.int .i64 n] w fun e w' => e = .returned (.bool (timeB n)) ∧ w = w' := by
  go_enter Try.func36, Try.ntmps36
  go_wp2
  all_goals
    go_ret
    exact ⟨ret_bool (by first | (simp [timeB, *]; done) | (simp [timeB, *]; omega) | (simp [timeB]; omega) | (rw [Bool.eq_iff_iff]; simp [timeB, *]; omega)), rfl⟩

set_option maxHeartbeats 1000000 in
theorem fairBad_any (a b : Int) (w : World) :
    Calls Try.prog 38 #[.agg #[.int .i64 a, .int .i64 b]] w fun e w' => e = .returned (.bool (!flowOk (a, b))) ∧ Bel w w' := by
  have H1 := Lib.hid (fairTime_any b)
  go_enter Try.func38, Try.ntmps38
  go_wp2_with (go_at_call 36; refine (H1.out _).mono ?_; rintro e w1 ⟨rfl, rfl⟩)
  all_goals
    go_ret
    exact ⟨ret_bool (by first | (simp [flowOk, *]; done) | (simp [flowOk, *]; omega) | (simp [flowOk]; omega) | (rw [Bool.eq_iff_iff]; simp [flowOk, *]; omega)), (by repeat (first | (with_reducible exact Bel.refl _) | (with_reducible assumption) | (with_reducible refine Bel.drewN ?_ _) | (with_reducible refine Bel.drew ?_) | (with_reducible refine Bel.alloc ?_ _) | (with_reducible refine Bel.setNew ?_ ?_ _) | (with_reducible refine Bel.trans ?_ (by assumption)) | (focus (simp; done)) | (focus (simp; omega))))⟩

set_option maxHeartbeats 2000000 in
theorem fairIndex_any (fs : List (Int × Int)) (v : Value) (w : World) (h : Rd w v 2 fs.length (fcells fs)) :
    Calls Try.prog 41 #[v, .func (.func 38) #[] #[]] w fun e w' =>
      (∃ r : Int, e = .returned (.int .i64 r) ∧ decide (0 ≤ r) = !(fs.all flowOk)) ∧ Bel w w' := by
  obtain ⟨_, A, cp, rfl, hcp, hmx, hr⟩ := h
  unfold maxLen at hmx
  obtain ⟨n, Hn⟩ : ∃ n, Hid (n = fs.length) := ⟨_, rfl⟩
  rw [← Hn.out] at hcp hr ⊢
  have HR := Lib.hid hr
  clear hr
  go_enter Try.func41, Try.ntmps41
  go_wp2
  go_loopw [5, 8] (fun _ iv wr => ∃ i : Nat, iv = .int .i64 i ∧ i ≤ n ∧ Hid (∀ j p, j < i → fs[j]? = some p → flowOk p = true) ∧ Bel w wr) (fun _ iv _ => n - (intOf iv).toNat)
  case atStart => exact ⟨0, rfl, by omega, fun j p hj => absurd hj (by omega), (by repeat (first | (with_reducible exact Bel.refl _) | (with_reducible assumption) | (with_reducible refine Bel.drewN ?_ _) | (with_reducible refine Bel.drew ?_) | (with_reducible refine Bel.alloc ?_ _) | (with_reducible refine Bel.setNew ?_ ?_ _) | (with_reducible refine Bel.trans ?_ (by assumption)) | (focus (simp; done)) | (focus (simp; omega))))⟩
  case round =>
    obtain ⟨i, rfl, p1, HA, hbr⟩ := hrel
    by_cases hlt : i < n
    · obtain ⟨b, o, rfl, hlb, hcell⟩ := HR.out (by omega)
      obtain ⟨⟨x, y⟩, hx⟩ : ∃ p, fs[i]? = some p := ⟨fs[i]'(by have := Hn.out; omega), List.getElem?_eq_getElem _⟩
      have g0 : wr.cell? ⟨b, o + i * 2, none⟩ = some (.int .i64 x) := by rw [hbr.cellAt _ _ hlb]; exact hcell _ _ (fcells_at0 _ _ _ hx)
      have g1 : wr.cell? ⟨b, o + i * 2 + 1, none⟩ = some (.int .i64 y) := by rw [hbr.cellAt _ _ hlb]; exact hcell _ _ (fcells_at1 _ _ _ hx)
      have HX := Lib.hid hx
      clear hx hcell
      have i1 : (i : Int) < (n : Int) := by omega
      cases hf : flowOk (x, y)
      · have HF := Lib.hid hf
        clear hf
        go_wp2_with fail
        refine (fairBad_any x y _).mono ?_; rw [HF.out]; rintro e w1 ⟨rfl, hb1⟩
        go_wp2
        go_ret
        refine ⟨⟨i, rfl, ?_⟩, (by repeat (first | (with_reducible exact Bel.refl _) | (with_reducible assumption) | (with_reducible refine Bel.drewN ?_ _) | (with_reducible refine Bel.drew ?_) | (with_reducible refine Bel.alloc ?_ _) | (with_reducible refine Bel.setNew ?_ ?_ _) | (with_reducible refine Bel.trans ?_ (by assumption)) | (focus (simp; done)) | (focus (simp; omega))))⟩
        have h2 : fs.all flowOk = false := by
          rw [List.all_eq_false]
          exact ⟨_, List.mem_of_getElem? HX.out, by rw [HF.out]; simp⟩
        rw [h2]; simp
      · have HF := Lib.hid hf
        clear hf
        go_wp2_with fail
        refine (fairBad_any x y _).mono ?_; rw [HF.out]; rintro e w1 ⟨rfl, hb1⟩
        go_wp2
        go_roundw
        case rel =>
          refine ⟨i + 1, by go_num, by omega, ?_, (by repeat (first | (with_reducible exact Bel.refl _) | (with_reducible assumption) | (with_reducible refine Bel.drewN ?_ _) | (with_reducible refine Bel.drew ?_) | (with_reducible refine Bel.alloc ?_ _) | (with_reducible refine Bel.setNew ?_ ?_ _) | (with_reducible refine Bel.trans ?_ (by assumption)) | (focus (simp; done)) | (focus (simp; omega))))⟩
          intro j p hj hp
          rcases Nat.lt_or_ge j i with h1 | h1
          · exact HA.out j p h1 hp
          · obtain rfl : j = i := by omega
            have := HX.out
            rw [this] at hp
            cases hp
            exact HF.out
        case measure => simp [intOf]; omega
    · have i2 : decide ((i : Int) < (n : Int)) = false := by simp; omega
      have i1 : (n : Int) ≤ (i : Int) := by omega
      go_wp2
      go_ret
      refine ⟨⟨-1, rfl, ?_⟩, (by repeat (first | (with_reducible exact Bel.refl _) | (with_reducible assumption) | (with_reducible refine Bel.drewN ?_ _) | (with_reducible refine Bel.drew ?_) | (with_reducible refine Bel.alloc ?_ _) | (with_reducible refine Bel.setNew ?_ ?_ _) | (with_reducible refine Bel.trans ?_ (by assumption)) | (focus (simp; done)) | (focus (simp; omega))))⟩
      have h2 : fs.all flowOk = true := by
        rw [List.all_eq_true]
        intro p hp
        obtain ⟨j, hj⟩ := List.getElem?_of_mem hp
        exact HA.out j p (by have := (List.getElem?_eq_some_iff.1 hj).1; have := Hn.out; omega) hj
      rw [h2]; simp

set_option maxHeartbeats 1000000 in
theorem fairContains_any (fs : List (Int × Int)) (v : Value) (w : World) (h : Rd w v 2 fs.length (fcells fs)) :
    Calls Try.prog 37 #[v, .func (.func 38) #[] #[]] w fun e w' =>
      e = .returned (.bool (!(fs.all flowOk))) ∧ Bel w w' := by
  go_enter Try.func37, Try.ntmps37
  go_wp2_with fail
  refine (fairIndex_any fs v _ h).mono ?_; rintro e w1 ⟨⟨r, rfl, hr⟩, hb1⟩
  go_wp2
  go_ret
  exact ⟨rfl, (by repeat (first | (with_reducible exact Bel.refl _) | (with_reducible assumption) | (with_reducible refine Bel.drewN ?_ _) | (with_reducible refine Bel.drew ?_) | (with_reducible refine Bel.alloc ?_ _) | (with_reducible refine Bel.setNew ?_ ?_ _) | (with_reducible refine Bel.trans ?_ (by assumption)) | (focus (simp; done)) | (focus (simp; omega))))⟩

set_option maxHeartbeats 2000000 in
theorem fairValid_any (V : Int) (fs : List (Int × Int)) (v : Value) (w : World) (h : Rd w v 2 fs.length (fcells fs)) :
    Calls Try.prog 21 #[.agg #[.int .i64 V, v]] w fun e w' => e = .returned (.bool (fairOk V fs)) ∧ Bel w w' := by
  have h0 := h
  obtain ⟨_, A, cp, rfl, hcp, hmx, hr⟩ := h
  clear hr
  unfold maxLen at hmx
  have HC := Lib.hid (fun w' (hb : Bel w w') => fairContains_any fs _ w' (h0.bel hb))
  have H1 := Lib.hid (fairTime_any V)
  clear h0
  have hO : Hid (fairOk V fs = (decide (1 ≤ fs.length ∧ fs.length ≤ 4) && timeB V && fs.all flowOk)) := rfl
  generalize fs.all flowOk = q at HC hO
  generalize fairOk V fs = z at hO ⊢
  generalize fs.length = n at *
  by_cases h1 : 1 ≤ (n : Int)
  · by_cases h2 : (n : Int) ≤ 4
    · cases ht : timeB V
      · go_enter Try.func21, Try.ntmps21
        go_wp2_with fail
        refine (H1.out _).mono ?_; rw [ht]; rintro e w1 ⟨rfl, rfl⟩
        go_wp2
        go_ret
        exact ⟨ret_bool (by rw [hO.out, ht]; simp), (by repeat (first | (with_reducible exact Bel.refl _) | (with_reducible assumption) | (with_reducible refine Bel.drewN ?_ _) | (with_reducible refine Bel.drew ?_) | (with_reducible refine Bel.alloc ?_ _) | (with_reducible refine Bel.setNew ?_ ?_ _) | (with_reducible refine Bel.trans ?_ (by assumption)) | (focus (simp; done)) | (focus (simp; omega))))⟩
      · go_enter Try.func21, Try.ntmps21
        go_wp2_with fail
        refine (H1.out _).mono ?_; rw [ht]; rintro e w1 ⟨rfl, rfl⟩
        go_wp2_with fail
        refine (HC.out _ (by repeat (first | (with_reducible exact Bel.refl _) | (with_reducible assumption) | (with_reducible refine Bel.drewN ?_ _) | (with_reducible refine Bel.drew ?_) | (with_reducible refine Bel.alloc ?_ _) | (with_reducible refine Bel.setNew ?_ ?_ _) | (with_reducible refine Bel.trans ?_ (by assumption)) | (focus (simp; done)) | (focus (simp; omega))))).mono ?_; rintro e w2 ⟨rfl, hb2⟩
        go_wp2
        go_ret
        exact ⟨ret_bool (by rw [hO.out, ht]; simp; omega), (by repeat (first | (with_reducible exact Bel.refl _) | (with_reducible assumption) | (with_reducible refine Bel.drewN ?_ _) | (with_reducible refine Bel.drew ?_) | (with_reducible refine Bel.alloc ?_ _) | (with_reducible refine Bel.setNew ?_ ?_ _) | (with_reducible refine Bel.trans ?_ (by assumption)) | (focus (simp; done)) | (focus (simp; omega))))⟩
    · have h3 : decide ((n : Int) ≤ 4) = false := by simp; omega
      go_enter Try.func21, Try.ntmps21
      go_wp2
      go_ret
      exact ⟨ret_bool (by rw [hO.out]; simp; omega), (by repeat (first | (with_reducible exact Bel.refl _) | (with_reducible assumption) | (with_reducible refine Bel.drewN ?_ _) | (with_reducible refine Bel.drew ?_) | (with_reducible refine Bel.alloc ?_ _) | (with_reducible refine Bel.setNew ?_ ?_ _) | (with_reducible refine Bel.trans ?_ (by assumption)) | (focus (simp; done)) | (focus (simp; omega))))⟩
  · have h3 : decide (1 ≤ (n : Int)) = false := by simp; omega
    go_enter Try.func21, Try.ntmps21
    go_wp2
    go_ret
    exact ⟨ret_bool (by rw [hO.out]; simp; omega), (by repeat (first | (with_reducible exact Bel.refl _) | (with_reducible assumption) | (with_reducible refine Bel.drewN ?_ _) | (with_reducible refine Bel.drew ?_) | (with_reducible refine Bel.alloc ?_ _) | (with_reducible refine Bel.setNew ?_ ?_ _) | (with_reducible refine Bel.trans ?_ (by assumption)) | (focus (simp; done)) | (focus (simp; omega))))⟩

theorem Try.infoFlow : (Try.prog.info? 33).map (fun i => (i.zero, i.size, i.bytes)) = some (some (.agg #[.int .i64 0, .int .i64 0]), 2, 16) := by kernel_rfl

set_option maxHeartbeats 2000000 in
theorem fairClone_any (fs : List (Int × Int)) (v : Value) (w : World) (h : Rd w v 2 fs.length (fcells fs)) (hn : fs.length ≤ 1000) :
    Calls Try.prog 30 #[v] w fun e w' =>
      ∃ v', e = .returned v' ∧ w'.ownsRow w.heap.size 33 2 v' fs.length (fcells fs) ∧ Bel w w' := by
  obtain ⟨hl, A, cp, rfl, hcp, hmx, hr⟩ := h
  have hone := Lib.hid (fcells_one fs)
  generalize fcells fs = cs at *
  generalize fs.length = n at *
  have q22 : ∀ (w : World) (a : Option Addr) (n c n' c' : Nat), (binOp .eql 23 (.slice a n c) (.slice none n' c')).run Try.prog w = .ok (.bool a.isNone) w := fun w a n c n' c' => Lib.run_eql_slice_nil w _ _ a n c n' c' Try.underlying23
  obtain ⟨i0, hi, hz0, hz1, hz2⟩ := info_parts Try.infoFlow
  have HR := Lib.hid hr
  clear hr
  cases A with
  | none =>
    obtain rfl : n = 0 := by
      rcases Nat.eq_zero_or_pos n with h0 | h0
      · exact h0
      · obtain ⟨b, o, hA, _⟩ := HR.out h0; cases hA
    obtain rfl : cs = [] := by simpa using hl
    go_enter Try.func30, Try.ntmps30
    go_wp2
    go_ret
    exact ⟨_, rfl, ⟨by simp, Or.inl ⟨rfl, rfl⟩⟩, (by repeat (first | (with_reducible exact Bel.refl _) | (with_reducible assumption) | (with_reducible refine Bel.drewN ?_ _) | (with_reducible refine Bel.drew ?_) | (with_reducible refine Bel.alloc ?_ _) | (with_reducible refine Bel.setNew ?_ ?_ _) | (with_reducible refine Bel.trans ?_ (by assumption)) | (focus (simp; done)) | (focus (simp; omega))))⟩
  | some p =>
    go_enter Try.func30, Try.ntmps30
    go_wp2_with (at_builtin; go_must (refine wpList_append_own_at _ rfl _ _ 23 rfl w.heap.size 33 i0 _ 2 16 Try.underlying23 hi hz0 hz1 hz2 rfl (by omega) _ 0 [] rfl (World.ownsRow_made w #[] 0 (Nat.le_refl _) (Nat.zero_le _) rfl) p n cp cs rfl hl ?q1 hone.out (by unfold maxLen; omega) (by omega) (by simp) ?_))
    case q1 =>
      intro j u hj
      have hjn := (List.getElem?_eq_some_iff.1 hj).1
      obtain ⟨b, o, hA, hlb, hcell⟩ := HR.out (by omega)
      cases hA
      rw [Addr.add_lit]
      refine Lib.cell?_alloc_some _ ?_
      exact hcell j u hj
    intro v' w3 hown hg _ _
    go_wp2
    go_ret
    exact ⟨v', rfl, by simpa using hown, bel_own ((Bel.refl _).alloc _) (World.ownsRow_made (base := w.heap.size) (e := 33) (size := 2) w #[] 0 (Nat.le_refl _) (Nat.zero_le _) rfl) hg (Nat.le_refl _)⟩
end Go.Proofs.Ytacbljfpcchbbaa
