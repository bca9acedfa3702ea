/- Lemmas and walks that the statements share, part K5. -/
import Derived.Test.YtpgjbocjhconoaaGreatK1
import Derived.Lib.SliceRun
import Derived.Shelf.Abstract
/- The fair package: cells of flows; the contracts of time, Valid and of the library functions under it. -/
namespace Go.Proofs.YtpgjbocjhconoaaGreat
open Go.RowKit

/-- The cells of flows: weight and finish. -/
def fcells (l : List (Int × Int)) : List Value := l.flatMap fun p => [.int .i64 p.1, .int .i64 p.2]
theorem fcells_app (l m : List (Int × Int)) : fcells (l ++ m) = fcells l ++ fcells m := by simp [fcells]
theorem fcells_one (l : List (Int × Int)) : ∀ u ∈ fcells l, u.oneCell' = true := by
  intro u hu
  simp only [fcells, List.mem_flatMap] at hu
  obtain ⟨p, _, hp⟩ := hu
  simp at hp
  rcases hp with rfl | rfl <;> rfl
theorem fcells_at0 : ∀ (l : List (Int × Int)) (k : Nat) (p : Int × Int), l[k]? = some p → (fcells l)[k * 2]? = some (.int .i64 p.1)
  | [], k, p, h => by simp at h
  | q :: l, 0, p, h => by simp at h; subst h; simp [fcells]
  | q :: l, k + 1, p, h => by
    have := fcells_at0 l k p (by simpa using h)
    rw [show (k + 1) * 2 = k * 2 + 2 by omega]
    simpa [fcells] using this
theorem fcells_at1 : ∀ (l : List (Int × Int)) (k : Nat) (p : Int × Int), l[k]? = some p → (fcells l)[k * 2 + 1]? = some (.int .i64 p.2)
  | [], k, p, h => by simp at h
  | q :: l, 0, p, h => by simp at h; subst h; simp [fcells]
  | q :: l, k + 1, p, h => by
    have := fcells_at1 l k p (by simpa using h)
    rw [show (k + 1) * 2 + 1 = k * 2 + 1 + 2 by omega]
    simpa [fcells] using this

def timeB (n : Int) : Bool := decide (0 ≤ n ∧ n ≤ 1125899906842624)
def flowOk (p : Int × Int) : Bool := decide (1 ≤ p.1 ∧ p.1 ≤ 8) && timeB p.2
def fairOk (V : Int) (fs : List (Int × Int)) : Bool := decide (1 ≤ fs.length ∧ fs.length ≤ 4) && timeB V && fs.all flowOk
theorem timeB_iff {n : Int} : timeB n = true ↔ 0 ≤ n ∧ n ≤ 1125899906842624 := by simp [timeB]
theorem flowOk_iff {a b : Int} : flowOk (a, b) = true ↔ (1 ≤ a ∧ a ≤ 8) ∧ 0 ≤ b ∧ b ≤ 1125899906842624 := by simp [flowOk, timeB]

set_option maxHeartbeats 400000 in
theorem fairTime_any (n : Int) (w : World) :
    Calls Tryz.prog 93 #[.int .i64 n] w fun e w' => e = .returned (.bool (timeB n)) ∧ w = w' := by
  go_enter Tryz.func93, Tryz.ntmps93
  go_wp2
  all_goals
    go_ret
    exact ⟨ret_bool (by first | (simp [timeB, *]; done) | (simp [timeB, *]; omega) | (simp [timeB]; omega) | (rw [Bool.eq_iff_iff]; simp [timeB, *]; omega)), rfl⟩

set_option maxHeartbeats 1000000 in
theorem fairBad_any (a b : Int) (w : World) :
    Calls Tryz.prog 107 #[.agg #[.int .i64 a, .int .i64 b]] w fun e w' => e = .returned (.bool (!flowOk (a, b))) ∧ Bel w w' := by
  have H1 := Lib.hid (fairTime_any b)
  go_enter Tryz.func107, Tryz.ntmps107
  go_wp2_with (go_at_call 93; refine (H1.out _).mono ?_; rintro e w1 ⟨rfl, rfl⟩)
  all_goals
    go_ret
    exact ⟨ret_bool (by first | (simp [flowOk, *]; done) | (simp [flowOk, *]; omega) | (simp [flowOk]; omega) | (rw [Bool.eq_iff_iff]; simp [flowOk, *]; omega)), bI⟩

set_option maxHeartbeats 2000000 in
theorem fairIndex_any (fs : List (Int × Int)) (v : Value) (w : World) (h : Rd w v 2 fs.length (fcells fs)) :
    Calls Tryz.prog 114 #[v, .func (.func 107) #[] #[]] w fun e w' =>
      (∃ r : Int, e = .returned (.int .i64 r) ∧ decide (0 ≤ r) = !(fs.all flowOk)) ∧ Bel w w' := by
  obtain ⟨_, A, cp, rfl, hcp, hmx, hr⟩ := h
  unfold maxLen at hmx
  obtain ⟨n, Hn⟩ : ∃ n, Hid (n = fs.length) := ⟨_, rfl⟩
  rw [← Hn.out] at hcp hr ⊢
  have HR := Lib.hid hr
  clear hr
  go_enter Tryz.func114, Tryz.ntmps114
  go_wp2
  go_loopw [5, 8] (fun _ iv wr => ∃ i : Nat, iv = .int .i64 i ∧ i ≤ n ∧ Hid (∀ j p, j < i → fs[j]? = some p → flowOk p = true) ∧ Bel w wr) (fun _ iv _ => n - (intOf iv).toNat)
  case atStart => exact ⟨0, rfl, by omega, fun j p hj => absurd hj (by omega), bI⟩
  case round =>
    obtain ⟨i, rfl, p1, HA, hbr⟩ := hrel
    by_cases hlt : i < n
    · obtain ⟨b, o, rfl, hlb, hcell⟩ := HR.out (by omega)
      obtain ⟨⟨x, y⟩, hx⟩ : ∃ p, fs[i]? = some p := ⟨fs[i]'(by have := Hn.out; omega), List.getElem?_eq_getElem _⟩
      have g0 : wr.cell? ⟨b, o + i * 2, none⟩ = some (.int .i64 x) := by rw [hbr.cellAt _ _ hlb]; exact hcell _ _ (fcells_at0 _ _ _ hx)
      have g1 : wr.cell? ⟨b, o + i * 2 + 1, none⟩ = some (.int .i64 y) := by rw [hbr.cellAt _ _ hlb]; exact hcell _ _ (fcells_at1 _ _ _ hx)
      have HX := Lib.hid hx
      clear hx hcell
      have i1 : (i : Int) < (n : Int) := by omega
      cases hf : flowOk (x, y)
      · have HF := Lib.hid hf
        clear hf
        go_wp2_with fail
        refine (fairBad_any x y _).mono ?_; rw [HF.out]; rintro e w1 ⟨rfl, hb1⟩
        go_wp2
        go_ret
        refine ⟨⟨i, rfl, ?_⟩, bI⟩
        have h2 : fs.all flowOk = false := by
          rw [List.all_eq_false]
          exact ⟨_, List.mem_of_getElem? HX.out, by rw [HF.out]; simp⟩
        rw [h2]; simp
      · have HF := Lib.hid hf
        clear hf
        go_wp2_with fail
        refine (fairBad_any x y _).mono ?_; rw [HF.out]; rintro e w1 ⟨rfl, hb1⟩
        go_wp2
        go_roundw
        case rel =>
          refine ⟨i + 1, by go_num, by omega, ?_, bI⟩
          intro j p hj hp
          rcases Nat.lt_or_ge j i with h1 | h1
          · exact HA.out j p h1 hp
          · obtain rfl : j = i := by omega
            have := HX.out
            rw [this] at hp
            cases hp
            exact HF.out
        case measure => simp [intOf]; omega
    · have i2 : decide ((i : Int) < (n : Int)) = false := by simp; omega
      have i1 : (n : Int) ≤ (i : Int) := by omega
      go_wp2
      go_ret
      refine ⟨⟨-1, rfl, ?_⟩, bI⟩
      have h2 : fs.all flowOk = true := by
        rw [List.all_eq_true]
        intro p hp
        obtain ⟨j, hj⟩ := List.getElem?_of_mem hp
        exact HA.out j p (by have := (List.getElem?_eq_some_iff.1 hj).1; have := Hn.out; omega) hj
      rw [h2]; simp

set_option maxHeartbeats 1000000 in
theorem fairContains_any (fs : List (Int × Int)) (v : Value) (w : World) (h : Rd w v 2 fs.length (fcells fs)) :
    Calls Tryz.prog 106 #[v, .func (.func 107) #[] #[]] w fun e w' =>
      e = .returned (.bool (!(fs.all flowOk))) ∧ Bel w w' := by
  go_enter Tryz.func106, Tryz.ntmps106
  go_wp2_with fail
  refine (fairIndex_any fs v _ h).mono ?_; rintro e w1 ⟨⟨r, rfl, hr⟩, hb1⟩
  go_wp2
  go_ret
  exact ⟨rfl, bI⟩

set_option maxHeartbeats 2000000 in
theorem fairValid_any (V : Int) (fs : List (Int × Int)) (v : Value) (w : World) (h : Rd w v 2 fs.length (fcells fs)) :
    Calls Tryz.prog 87 #[.agg #[.int .i64 V, v]] w fun e w' => e = .returned (.bool (fairOk V fs)) ∧ Bel w w' := by
  have h0 := h
  obtain ⟨_, A, cp, rfl, hcp, hmx, hr⟩ := h
  clear hr
  unfold maxLen at hmx
  have HC := Lib.hid (fun w' (hb : Bel w w') => fairContains_any fs _ w' (h0.bel hb))
  have H1 := Lib.hid (fairTime_any V)
  clear h0
  have hO : Hid (fairOk V fs = (decide (1 ≤ fs.length ∧ fs.length ≤ 4) && timeB V && fs.all flowOk)) := rfl
  generalize fs.all flowOk = q at HC hO
  generalize fairOk V fs = z at hO ⊢
  generalize fs.length = n at *
  by_cases h1 : 1 ≤ (n : Int)
  · by_cases h2 : (n : Int) ≤ 4
    · cases ht : timeB V
      · go_enter Tryz.func87, Tryz.ntmps87
        go_wp2_with fail
        refine (H1.out _).mono ?_; rw [ht]; rintro e w1 ⟨rfl, rfl⟩
        go_wp2
        go_ret
        exact ⟨ret_bool (by rw [hO.out, ht]; simp), bI⟩
      · go_enter Tryz.func87, Tryz.ntmps87
        go_wp2_with fail
        refine (H1.out _).mono ?_; rw [ht]; rintro e w1 ⟨rfl, rfl⟩
        go_wp2_with fail
        refine (HC.out _ bI).mono ?_; rintro e w2 ⟨rfl, hb2⟩
        go_wp2
        go_ret
        exact ⟨ret_bool (by rw [hO.out, ht]; simp; omega), bI⟩
    · have h3 : decide ((n : Int) ≤ 4) = false := by simp; omega
      go_enter Tryz.func87, Tryz.ntmps87
      go_wp2
      go_ret
      exact ⟨ret_bool (by rw [hO.out]; simp; omega), bI⟩
  · have h3 : decide (1 ≤ (n : Int)) = false := by simp; omega
    go_enter Tryz.func87, Tryz.ntmps87
    go_wp2
    go_ret
    exact ⟨ret_bool (by rw [hO.out]; simp; omega), bI⟩

theorem Tryz.infoFlow : (Tryz.prog.info? 101).map (fun i => (i.zero, i.size, i.bytes)) = some (some (.agg #[.int .i64 0, .int .i64 0]), 2, 16) := by kernel_rfl

set_option maxHeartbeats 2000000 in
theorem fairClone_any (fs : List (Int × Int)) (v : Value) (w : World) (h : Rd w v 2 fs.length (fcells fs)) (hn : fs.length ≤ 1000) :
    Calls Tryz.prog 59 #[v] w fun e w' =>
      ∃ v', e = .returned v' ∧ w'.ownsRow w.heap.size 101 2 v' fs.length (fcells fs) ∧ Bel w w' := by
  obtain ⟨hl, A, cp, rfl, hcp, hmx, hr⟩ := h
  have hone := Lib.hid (fcells_one fs)
  generalize fcells fs = cs at *
  generalize fs.length = n at *
  have q22 : ∀ (w : World) (a : Option Addr) (n c n' c' : Nat), (binOp .eql 25 (.slice a n c) (.slice none n' c')).run Tryz.prog w = .ok (.bool a.isNone) w := fun w a n c n' c' => Lib.run_eql_slice_nil w _ _ a n c n' c' Tryz.underlying25
  obtain ⟨i0, hi, hz0, hz1, hz2⟩ := info_parts Tryz.infoFlow
  have HR := Lib.hid hr
  clear hr
  cases A with
  | none =>
    obtain rfl : n = 0 := by
      rcases Nat.eq_zero_or_pos n with h0 | h0
      · exact h0
      · obtain ⟨b, o, hA, _⟩ := HR.out h0; cases hA
    obtain rfl : cs = [] := by simpa using hl
    go_enter Tryz.func59, Tryz.ntmps59
    go_wp2
    go_ret
    exact ⟨_, rfl, ⟨by simp, Or.inl ⟨rfl, rfl⟩⟩, bI⟩
  | some p =>
    go_enter Tryz.func59, Tryz.ntmps59
    go_wp2_with (at_builtin; go_must (refine wpList_append_own_at _ rfl _ _ 25 rfl w.heap.size 101 i0 _ 2 16 Tryz.underlying25 hi hz0 hz1 hz2 rfl (by omega) _ 0 [] rfl (World.ownsRow_made w #[] 0 (Nat.le_refl _) (Nat.zero_le _) rfl) p n cp cs rfl hl ?q1 hone.out (by unfold maxLen; omega) (by omega) (by simp) ?_))
    case q1 =>
      intro j u hj
      have hjn := (List.getElem?_eq_some_iff.1 hj).1
      obtain ⟨b, o, hA, hlb, hcell⟩ := HR.out (by omega)
      cases hA
      rw [Addr.add_lit]
      refine Lib.cell?_alloc_some _ ?_
      exact hcell j u hj
    intro v' w3 hown hg _ _
    go_wp2
    go_ret
    exact ⟨v', rfl, by simpa using hown, bel_own ((Bel.refl _).alloc _) (World.ownsRow_made (base := w.heap.size) (e := 101) (size := 2) w #[] 0 (Nat.le_refl _) (Nat.zero_le _) rfl) hg (Nat.le_refl _)⟩
end Go.Proofs.YtpgjbocjhconoaaGreat

/- The fair package: Serve, advance, Stamp, Grow. -/
namespace Go.Proofs.YtpgjbocjhconoaaGreat
open Go.RowKit
set_option linter.unusedSimpArgs false



set_option maxHeartbeats 2000000 in
theorem fairServe_any (V s : Int) (fs : List (Int × Int)) (v : Value) (w : World) (h : Rd w v 2 fs.length (fcells fs)) (hn : fs.length ≤ 1000) :
    Calls Tryz.prog 41 #[.agg #[.int .i64 V, v], .int .i64 s] w fun e w' =>
      ∃ v', e = .returned (.agg #[.int .i64 (if V < s ∧ s ≤ 1125899906842624 then s else V), v']) ∧ w'.ownsRow w.heap.size 101 2 v' fs.length (fcells fs) ∧ Bel w w' := by
  have HC := Lib.hid (fun w' (hb : Bel w w') => fairClone_any fs _ w' (h.bel hb) hn)
  clear h
  obtain ⟨V', HV⟩ : ∃ V', Hid (V' = if V < s ∧ s ≤ 1125899906842624 then s else V) := ⟨_, rfl⟩
  rw [← HV.out]
  go_enter Tryz.func41, Tryz.ntmps41
  go_wp2_with fail
  refine (HC.out _ bI).mono ?_; rintro e w1 ⟨v', rfl, hown, hb1⟩
  obtain ⟨A', c', rfl⟩ := own_slice hown
  have hA := ((AtF.new w 27 [.int .i64 V, v]).alloc (.cells #[.int .i64 0, .slice none 0 0] 27)).bel hb1
  have hB := (AtF.new (w.alloc (.cells #[.int .i64 V, v] 27)) 27 [.int .i64 0, .slice none 0 0]).bel hb1
  simp only [World.size_alloc] at hB hown
  have a0 := hA.1.2 0 _ rfl
  have a1 := hA.1.2 1 _ rfl
  have af := hA.2
  have al := hA.1.1
  have b0 := hB.1.2 0 _ rfl
  have b1 := hB.1.2 1 _ rfl
  have bf := hB.2
  have bl := hB.1.1
  have hown2 := own_other (own_other (own_other hown (p := ⟨w.heap.size, 1, none⟩) (by simp; omega) (.slice A' fs.length c')) (p := ⟨w.heap.size + 1, 0, none⟩) (by simp) (.int .i64 V)) (p := ⟨w.heap.size + 1, 1, none⟩) (by simp) (.slice A' fs.length c')
  have hown3 := own_other (own_other (own_other (own_other hown (p := ⟨w.heap.size, 1, none⟩) (by simp; omega) (.slice A' fs.length c')) (p := ⟨w.heap.size, 0, none⟩) (by simp; omega) (.int .i64 s)) (p := ⟨w.heap.size + 1, 0, none⟩) (by simp) (.int .i64 s)) (p := ⟨w.heap.size + 1, 1, none⟩) (by simp) (.slice A' fs.length c')
  have hne : w.heap.size + 1 ≠ w.heap.size := by omega
  have hr2 := ((hB.other hne 1 (.slice A' fs.length c')).set 0 (by simp) (.int .i64 V)).set 1 (by simp) (.slice A' fs.length c')
  have hr3 := (((hB.other hne 1 (.slice A' fs.length c')).other hne 0 (.int .i64 s)).set 0 (by simp) (.int .i64 s)).set 1 (by simp) (.slice A' fs.length c')
  have r20 := hr2.1.2 0 _ rfl
  have r21 := hr2.1.2 1 _ rfl
  have r30 := hr3.1.2 0 _ rfl
  have r31 := hr3.1.2 1 _ rfl
  clear hown hr2 hr3
  by_cases h1 : V < s
  · by_cases h2 : s ≤ 1125899906842624
    · go_wp2
      exact bodyPost_ret (v := .agg #[.int .i64 s, (.slice A' fs.length c')]) (by simp [results, Tryz.results41, go_sem, r20, r21, r30, r31]) rfl ⟨_, by rw [HV.out, if_pos ⟨h1, h2⟩], own_mono hown3 (by omega), bI⟩
    · have h3 : decide (s ≤ 1125899906842624) = false := by simp; omega
      have h4 : 1125899906842624 < s := by omega
      go_wp2
      exact bodyPost_ret (v := .agg #[.int .i64 V, (.slice A' fs.length c')]) (by simp [results, Tryz.results41, go_sem, r20, r21, r30, r31]) rfl ⟨_, by rw [HV.out, if_neg (by omega)], own_mono hown2 (by omega), bI⟩
  · have h3 : decide (V < s) = false := by simp; omega
    have h4 : s ≤ V := by omega
    go_wp2
    exact bodyPost_ret (v := .agg #[.int .i64 V, (.slice A' fs.length c')]) (by simp [results, Tryz.results41, go_sem, r20, r21, r30, r31]) rfl ⟨_, by rw [HV.out, if_neg (by omega)], own_mono hown2 (by omega), bI⟩

/-- What advance computes: the flows, the start, and whether it could be. -/
def advB (V : Int) (fs : List (Int × Int)) (t c : Int) (st : Int → Int → Int) : List (Int × Int) × Int × Bool :=
  if fairOk V fs = true ∧ 0 ≤ t ∧ t < fs.length ∧ 1 ≤ c ∧ c ≤ 128 then
    if timeB (st (fs.getD t.toNat (0, 0)).1 (fs.getD t.toNat (0, 0)).2 + c * 840 / (fs.getD t.toNat (0, 0)).1) = true then
      (fs.set t.toNat ((fs.getD t.toNat (0, 0)).1, st (fs.getD t.toNat (0, 0)).1 (fs.getD t.toNat (0, 0)).2 + c * 840 / (fs.getD t.toNat (0, 0)).1), st (fs.getD t.toNat (0, 0)).1 (fs.getD t.toNat (0, 0)).2, true)
    else (fs, 0, false)
  else (fs, 0, false)

theorem fcells_set {x y z : Int} : ∀ {l : List (Int × Int)} {k : Nat}, l[k]? = some (x, y) → (fcells l).set (k * 2 + 1) (.int .i64 z) = fcells (l.set k (x, z))
  | [], k, h => by simp at h
  | q :: l, 0, h => by simp at h; subst h; simp [fcells]
  | q :: l, k + 1, h => by
    have := fcells_set (z := z) (l := l) (k := k) (by simpa using h)
    rw [show (k + 1) * 2 + 1 = k * 2 + 1 + 2 by omega]
    simpa [fcells] using this
theorem fset {w : World} {base : Nat} {e : TypeId} {v : Value} {n k : Nat} {l : List (Int × Int)} {x y z : Int} (hx : l[k]? = some (x, y)) (h : w.ownsRow base e 2 v n ((fcells l).set (k * 2 + 1) (.int .i64 z))) : w.ownsRow base e 2 v n (fcells (l.set k (x, z))) := by
  rwa [fcells_set hx] at h

set_option maxHeartbeats 4000000 in
theorem fairAdvance_any (V t c : Int) (fs : List (Int × Int)) (v : Value) (g : Nat) (lb : Array Value) (st : Int → Int → Int) (w : World) (h : Rd w v 2 fs.length (fcells fs)) (hn : fs.length ≤ 1000)
    (eg : ∀ args w, (callFunc g args).run Tryz.prog w = .ok (.enter g args) w)
    (hst : ∀ W x y, Bel w W → Calls Tryz.prog g (#[.agg #[.int .i64 x, .int .i64 y]] ++ lb) W fun e w' => e = .returned (.int .i64 (st x y)) ∧ Bel W w')
    (hbd : ∀ x y, timeB V = true → flowOk (x, y) = true → timeB (st x y) = true) :
    Calls Tryz.prog 67 #[.agg #[.int .i64 V, v], .int .i64 t, .int .i64 c, .func (.func g) #[] lb] w fun e w' =>
      ∃ v', e = .returned (.tuple #[.agg #[.int .i64 V, v'], .int .i64 (advB V fs t c st).2.1, .bool (advB V fs t c st).2.2]) ∧ w'.ownsRow w.heap.size 101 2 v' fs.length (fcells (advB V fs t c st).1) ∧ Bel w w' := by
  have HC := Lib.hid (fun w' (hb : Bel w w') => fairClone_any fs _ w' (h.bel hb) hn)
  have HST := Lib.hid hst
  have HBD := Lib.hid hbd
  clear h hst hbd
  cases hk : fairOk V fs
  · have HK := Lib.hid hk
    have HF := Lib.hid (show advB V fs t c st = (fs, 0, false) by unfold advB; rw [if_neg]; simp [hk])
    clear hk
    go_enter Tryz.func67, Tryz.ntmps67
    go_wp2_with fail
    refine (HC.out _ bI).mono ?_; rintro e w1 ⟨v', rfl, hown, hb1⟩
    obtain ⟨A', c', rfl⟩ := own_slice hown
    have hA := ((AtF.new w 27 [.int .i64 V, v]).alloc (.cells #[.int .i64 0, .slice none 0 0] 27)).bel hb1
    have hB := (AtF.new (w.alloc (.cells #[.int .i64 V, v] 27)) 27 [.int .i64 0, .slice none 0 0]).bel hb1
    simp only [World.size_alloc] at hB hown
    have a0 := hA.1.2 0 _ rfl
    have a1 := hA.1.2 1 _ rfl
    have af := hA.2
    have al := hA.1.1
    go_wp2_with fail
    have hne : w.heap.size + 1 ≠ w.heap.size := by omega
    have hown1 := own_other hown (p := ⟨w.heap.size, 1, none⟩) (by simp; omega) (.slice A' fs.length c')
    refine (fairValid_any V fs _ _ (Rd.own hown1)).mono ?_; rw [HK.out]; rintro e w2 ⟨rfl, hb2⟩
    have hown2 := own_keep hown1 hb2
    have hA2 := (hA.set 1 (by simp) (.slice A' fs.length c')).bel hb2
    have hB2 := (hB.other hne 1 (.slice A' fs.length c')).bel hb2
    have hbw : Bel w w2 := bI
    clear a0 a1 af al hA hB hown hown1 hb1 hb2
    have a0 := hA2.1.2 0 _ rfl
    have a1 := hA2.1.2 1 _ rfl
    have af := hA2.2
    have al := hA2.1.1
    have b0 := hB2.1.2 0 _ rfl
    have b1 := hB2.1.2 1 _ rfl
    have bf := hB2.2
    have bl := hB2.1.1
    have hr2 := ((hB2.set 0 (by simp) (.int .i64 V)).set 1 (by simp) (.slice A' fs.length c'))
    have r20 := hr2.1.2 0 _ rfl
    have r21 := hr2.1.2 1 _ rfl
    have hown3 := own_other (own_other hown2 (p := ⟨w.heap.size + 1, 0, none⟩) (by simp) (.int .i64 V)) (p := ⟨w.heap.size + 1, 1, none⟩) (by simp) (.slice A' fs.length c')
    go_wp2
    exact bodyPost_ret (v := .tuple #[.agg #[.int .i64 V, .slice A' fs.length c'], .int .i64 0, .bool false]) (by simp [results, Tryz.results67, go_sem, r20, r21]) rfl ⟨_, by rw [HF.out], by rw [HF.out]; exact own_mono hown3 (by omega), bI⟩
  · have HK := Lib.hid hk
    by_cases h1 : t < 0
    · have HF := Lib.hid (show advB V fs t c st = (fs, 0, false) by unfold advB; rw [if_neg]; omega)
      clear hk
      go_enter Tryz.func67, Tryz.ntmps67
      go_wp2_with fail
      refine (HC.out _ bI).mono ?_; rintro e w1 ⟨v', rfl, hown, hb1⟩
      obtain ⟨A', c', rfl⟩ := own_slice hown
      have hA := ((AtF.new w 27 [.int .i64 V, v]).alloc (.cells #[.int .i64 0, .slice none 0 0] 27)).bel hb1
      have hB := (AtF.new (w.alloc (.cells #[.int .i64 V, v] 27)) 27 [.int .i64 0, .slice none 0 0]).bel hb1
      simp only [World.size_alloc] at hB hown
      have a0 := hA.1.2 0 _ rfl
      have a1 := hA.1.2 1 _ rfl
      have af := hA.2
      have al := hA.1.1
      go_wp2_with fail
      have hne : w.heap.size + 1 ≠ w.heap.size := by omega
      have hown1 := own_other hown (p := ⟨w.heap.size, 1, none⟩) (by simp; omega) (.slice A' fs.length c')
      refine (fairValid_any V fs _ _ (Rd.own hown1)).mono ?_; rw [HK.out]; rintro e w2 ⟨rfl, hb2⟩
      have hown2 := own_keep hown1 hb2
      have hA2 := (hA.set 1 (by simp) (.slice A' fs.length c')).bel hb2
      have hB2 := (hB.other hne 1 (.slice A' fs.length c')).bel hb2
      have hbw : Bel w w2 := bI
      clear a0 a1 af al hA hB hown hown1 hb1 hb2
      have a0 := hA2.1.2 0 _ rfl
      have a1 := hA2.1.2 1 _ rfl
      have af := hA2.2
      have al := hA2.1.1
      have b0 := hB2.1.2 0 _ rfl
      have b1 := hB2.1.2 1 _ rfl
      have bf := hB2.2
      have bl := hB2.1.1
      have hr2 := ((hB2.set 0 (by simp) (.int .i64 V)).set 1 (by simp) (.slice A' fs.length c'))
      have r20 := hr2.1.2 0 _ rfl
      have r21 := hr2.1.2 1 _ rfl
      have hown3 := own_other (own_other hown2 (p := ⟨w.heap.size + 1, 0, none⟩) (by simp) (.int .i64 V)) (p := ⟨w.heap.size + 1, 1, none⟩) (by simp) (.slice A' fs.length c')
      go_wp2
      exact bodyPost_ret (v := .tuple #[.agg #[.int .i64 V, .slice A' fs.length c'], .int .i64 0, .bool false]) (by simp [results, Tryz.results67, go_sem, r20, r21]) rfl ⟨_, by rw [HF.out], by rw [HF.out]; exact own_mono hown3 (by omega), bI⟩
    · have g1 : decide (t < 0) = false := by simp; omega
      have g1' : 0 ≤ t := by omega
      by_cases h2 : (fs.length : Int) ≤ t
      · have HF := Lib.hid (show advB V fs t c st = (fs, 0, false) by unfold advB; rw [if_neg]; omega)
        clear hk
        go_enter Tryz.func67, Tryz.ntmps67
        go_wp2_with fail
        refine (HC.out _ bI).mono ?_; rintro e w1 ⟨v', rfl, hown, hb1⟩
        obtain ⟨A', c', rfl⟩ := own_slice hown
        have hA := ((AtF.new w 27 [.int .i64 V, v]).alloc (.cells #[.int .i64 0, .slice none 0 0] 27)).bel hb1
        have hB := (AtF.new (w.alloc (.cells #[.int .i64 V, v] 27)) 27 [.int .i64 0, .slice none 0 0]).bel hb1
        simp only [World.size_alloc] at hB hown
        have a0 := hA.1.2 0 _ rfl
        have a1 := hA.1.2 1 _ rfl
        have af := hA.2
        have al := hA.1.1
        go_wp2_with fail
        have hne : w.heap.size + 1 ≠ w.heap.size := by omega
        have hown1 := own_other hown (p := ⟨w.heap.size, 1, none⟩) (by simp; omega) (.slice A' fs.length c')
        refine (fairValid_any V fs _ _ (Rd.own hown1)).mono ?_; rw [HK.out]; rintro e w2 ⟨rfl, hb2⟩
        have hown2 := own_keep hown1 hb2
        have hA2 := (hA.set 1 (by simp) (.slice A' fs.length c')).bel hb2
        have hB2 := (hB.other hne 1 (.slice A' fs.length c')).bel hb2
        have hbw : Bel w w2 := bI
        clear a0 a1 af al hA hB hown hown1 hb1 hb2
        have a0 := hA2.1.2 0 _ rfl
        have a1 := hA2.1.2 1 _ rfl
        have af := hA2.2
        have al := hA2.1.1
        have b0 := hB2.1.2 0 _ rfl
        have b1 := hB2.1.2 1 _ rfl
        have bf := hB2.2
        have bl := hB2.1.1
        have hr2 := ((hB2.set 0 (by simp) (.int .i64 V)).set 1 (by simp) (.slice A' fs.length c'))
        have r20 := hr2.1.2 0 _ rfl
        have r21 := hr2.1.2 1 _ rfl
        have hown3 := own_other (own_other hown2 (p := ⟨w.heap.size + 1, 0, none⟩) (by simp) (.int .i64 V)) (p := ⟨w.heap.size + 1, 1, none⟩) (by simp) (.slice A' fs.length c')
        go_wp2
        exact bodyPost_ret (v := .tuple #[.agg #[.int .i64 V, .slice A' fs.length c'], .int .i64 0, .bool false]) (by simp [results, Tryz.results67, go_sem, r20, r21]) rfl ⟨_, by rw [HF.out], by rw [HF.out]; exact own_mono hown3 (by omega), bI⟩
      · have g2 : decide ((fs.length : Int) ≤ t) = false := by simp; omega
        have g2' : t < (fs.length : Int) := by omega
        by_cases h3 : c < 1
        · have HF := Lib.hid (show advB V fs t c st = (fs, 0, false) by unfold advB; rw [if_neg]; omega)
          clear hk
          go_enter Tryz.func67, Tryz.ntmps67
          go_wp2_with fail
          refine (HC.out _ bI).mono ?_; rintro e w1 ⟨v', rfl, hown, hb1⟩
          obtain ⟨A', c', rfl⟩ := own_slice hown
          have hA := ((AtF.new w 27 [.int .i64 V, v]).alloc (.cells #[.int .i64 0, .slice none 0 0] 27)).bel hb1
          have hB := (AtF.new (w.alloc (.cells #[.int .i64 V, v] 27)) 27 [.int .i64 0, .slice none 0 0]).bel hb1
          simp only [World.size_alloc] at hB hown
          have a0 := hA.1.2 0 _ rfl
          have a1 := hA.1.2 1 _ rfl
          have af := hA.2
          have al := hA.1.1
          go_wp2_with fail
          have hne : w.heap.size + 1 ≠ w.heap.size := by omega
          have hown1 := own_other hown (p := ⟨w.heap.size, 1, none⟩) (by simp; omega) (.slice A' fs.length c')
          refine (fairValid_any V fs _ _ (Rd.own hown1)).mono ?_; rw [HK.out]; rintro e w2 ⟨rfl, hb2⟩
          have hown2 := own_keep hown1 hb2
          have hA2 := (hA.set 1 (by simp) (.slice A' fs.length c')).bel hb2
          have hB2 := (hB.other hne 1 (.slice A' fs.length c')).bel hb2
          have hbw : Bel w w2 := bI
          clear a0 a1 af al hA hB hown hown1 hb1 hb2
          have a0 := hA2.1.2 0 _ rfl
          have a1 := hA2.1.2 1 _ rfl
          have af := hA2.2
          have al := hA2.1.1
          have b0 := hB2.1.2 0 _ rfl
          have b1 := hB2.1.2 1 _ rfl
          have bf := hB2.2
          have bl := hB2.1.1
          have hr2 := ((hB2.set 0 (by simp) (.int .i64 V)).set 1 (by simp) (.slice A' fs.length c'))
          have r20 := hr2.1.2 0 _ rfl
          have r21 := hr2.1.2 1 _ rfl
          have hown3 := own_other (own_other hown2 (p := ⟨w.heap.size + 1, 0, none⟩) (by simp) (.int .i64 V)) (p := ⟨w.heap.size + 1, 1, none⟩) (by simp) (.slice A' fs.length c')
          go_wp2
          exact bodyPost_ret (v := .tuple #[.agg #[.int .i64 V, .slice A' fs.length c'], .int .i64 0, .bool false]) (by simp [results, Tryz.results67, go_sem, r20, r21]) rfl ⟨_, by rw [HF.out], by rw [HF.out]; exact own_mono hown3 (by omega), bI⟩
        · have g3 : decide (c < 1) = false := by simp; omega
          have g3' : 1 ≤ c := by omega
          by_cases h4 : 128 < c
          · have HF := Lib.hid (show advB V fs t c st = (fs, 0, false) by unfold advB; rw [if_neg]; omega)
            clear hk
            go_enter Tryz.func67, Tryz.ntmps67
            go_wp2_with fail
            refine (HC.out _ bI).mono ?_; rintro e w1 ⟨v', rfl, hown, hb1⟩
            obtain ⟨A', c', rfl⟩ := own_slice hown
            have hA := ((AtF.new w 27 [.int .i64 V, v]).alloc (.cells #[.int .i64 0, .slice none 0 0] 27)).bel hb1
            have hB := (AtF.new (w.alloc (.cells #[.int .i64 V, v] 27)) 27 [.int .i64 0, .slice none 0 0]).bel hb1
            simp only [World.size_alloc] at hB hown
            have a0 := hA.1.2 0 _ rfl
            have a1 := hA.1.2 1 _ rfl
            have af := hA.2
            have al := hA.1.1
            go_wp2_with fail
            have hne : w.heap.size + 1 ≠ w.heap.size := by omega
            have hown1 := own_other hown (p := ⟨w.heap.size, 1, none⟩) (by simp; omega) (.slice A' fs.length c')
            refine (fairValid_any V fs _ _ (Rd.own hown1)).mono ?_; rw [HK.out]; rintro e w2 ⟨rfl, hb2⟩
            have hown2 := own_keep hown1 hb2
            have hA2 := (hA.set 1 (by simp) (.slice A' fs.length c')).bel hb2
            have hB2 := (hB.other hne 1 (.slice A' fs.length c')).bel hb2
            have hbw : Bel w w2 := bI
            clear a0 a1 af al hA hB hown hown1 hb1 hb2
            have a0 := hA2.1.2 0 _ rfl
            have a1 := hA2.1.2 1 _ rfl
            have af := hA2.2
            have al := hA2.1.1
            have b0 := hB2.1.2 0 _ rfl
            have b1 := hB2.1.2 1 _ rfl
            have bf := hB2.2
            have bl := hB2.1.1
            have hr2 := ((hB2.set 0 (by simp) (.int .i64 V)).set 1 (by simp) (.slice A' fs.length c'))
            have r20 := hr2.1.2 0 _ rfl
            have r21 := hr2.1.2 1 _ rfl
            have hown3 := own_other (own_other hown2 (p := ⟨w.heap.size + 1, 0, none⟩) (by simp) (.int .i64 V)) (p := ⟨w.heap.size + 1, 1, none⟩) (by simp) (.slice A' fs.length c')
            go_wp2
            exact bodyPost_ret (v := .tuple #[.agg #[.int .i64 V, .slice A' fs.length c'], .int .i64 0, .bool false]) (by simp [results, Tryz.results67, go_sem, r20, r21]) rfl ⟨_, by rw [HF.out], by rw [HF.out]; exact own_mono hown3 (by omega), bI⟩
          · have g4 : decide (128 < c) = false := by simp; omega
            have g4' : c ≤ 128 := by omega
            obtain ⟨k, rfl⟩ : ∃ k : Nat, t = k := ⟨t.toNat, by omega⟩
            obtain ⟨⟨x, y⟩, hx⟩ : ∃ p, fs[k]? = some p := ⟨fs[k]'(by omega), List.getElem?_eq_getElem _⟩
            have hk2 := hk
            simp only [fairOk, Bool.and_eq_true, decide_eq_true_eq, List.all_eq_true] at hk2
            obtain ⟨⟨_, hV⟩, hall⟩ := hk2
            have hfl := hall _ (List.mem_of_getElem? hx)
            have hS := HBD.out x y hV hfl
            obtain ⟨⟨x1, x2⟩, y1, y2⟩ := flowOk_iff.1 hfl
            have hd1 : 0 ≤ c * 840 / x := Int.ediv_nonneg (by omega) (by omega)
            have hd2 : c * 840 / x ≤ 107520 := Int.le_trans (Int.ediv_le_self _ (by omega)) (by omega)
            obtain ⟨D, HD⟩ : ∃ D, Hid (D = c * 840 / x) := ⟨_, rfl⟩
            have hq : (c * 840).tdiv x = D := by rw [Int.tdiv_eq_ediv_of_nonneg (by omega), HD.out]
            rw [← HD.out] at hd1 hd2
            obtain ⟨S, HS⟩ : ∃ S, Hid (S = st x y) := ⟨_, rfl⟩
            rw [← HS.out] at hS
            obtain ⟨s1, s2⟩ := timeB_iff.1 hS
            have hF : advB V fs k c st = if timeB (S + D) = true then (fs.set k (x, S + D), S, true) else (fs, 0, false) := by
              unfold advB
              rw [if_pos ⟨hk, by omega, g2', g3', g4'⟩]
              have e1 : fs.getD (k : Int).toNat (0, 0) = (x, y) := by rw [Int.toNat_natCast, List.getD_eq_getElem?_getD, hx]; rfl
              rw [e1]
              simp only [Int.toNat_natCast, ← HS.out, ← HD.out]
            have HX := Lib.hid hx
            have HT := Lib.hid (fairTime_any (S + D))
            have x0 : (x == 0) = false := by simp; omega
            clear hx hk hall hfl hS hV
            cases hT : timeB (S + D)
            · rw [hT] at hF HT
              have HF := Lib.hid hF
              clear hF hT
              simp only [Bool.false_eq_true, if_false] at HF
              go_enter Tryz.func67, Tryz.ntmps67
              go_wp2_with fail
              refine (HC.out _ bI).mono ?_; rintro e w1 ⟨v', rfl, hown, hb1⟩
              obtain ⟨A', c', rfl⟩ := own_slice hown
              have hA := ((AtF.new w 27 [.int .i64 V, v]).alloc (.cells #[.int .i64 0, .slice none 0 0] 27)).bel hb1
              have hB := (AtF.new (w.alloc (.cells #[.int .i64 V, v] 27)) 27 [.int .i64 0, .slice none 0 0]).bel hb1
              simp only [World.size_alloc] at hB hown
              have a0 := hA.1.2 0 _ rfl
              have a1 := hA.1.2 1 _ rfl
              have af := hA.2
              have al := hA.1.1
              go_wp2_with fail
              have hne : w.heap.size + 1 ≠ w.heap.size := by omega
              have hown1 := own_other hown (p := ⟨w.heap.size, 1, none⟩) (by simp; omega) (.slice A' fs.length c')
              refine (fairValid_any V fs _ _ (Rd.own hown1)).mono ?_; rw [HK.out]; rintro e w2 ⟨rfl, hb2⟩
              have hown2 := own_keep hown1 hb2
              have hA2 := (hA.set 1 (by simp) (.slice A' fs.length c')).bel hb2
              have hB2 := (hB.other hne 1 (.slice A' fs.length c')).bel hb2
              have hbw : Bel w w2 := bI
              clear a0 a1 af al hA hB hown hown1 hb1 hb2
              have a0 := hA2.1.2 0 _ rfl
              have a1 := hA2.1.2 1 _ rfl
              have af := hA2.2
              have al := hA2.1.1
              have b0 := hB2.1.2 0 _ rfl
              have b1 := hB2.1.2 1 _ rfl
              have bf := hB2.2
              have bl := hB2.1.1
              obtain ⟨g', cap', hv', _, _⟩ := hown2.form (by omega)
              cases hv'
              have q0 : w2.cell? ⟨g', k * 2, none⟩ = some (.int .i64 x) := by rw [hown2.cellAt _ (by omega)]; exact fcells_at0 _ _ _ HX.out
              have q1 : w2.cell? ⟨g', k * 2 + 1, none⟩ = some (.int .i64 y) := by rw [hown2.cellAt _ (by omega)]; exact fcells_at1 _ _ _ HX.out
              go_wp2_with fail
              refine (HST.out _ x y bI).mono ?_; rw [← HS.out]; rintro e w3 ⟨rfl, hb3⟩
              have hA3 := hA2.bel hb3
              have hB3 := hB2.bel hb3
              have hown3 := own_keep hown2 hb3
              have hbw3 : Bel w w3 := hbw.trans hb3
              clear a0 a1 af al b0 b1 bf bl hA2 hB2 hown2 hbw hb3 q0 q1
              have a0 := hA3.1.2 0 _ rfl
              have a1 := hA3.1.2 1 _ rfl
              have af := hA3.2
              have al := hA3.1.1
              have b0 := hB3.1.2 0 _ rfl
              have b1 := hB3.1.2 1 _ rfl
              have bf := hB3.2
              have bl := hB3.1.1
              have q0 : w3.cell? ⟨g', k * 2, none⟩ = some (.int .i64 x) := by rw [hown3.cellAt _ (by omega)]; exact fcells_at0 _ _ _ HX.out
              have q1 : w3.cell? ⟨g', k * 2 + 1, none⟩ = some (.int .i64 y) := by rw [hown3.cellAt _ (by omega)]; exact fcells_at1 _ _ _ HX.out
              have qf : w3.frozen? ⟨g', k * 2 + 1, none⟩ = false := hown3.frozenAt _
              have qg := (hown3.lt g' (by simp [Value.ownBlock])).1
              go_wp2_with fail
              refine (HT.out _).mono ?_; rintro e w4 ⟨rfl, rfl⟩
              have hr2 := ((hB3.set 0 (by simp) (.int .i64 V)).set 1 (by simp) (.slice (some ⟨g', 0, none⟩) fs.length c'))
              have r20 := hr2.1.2 0 _ rfl
              have r21 := hr2.1.2 1 _ rfl
              have hown4 := own_other (own_other hown3 (p := ⟨w.heap.size + 1, 0, none⟩) (by simp) (.int .i64 V)) (p := ⟨w.heap.size + 1, 1, none⟩) (by simp) (.slice (some ⟨g', 0, none⟩) fs.length c')
              go_wp2
              exact bodyPost_ret (v := .tuple #[.agg #[.int .i64 V, .slice (some ⟨g', 0, none⟩) fs.length c'], .int .i64 0, .bool false]) (by simp [results, Tryz.results67, go_sem, r20, r21]) rfl ⟨_, by rw [HF.out], by rw [HF.out]; exact own_mono hown4 (by omega), bI⟩
            · rw [hT] at hF HT
              have HF := Lib.hid hF
              clear hF hT
              simp only [if_true] at HF
              go_enter Tryz.func67, Tryz.ntmps67
              go_wp2_with fail
              refine (HC.out _ bI).mono ?_; rintro e w1 ⟨v', rfl, hown, hb1⟩
              obtain ⟨A', c', rfl⟩ := own_slice hown
              have hA := ((AtF.new w 27 [.int .i64 V, v]).alloc (.cells #[.int .i64 0, .slice none 0 0] 27)).bel hb1
              have hB := (AtF.new (w.alloc (.cells #[.int .i64 V, v] 27)) 27 [.int .i64 0, .slice none 0 0]).bel hb1
              simp only [World.size_alloc] at hB hown
              have a0 := hA.1.2 0 _ rfl
              have a1 := hA.1.2 1 _ rfl
              have af := hA.2
              have al := hA.1.1
              go_wp2_with fail
              have hne : w.heap.size + 1 ≠ w.heap.size := by omega
              have hown1 := own_other hown (p := ⟨w.heap.size, 1, none⟩) (by simp; omega) (.slice A' fs.length c')
              refine (fairValid_any V fs _ _ (Rd.own hown1)).mono ?_; rw [HK.out]; rintro e w2 ⟨rfl, hb2⟩
              have hown2 := own_keep hown1 hb2
              have hA2 := (hA.set 1 (by simp) (.slice A' fs.length c')).bel hb2
              have hB2 := (hB.other hne 1 (.slice A' fs.length c')).bel hb2
              have hbw : Bel w w2 := bI
              clear a0 a1 af al hA hB hown hown1 hb1 hb2
              have a0 := hA2.1.2 0 _ rfl
              have a1 := hA2.1.2 1 _ rfl
              have af := hA2.2
              have al := hA2.1.1
              have b0 := hB2.1.2 0 _ rfl
              have b1 := hB2.1.2 1 _ rfl
              have bf := hB2.2
              have bl := hB2.1.1
              obtain ⟨g', cap', hv', _, _⟩ := hown2.form (by omega)
              cases hv'
              have q0 : w2.cell? ⟨g', k * 2, none⟩ = some (.int .i64 x) := by rw [hown2.cellAt _ (by omega)]; exact fcells_at0 _ _ _ HX.out
              have q1 : w2.cell? ⟨g', k * 2 + 1, none⟩ = some (.int .i64 y) := by rw [hown2.cellAt _ (by omega)]; exact fcells_at1 _ _ _ HX.out
              go_wp2_with fail
              refine (HST.out _ x y bI).mono ?_; rw [← HS.out]; rintro e w3 ⟨rfl, hb3⟩
              have hA3 := hA2.bel hb3
              have hB3 := hB2.bel hb3
              have hown3 := own_keep hown2 hb3
              have hbw3 : Bel w w3 := hbw.trans hb3
              clear a0 a1 af al b0 b1 bf bl hA2 hB2 hown2 hbw hb3 q0 q1
              have a0 := hA3.1.2 0 _ rfl
              have a1 := hA3.1.2 1 _ rfl
              have af := hA3.2
              have al := hA3.1.1
              have b0 := hB3.1.2 0 _ rfl
              have b1 := hB3.1.2 1 _ rfl
              have bf := hB3.2
              have bl := hB3.1.1
              have q0 : w3.cell? ⟨g', k * 2, none⟩ = some (.int .i64 x) := by rw [hown3.cellAt _ (by omega)]; exact fcells_at0 _ _ _ HX.out
              have q1 : w3.cell? ⟨g', k * 2 + 1, none⟩ = some (.int .i64 y) := by rw [hown3.cellAt _ (by omega)]; exact fcells_at1 _ _ _ HX.out
              have qf : w3.frozen? ⟨g', k * 2 + 1, none⟩ = false := hown3.frozenAt _
              have qg := (hown3.lt g' (by simp [Value.ownBlock])).1
              go_wp2_with fail
              refine (HT.out _).mono ?_; rintro e w4 ⟨rfl, rfl⟩
              have hne2 : w.heap.size ≠ g' := by omega
              have hne3 : w.heap.size + 1 ≠ g' := by omega
              have hB4 := hB3.other hne3 (k * 2 + 1) (.int .i64 (S + D))
              have hown4 := (hown3.stored (k * 2 + 1) (.int .i64 (S + D))).1
              have hr2 := ((hB4.set 0 (by simp) (.int .i64 V)).set 1 (by simp) (.slice (some ⟨g', 0, none⟩) fs.length c'))
              have r20 := hr2.1.2 0 _ rfl
              have r21 := hr2.1.2 1 _ rfl
              have hown5 := own_other (own_other hown4 (p := ⟨w.heap.size + 1, 0, none⟩) (by simp) (.int .i64 V)) (p := ⟨w.heap.size + 1, 1, none⟩) (by simp) (.slice (some ⟨g', 0, none⟩) fs.length c')
              go_wp2
              exact bodyPost_ret (v := .tuple #[.agg #[.int .i64 V, .slice (some ⟨g', 0, none⟩) fs.length c'], .int .i64 S, .bool true]) (by simp [results, Tryz.results67, go_sem, r20, r21]) rfl ⟨_, by rw [HF.out], by rw [HF.out]; exact own_mono (fset HX.out hown5) (by omega), bI⟩
end Go.Proofs.YtpgjbocjhconoaaGreat

/- The fair package: Stamp and Grow. -/
namespace Go.Proofs.YtpgjbocjhconoaaGreat
open Go.RowKit
set_option linter.unusedSimpArgs false

set_option maxHeartbeats 1000000 in
theorem fairStart_any (V x y : Int) (B : Nat) (w : World) (hc : w.cell? ⟨B, 0, none⟩ = some (.int .i64 V)) :
    Calls Tryz.prog 70 #[.agg #[.int .i64 x, .int .i64 y], .pointer (some ⟨B, 0, none⟩)] w fun e w' => e = .returned (.int .i64 (max V y)) ∧ Bel w w' := by
  have hl := World.block_lt_of_cell? _ _ hc
  go_enter Tryz.func70, Tryz.ntmps70
  go_wp2
  all_goals
    go_ret
    exact ⟨ret_int (by omega), bI⟩
set_option maxHeartbeats 1000000 in
theorem fairFrom_any (x y : Int) (w : World) :
    Calls Tryz.prog 68 #[.agg #[.int .i64 x, .int .i64 y]] w fun e w' => e = .returned (.int .i64 y) ∧ Bel w w' := by
  go_enter Tryz.func68, Tryz.ntmps68
  go_wp2
  all_goals
    go_ret
    exact ⟨rfl, bI⟩

def stampB (V : Int) (fs : List (Int × Int)) (t c : Int) : List (Int × Int) × Int × Bool := advB V fs t c (fun _ y => max V y)
def growB (V : Int) (fs : List (Int × Int)) (t c : Int) : List (Int × Int) × Int × Bool := advB V fs t c (fun _ y => y)

set_option maxHeartbeats 2000000 in
theorem fairStamp_any (V t c : Int) (fs : List (Int × Int)) (v : Value) (w : World) (h : Rd w v 2 fs.length (fcells fs)) (hn : fs.length ≤ 1000) :
    Calls Tryz.prog 25 #[.agg #[.int .i64 V, v], .int .i64 t, .int .i64 c] w fun e w' =>
      ∃ v', e = .returned (.tuple #[.agg #[.int .i64 V, v'], .int .i64 (stampB V fs t c).2.1, .bool (stampB V fs t c).2.2]) ∧ w'.ownsRow w.heap.size 101 2 v' fs.length (fcells (stampB V fs t c).1) ∧ Bel w w' := by
  have hb1 : Bel w ((w.alloc (.cells #[.int .i64 V, v] 27)).alloc (.cells #[.int .i64 0, .slice none 0 0] 27)) := bI
  have hA := (AtF.new w 27 [.int .i64 V, v]).alloc (.cells #[.int .i64 0, .slice none 0 0] 27)
  have hcon := fairAdvance_any V t c fs v 70 #[.pointer (some ⟨w.heap.size, 0, none⟩)] (fun _ y => max V y) _ (h.bel hb1) hn (enters_of Tryz.func70 (by kernel_rfl) rfl)
    (fun W x y hW => fairStart_any V x y w.heap.size W ((hA.bel hW).1.2 0 _ rfl)) (fun x y h1 h2 => by rw [timeB_iff] at h1 ⊢; have := flowOk_iff.1 h2; omega)
  rw [show advB V fs t c (fun _ y => max V y) = stampB V fs t c from rfl] at hcon
  have hcon2 := Lib.hid hcon
  clear hcon h
  generalize stampB V fs t c = z at hcon2 ⊢
  obtain ⟨z0, z1, z2⟩ := z
  go_enter Tryz.func25, Tryz.ntmps25
  go_wp2_with fail
  refine hcon2.out.mono ?_; rintro e w2 ⟨v', rfl, hown, hb2⟩
  obtain ⟨A', c', rfl⟩ := own_slice hown
  have hB := (AtF.new (w.alloc (.cells #[.int .i64 V, v] 27)) 27 [.int .i64 0, .slice none 0 0]).bel hb2
  simp only [World.size_alloc] at hB hown
  have b0 := hB.1.2 0 _ rfl
  have b1 := hB.1.2 1 _ rfl
  have bf := hB.2
  have bl := hB.1.1
  have hr2 := ((hB.set 0 (by simp) (.int .i64 V)).set 1 (by simp) (.slice A' fs.length c'))
  have r20 := hr2.1.2 0 _ rfl
  have r21 := hr2.1.2 1 _ rfl
  have hown3 := own_other (own_other hown (p := ⟨w.heap.size + 1, 0, none⟩) (by simp) (.int .i64 V)) (p := ⟨w.heap.size + 1, 1, none⟩) (by simp) (.slice A' fs.length c')
  go_wp2
  exact bodyPost_ret (v := .tuple #[.agg #[.int .i64 V, .slice A' fs.length c'], .int .i64 z1, .bool z2]) (by simp [results, Tryz.results25, go_sem, r20, r21]) rfl ⟨_, rfl, own_mono hown3 (Nat.le_succ_of_le (Nat.le_succ _)), bI⟩

set_option maxHeartbeats 2000000 in
theorem fairGrow_any (V t c : Int) (fs : List (Int × Int)) (v : Value) (w : World) (h : Rd w v 2 fs.length (fcells fs)) (hn : fs.length ≤ 1000) :
    Calls Tryz.prog 23 #[.agg #[.int .i64 V, v], .int .i64 t, .int .i64 c] w fun e w' =>
      ∃ v', e = .returned (.tuple #[.agg #[.int .i64 V, v'], .bool (growB V fs t c).2.2]) ∧ w'.ownsRow w.heap.size 101 2 v' fs.length (fcells (growB V fs t c).1) ∧ Bel w w' := by
  have HH := Lib.hid h
  have hcon := fun (w1 : World) (hb : Bel w w1) => fairAdvance_any V t c fs v 68 #[] (fun _ y => y) w1 (HH.out.bel hb) hn (enters_of Tryz.func68 (by kernel_rfl) rfl)
    (fun W x y _ => fairFrom_any x y W) (fun x y h1 h2 => by rw [timeB_iff] at h1 ⊢; have := flowOk_iff.1 h2; omega)
  simp only [show advB V fs t c (fun _ y => y) = growB V fs t c from rfl] at hcon
  have hcon2 := Lib.hid hcon
  clear hcon h HH
  generalize growB V fs t c = z at hcon2 ⊢
  obtain ⟨z0, z1, z2⟩ := z
  go_enter Tryz.func23, Tryz.ntmps23
  go_wp2_with fail
  refine (hcon2.out _ bI).mono ?_; rintro e w2 ⟨v', rfl, hown, hb2⟩
  obtain ⟨A', c', rfl⟩ := own_slice hown
  have hA := ((AtF.new w 27 [.int .i64 V, v]).alloc (.cells #[.int .i64 0, .slice none 0 0] 27)).bel hb2
  have hB := (AtF.new (w.alloc (.cells #[.int .i64 V, v] 27)) 27 [.int .i64 0, .slice none 0 0]).bel hb2
  simp only [World.size_alloc] at hB hown
  have a0 := hA.1.2 0 _ rfl
  have a1 := hA.1.2 1 _ rfl
  have af := hA.2
  have al := hA.1.1
  have b0 := hB.1.2 0 _ rfl
  have b1 := hB.1.2 1 _ rfl
  have bf := hB.2
  have bl := hB.1.1
  have hne : w.heap.size + 1 ≠ w.heap.size := by omega
  have hr2 := ((((hB.other hne 0 (.int .i64 V)).other hne 1 (.slice A' fs.length c')).set 0 (by simp) (.int .i64 V)).set 1 (by simp) (.slice A' fs.length c'))
  have r20 := hr2.1.2 0 _ rfl
  have r21 := hr2.1.2 1 _ rfl
  have hown3 := own_other (own_other (own_other (own_other hown (p := ⟨w.heap.size, 0, none⟩) (by simp; omega) (.int .i64 V)) (p := ⟨w.heap.size, 1, none⟩) (by simp; omega) (.slice A' fs.length c')) (p := ⟨w.heap.size + 1, 0, none⟩) (by simp) (.int .i64 V)) (p := ⟨w.heap.size + 1, 1, none⟩) (by simp) (.slice A' fs.length c')
  go_wp2
  exact bodyPost_ret (v := .tuple #[.agg #[.int .i64 V, .slice A' fs.length c'], .bool z2]) (by simp [results, Tryz.results23, go_sem, r20, r21]) rfl ⟨_, rfl, own_mono hown3 (Nat.le_succ_of_le (Nat.le_succ _)), bI⟩
end Go.Proofs.YtpgjbocjhconoaaGreat

/- The contracts of the token package and of its reference. -/
namespace Go.Proofs.YtpgjbocjhconoaaGreat
open Go.RowKit

structure Bk where
  rate : Int
  burst : Int
  level : Int
  last : Int

/-- A bucket as a value. -/
def bv (r u l t : Int) : Value := .agg #[.int .i64 r, .int .i64 u, .int .i64 l, .int .i64 t]
def tickB (n : Int) : Bool := decide (0 ≤ n ∧ n ≤ 1099511627776)
def bkOk (b : Bk) : Bool := decide (0 ≤ b.rate ∧ b.rate ≤ 100000 ∧ 1 ≤ b.burst ∧ b.burst ≤ 128 ∧ 0 ≤ b.level ∧ b.level ≤ 1000 * b.burst) && tickB b.last

theorem tickB_iff {n : Int} : tickB n = true ↔ 0 ≤ n ∧ n ≤ 1099511627776 := by simp [tickB]
theorem bkOk_iff {r u l t : Int} : bkOk ⟨r, u, l, t⟩ = true ↔ (0 ≤ r ∧ r ≤ 100000 ∧ 1 ≤ u ∧ u ≤ 128 ∧ 0 ≤ l ∧ l ≤ 1000 * u) ∧ 0 ≤ t ∧ t ≤ 1099511627776 := by
  simp [bkOk, tickB]

set_option maxHeartbeats 400000 in
theorem tokTick_any (n : Int) (w : World) :
    Calls Tryz.prog 86 #[.int .i64 n] w fun e w' => e = .returned (.bool (tickB n)) ∧ w = w' := by
  go_enter Tryz.func86, Tryz.ntmps86
  go_wp2
  all_goals
    go_ret
    exact ⟨ret_bool (by first | (simp [tickB, *]; done) | (simp [tickB, *]; omega) | (simp [tickB]; omega) | (rw [Bool.eq_iff_iff]; simp [tickB, *]; omega)), rfl⟩
set_option maxHeartbeats 400000 in
theorem refEarly_any (n : Int) (w : World) :
    Calls Tryz.prog 81 #[.int .i64 n] w fun e w' => e = .returned (.bool (tickB n)) ∧ w = w' := by
  go_enter Tryz.func81, Tryz.ntmps81
  go_wp2
  all_goals
    go_ret
    exact ⟨ret_bool (by first | (simp [tickB, *]; done) | (simp [tickB, *]; omega) | (simp [tickB]; omega) | (rw [Bool.eq_iff_iff]; simp [tickB, *]; omega)), rfl⟩

set_option maxHeartbeats 1000000 in
theorem tokValid_any (r u l t : Int) (w : World) :
    Calls Tryz.prog 56 #[.agg #[.int .i64 r, .int .i64 u, .int .i64 l, .int .i64 t]] w fun e w' => e = .returned (.bool (bkOk ⟨r, u, l, t⟩)) ∧ Bel w w' := by
  have H1 := Lib.hid (tokTick_any t)
  go_enter Tryz.func56, Tryz.ntmps56
  go_wp2_with (go_at_call 86; refine (H1.out _).mono ?_; rintro e w1 ⟨rfl, rfl⟩)
  all_goals
    go_ret
    exact ⟨ret_bool (by first | (simp [bkOk, *]; done) | (simp [bkOk, *]; omega) | (simp [bkOk]; omega) | (rw [Bool.eq_iff_iff]; simp [bkOk, *]; omega)), bI⟩
set_option maxHeartbeats 1000000 in
theorem refBucket_any (r u l t : Int) (w : World) :
    Calls Tryz.prog 80 #[.agg #[.int .i64 r, .int .i64 u, .int .i64 l, .int .i64 t]] w fun e w' => e = .returned (.bool (bkOk ⟨r, u, l, t⟩)) ∧ Bel w w' := by
  have H1 := Lib.hid (refEarly_any t)
  go_enter Tryz.func80, Tryz.ntmps80
  go_wp2_with (go_at_call 81; refine (H1.out _).mono ?_; rintro e w1 ⟨rfl, rfl⟩)
  all_goals
    go_ret
    exact ⟨ret_bool (by first | (simp [bkOk, *]; done) | (simp [bkOk, *]; omega) | (simp [bkOk]; omega) | (rw [Bool.eq_iff_iff]; simp [bkOk, *]; omega)), bI⟩

def refill (b : Bk) (now : Int) : Bk :=
  if bkOk b && tickB now && decide (b.last < now) then ⟨b.rate, b.burst, min (1000 * b.burst) (b.level + b.rate * (now - b.last)), now⟩ else b

theorem mul_fit {r d : Int} (h1 : 0 ≤ r) (h2 : r ≤ 100000) (h3 : 0 ≤ d) (h4 : d ≤ 1099511627776) : 0 ≤ r * d ∧ r * d ≤ 109951162777600000 := by
  refine ⟨Int.mul_nonneg h1 h3, ?_⟩
  have e1 : r * d ≤ 100000 * d := Int.mul_le_mul_of_nonneg_right h2 h3
  have e2 : (100000 : Int) * d ≤ 100000 * 1099511627776 := Int.mul_le_mul_of_nonneg_left h4 (by omega)
  exact Int.le_trans e1 (Int.le_trans e2 (by decide))

set_option maxHeartbeats 2000000 in
theorem tokRefill_any (r u l t now : Int) (w : World) :
    Calls Tryz.prog 96 #[.agg #[.int .i64 r, .int .i64 u, .int .i64 l, .int .i64 t], .int .i64 now] w fun e w' => e = .returned (bv (refill ⟨r, u, l, t⟩ now).rate (refill ⟨r, u, l, t⟩ now).burst (refill ⟨r, u, l, t⟩ now).level (refill ⟨r, u, l, t⟩ now).last) ∧ Bel w w' := by
  have H1 := Lib.hid (tokValid_any r u l t)
  have H2 := Lib.hid (tokTick_any now)
  cases hv : bkOk ⟨r, u, l, t⟩
  · have HF := Lib.hid (show refill ⟨r, u, l, t⟩ now = ⟨r, u, l, t⟩ by simp [refill, hv])
    rw [HF.out]
    go_enter Tryz.func96, Tryz.ntmps96
    go_wp2_with (go_at_call 56; refine (H1.out _).mono ?_; rw [hv]; rintro e w1 ⟨rfl, hb1⟩; have hc1 := hb1.cellAt; have hf1 := hb1.frozenAt)
    exact bodyPost_ret (v := bv r u l t) (by simp [results, Tryz.results96, go_sem, bv, hc1]) rfl ⟨rfl, bI⟩
  · obtain ⟨⟨b1, b2, b3, b4, b5, b6⟩, b7, b8⟩ := bkOk_iff.1 hv
    cases ht : tickB now
    · have HF := Lib.hid (show refill ⟨r, u, l, t⟩ now = ⟨r, u, l, t⟩ by simp [refill, ht])
      rw [HF.out]
      go_enter Tryz.func96, Tryz.ntmps96
      go_wp2_with (first
        | (go_at_call 56; refine (H1.out _).mono ?_; rw [hv]; rintro e w1 ⟨rfl, hb1⟩; have hc1 := hb1.cellAt; have hf1 := hb1.frozenAt)
        | (go_at_call 86; refine (H2.out _).mono ?_; rw [ht]; rintro e w2 ⟨rfl, rfl⟩))
      exact bodyPost_ret (v := bv r u l t) (by simp [results, Tryz.results96, go_sem, bv, hc1]) rfl ⟨rfl, bI⟩
    · obtain ⟨n1, n2⟩ := tickB_iff.1 ht
      by_cases hlt : t < now
      · have HF := Lib.hid (show refill ⟨r, u, l, t⟩ now = ⟨r, u, min (1000 * u) (l + r * (now - t)), now⟩ by simp [refill, hv, ht, hlt])
        rw [HF.out]
        obtain ⟨m1, m2⟩ := mul_fit b1 b2 (show 0 ≤ now - t by omega) (show now - t ≤ 1099511627776 by omega)
        go_enter Tryz.func96, Tryz.ntmps96
        go_wp2_with fail
        refine (H1.out _).mono ?_; rw [hv]; rintro e w1 ⟨rfl, hb1⟩
        have hc1 := hb1.cellAt
        have hf1 := hb1.frozenAt
        have c0a : w1.cell? ⟨w.heap.size, 0, none⟩ = some (.int .i64 r) := by rw [hb1.cellAt _ _ (by first | (simp; done) | (simp; omega))]; simp [go_sem]
        have c1a : w1.cell? ⟨w.heap.size, 1, none⟩ = some (.int .i64 u) := by rw [hb1.cellAt _ _ (by first | (simp; done) | (simp; omega))]; simp [go_sem]
        have c2a : w1.cell? ⟨w.heap.size, 2, none⟩ = some (.int .i64 l) := by rw [hb1.cellAt _ _ (by first | (simp; done) | (simp; omega))]; simp [go_sem]
        have c3a : w1.cell? ⟨w.heap.size, 3, none⟩ = some (.int .i64 t) := by rw [hb1.cellAt _ _ (by first | (simp; done) | (simp; omega))]; simp [go_sem]
        go_wp2_with (go_at_call 86; refine (H2.out _).mono ?_; rw [ht]; rintro e w2 ⟨rfl, rfl⟩)
        all_goals
          first
          | (rw [show min (1000 * u) (l + r * (now - t)) = 1000 * u by omega]
             exact bodyPost_ret (v := bv r u (1000 * u) now) (by simp [results, Tryz.results96, go_sem, bv, hc1]) rfl ⟨rfl, bI⟩)
          | (rw [show min (1000 * u) (l + r * (now - t)) = l + r * (now - t) by omega]
             exact bodyPost_ret (v := bv r u (l + r * (now - t)) now) (by simp [results, Tryz.results96, go_sem, bv, hc1]) rfl ⟨rfl, bI⟩)
      · have HF := Lib.hid (show refill ⟨r, u, l, t⟩ now = ⟨r, u, l, t⟩ by simp [refill, hlt])
        rw [HF.out]
        go_enter Tryz.func96, Tryz.ntmps96
        go_wp2_with (first
          | (go_at_call 56; refine (H1.out _).mono ?_; rw [hv]; rintro e w1 ⟨rfl, hb1⟩; have hc1 := hb1.cellAt; have hf1 := hb1.frozenAt)
          | (go_at_call 86; refine (H2.out _).mono ?_; rw [ht]; rintro e w2 ⟨rfl, rfl⟩))
        exact bodyPost_ret (v := bv r u l t) (by simp [results, Tryz.results96, go_sem, bv, hc1]) rfl ⟨rfl, bI⟩

set_option maxHeartbeats 2000000 in
theorem refRefill_any (r u l t now : Int) (w : World) :
    Calls Tryz.prog 82 #[.agg #[.int .i64 r, .int .i64 u, .int .i64 l, .int .i64 t], .int .i64 now] w fun e w' => e = .returned (bv (refill ⟨r, u, l, t⟩ now).rate (refill ⟨r, u, l, t⟩ now).burst (refill ⟨r, u, l, t⟩ now).level (refill ⟨r, u, l, t⟩ now).last) ∧ Bel w w' := by
  have H1 := Lib.hid (refBucket_any r u l t)
  have H2 := Lib.hid (refEarly_any now)
  cases hv : bkOk ⟨r, u, l, t⟩
  · have HF := Lib.hid (show refill ⟨r, u, l, t⟩ now = ⟨r, u, l, t⟩ by simp [refill, hv])
    rw [HF.out]
    go_enter Tryz.func82, Tryz.ntmps82
    go_wp2_with (go_at_call 80; refine (H1.out _).mono ?_; rw [hv]; rintro e w1 ⟨rfl, hb1⟩; have hc1 := hb1.cellAt; have hf1 := hb1.frozenAt)
    exact bodyPost_ret (v := bv r u l t) (by simp [results, Tryz.results82, go_sem, bv, hc1]) rfl ⟨rfl, bI⟩
  · obtain ⟨⟨b1, b2, b3, b4, b5, b6⟩, b7, b8⟩ := bkOk_iff.1 hv
    cases ht : tickB now
    · have HF := Lib.hid (show refill ⟨r, u, l, t⟩ now = ⟨r, u, l, t⟩ by simp [refill, ht])
      rw [HF.out]
      go_enter Tryz.func82, Tryz.ntmps82
      go_wp2_with (first
        | (go_at_call 80; refine (H1.out _).mono ?_; rw [hv]; rintro e w1 ⟨rfl, hb1⟩; have hc1 := hb1.cellAt; have hf1 := hb1.frozenAt)
        | (go_at_call 81; refine (H2.out _).mono ?_; rw [ht]; rintro e w2 ⟨rfl, rfl⟩))
      exact bodyPost_ret (v := bv r u l t) (by simp [results, Tryz.results82, go_sem, bv, hc1]) rfl ⟨rfl, bI⟩
    · obtain ⟨n1, n2⟩ := tickB_iff.1 ht
      by_cases hlt : t < now
      · have HF := Lib.hid (show refill ⟨r, u, l, t⟩ now = ⟨r, u, min (1000 * u) (l + r * (now - t)), now⟩ by simp [refill, hv, ht, hlt])
        rw [HF.out]
        obtain ⟨m1, m2⟩ := mul_fit b1 b2 (show 0 ≤ now - t by omega) (show now - t ≤ 1099511627776 by omega)
        go_enter Tryz.func82, Tryz.ntmps82
        go_wp2_with fail
        refine (H1.out _).mono ?_; rw [hv]; rintro e w1 ⟨rfl, hb1⟩
        have hc1 := hb1.cellAt
        have hf1 := hb1.frozenAt
        have c0a : w1.cell? ⟨w.heap.size, 0, none⟩ = some (.int .i64 r) := by rw [hb1.cellAt _ _ (by first | (simp; done) | (simp; omega))]; simp [go_sem]
        have c1a : w1.cell? ⟨w.heap.size, 1, none⟩ = some (.int .i64 u) := by rw [hb1.cellAt _ _ (by first | (simp; done) | (simp; omega))]; simp [go_sem]
        have c2a : w1.cell? ⟨w.heap.size, 2, none⟩ = some (.int .i64 l) := by rw [hb1.cellAt _ _ (by first | (simp; done) | (simp; omega))]; simp [go_sem]
        have c3a : w1.cell? ⟨w.heap.size, 3, none⟩ = some (.int .i64 t) := by rw [hb1.cellAt _ _ (by first | (simp; done) | (simp; omega))]; simp [go_sem]
        go_wp2_with (go_at_call 81; refine (H2.out _).mono ?_; rw [ht]; rintro e w2 ⟨rfl, rfl⟩)
        all_goals
          first
          | (rw [show min (1000 * u) (l + r * (now - t)) = 1000 * u by omega]
             exact bodyPost_ret (v := bv r u (1000 * u) now) (by simp [results, Tryz.results82, go_sem, bv, hc1]) rfl ⟨rfl, bI⟩)
          | (rw [show min (1000 * u) (l + r * (now - t)) = l + r * (now - t) by omega]
             exact bodyPost_ret (v := bv r u (l + r * (now - t)) now) (by simp [results, Tryz.results82, go_sem, bv, hc1]) rfl ⟨rfl, bI⟩)
      · have HF := Lib.hid (show refill ⟨r, u, l, t⟩ now = ⟨r, u, l, t⟩ by simp [refill, hlt])
        rw [HF.out]
        go_enter Tryz.func82, Tryz.ntmps82
        go_wp2_with (first
          | (go_at_call 80; refine (H1.out _).mono ?_; rw [hv]; rintro e w1 ⟨rfl, hb1⟩; have hc1 := hb1.cellAt; have hf1 := hb1.frozenAt)
          | (go_at_call 81; refine (H2.out _).mono ?_; rw [ht]; rintro e w2 ⟨rfl, rfl⟩))
        exact bodyPost_ret (v := bv r u l t) (by simp [results, Tryz.results82, go_sem, bv, hc1]) rfl ⟨rfl, bI⟩
end Go.Proofs.YtpgjbocjhconoaaGreat

/- The contracts of Take and When, of the program and of the reference. -/
namespace Go.Proofs.YtpgjbocjhconoaaGreat
open Go.RowKit

def rightB (b : Bk) (now n : Int) : Bool := bkOk b && tickB now && decide (0 ≤ n ∧ n ≤ 128)
def takeB (b : Bk) (now n : Int) : Bk × Bool :=
  if rightB b now n then
    if b.rate = 0 then (b, true)
    else if (refill b now).level < 1000 * n then (b, false)
    else (⟨b.rate, b.burst, (refill b now).level - 1000 * n, (refill b now).last⟩, true)
  else (b, false)

theorem refill_rate (b : Bk) (now : Int) : (refill b now).rate = b.rate := by unfold refill; split <;> rfl
theorem refill_burst (b : Bk) (now : Int) : (refill b now).burst = b.burst := by unfold refill; split <;> rfl
theorem refill_ok {r u l t now : Int} (h : bkOk ⟨r, u, l, t⟩ = true) : 0 ≤ (refill ⟨r, u, l, t⟩ now).level ∧ (refill ⟨r, u, l, t⟩ now).level ≤ 1000 * u ∧ 0 ≤ (refill ⟨r, u, l, t⟩ now).last ∧ (refill ⟨r, u, l, t⟩ now).last ≤ 1099511627776 := by
  obtain ⟨⟨b1, b2, b3, b4, b5, b6⟩, b7, b8⟩ := bkOk_iff.1 h
  unfold refill
  split
  · rename_i hc
    simp only [h, Bool.true_and, Bool.and_eq_true, decide_eq_true_eq] at hc
    obtain ⟨n1, n2⟩ := tickB_iff.1 hc.1
    have m1 := Int.mul_nonneg b1 (show 0 ≤ now - t by omega)
    simp only
    omega
  · simp only; omega

set_option maxHeartbeats 1000000 in
theorem tokRight_any (r u l t now n : Int) (w : World) :
    Calls Tryz.prog 85 #[.agg #[.int .i64 r, .int .i64 u, .int .i64 l, .int .i64 t], .int .i64 now, .int .i64 n] w fun e w' => e = .returned (.bool (rightB ⟨r, u, l, t⟩ now n)) ∧ Bel w w' := by
  have H1 := Lib.hid (tokValid_any r u l t)
  have H2 := Lib.hid (tokTick_any now)
  cases hv : bkOk ⟨r, u, l, t⟩ <;> cases ht : tickB now
  all_goals
    go_enter Tryz.func85, Tryz.ntmps85
    go_wp2_with (first
      | (go_at_call 56; refine (H1.out _).mono ?_; rw [hv]; rintro e w1 ⟨rfl, hb1⟩; have hc1 := hb1.cellAt)
      | (go_at_call 86; refine (H2.out _).mono ?_; rw [ht]; rintro e w2 ⟨rfl, rfl⟩))
    all_goals
      go_ret
      exact ⟨ret_bool (by first | (simp [rightB, *]; done) | (simp [rightB, *]; omega) | (simp [rightB]; omega) | (rw [Bool.eq_iff_iff]; simp [rightB, *]; omega)), bI⟩

set_option maxHeartbeats 2000000 in
theorem tokTake_any (r u l t now n : Int) (w : World) :
    Calls Tryz.prog 75 #[.agg #[.int .i64 r, .int .i64 u, .int .i64 l, .int .i64 t], .int .i64 now, .int .i64 n] w fun e w' =>
      e = .returned (.tuple #[bv (takeB ⟨r, u, l, t⟩ now n).1.rate (takeB ⟨r, u, l, t⟩ now n).1.burst (takeB ⟨r, u, l, t⟩ now n).1.level (takeB ⟨r, u, l, t⟩ now n).1.last, .bool (takeB ⟨r, u, l, t⟩ now n).2]) ∧ Bel w w' := by
  have H1 := Lib.hid (tokRight_any r u l t now n)
  cases hr : rightB ⟨r, u, l, t⟩ now n
  · have HF := Lib.hid (show takeB ⟨r, u, l, t⟩ now n = (⟨r, u, l, t⟩, false) by simp [takeB, hr])
    rw [HF.out]
    go_enter Tryz.func75, Tryz.ntmps75
    go_wp2_with (first
        | (go_at_call 85; refine (H1.out _).mono ?_; rw [hr]; rintro e w1 ⟨rfl, hb1⟩; have hc1 := hb1.cellAt; have hf1 := hb1.frozenAt; have hs1 : w.heap.size + 1 < w1.heap.size := (by have := hb1.size; simp at this; omega); have hs2 : w.heap.size < w1.heap.size := (by omega)))
    exact bodyPost_ret (v := .tuple #[bv r u l t, .bool false]) (by simp [results, Tryz.results75, go_sem, bv, hc1]) rfl ⟨rfl, bI⟩
  · have hr2 := hr
    simp only [rightB, Bool.and_eq_true, decide_eq_true_eq] at hr2
    obtain ⟨⟨hv, ht⟩, n1, n2⟩ := hr2
    obtain ⟨⟨b1, b2, b3, b4, b5, b6⟩, b7, b8⟩ := bkOk_iff.1 hv
    by_cases h0 : r = 0
    · subst h0
      have HF := Lib.hid (show takeB ⟨0, u, l, t⟩ now n = (⟨0, u, l, t⟩, true) by simp [takeB, hr])
      rw [HF.out]
      go_enter Tryz.func75, Tryz.ntmps75
      go_wp2_with (first
        | (go_at_call 85; refine (H1.out _).mono ?_; rw [hr]; rintro e w1 ⟨rfl, hb1⟩; have hc1 := hb1.cellAt; have hf1 := hb1.frozenAt; have hs1 : w.heap.size + 1 < w1.heap.size := (by have := hb1.size; simp at this; omega); have hs2 : w.heap.size < w1.heap.size := (by omega)))
      exact bodyPost_ret (v := .tuple #[bv 0 u l t, .bool true]) (by simp [results, Tryz.results75, go_sem, bv, hc1]) rfl ⟨rfl, bI⟩
    · have h0' : (r == 0) = false := by simpa using h0
      have H0 := Lib.hid h0
      clear h0
      have hR := tokRefill_any r u l t now
      obtain ⟨f1, f2, f3, f4⟩ := refill_ok (now := now) hv
      have hT : takeB ⟨r, u, l, t⟩ now n = if (refill ⟨r, u, l, t⟩ now).level < 1000 * n then (⟨r, u, l, t⟩, false) else (⟨r, u, (refill ⟨r, u, l, t⟩ now).level - 1000 * n, (refill ⟨r, u, l, t⟩ now).last⟩, true) := by simp [takeB, hr, H0.out]
      simp only [refill_rate, refill_burst] at hR
      generalize (refill ⟨r, u, l, t⟩ now).level = L at hR hT f1 f2
      generalize (refill ⟨r, u, l, t⟩ now).last = T at hR hT f3 f4
      have HR := Lib.hid hR
      clear hR
      by_cases hL : L < 1000 * n
      · rw [if_pos hL] at hT
        rw [hT]
        clear hT
        go_enter Tryz.func75, Tryz.ntmps75
        go_wp2_with (first
        | (go_at_call 85; refine (H1.out _).mono ?_; rw [hr]; rintro e w1 ⟨rfl, hb1⟩; have hc1 := hb1.cellAt; have hf1 := hb1.frozenAt; have hs1 : w.heap.size + 1 < w1.heap.size := (by have := hb1.size; simp at this; omega); have hs2 : w.heap.size < w1.heap.size := (by omega))
          | (go_at_call 96; refine (HR.out _).mono ?_; rintro e w3 ⟨rfl, hb3⟩; unfold bv; have hc3 := hb3.cellAt; have hf3 := hb3.frozenAt; have hs3 := hb3.size; have hs4 : w.heap.size < w3.heap.size := (by omega); have hs5 : w.heap.size + 1 < w3.heap.size := (by omega)))
        exact bodyPost_ret (v := .tuple #[bv r u l t, .bool false]) (by simp [results, Tryz.results75, go_sem, bv, hc1, hc3, hs1, hs5]) rfl ⟨rfl, bI⟩
      · rw [if_neg hL] at hT
        rw [hT]
        clear hT
        go_enter Tryz.func75, Tryz.ntmps75
        go_wp2_with (first
        | (go_at_call 85; refine (H1.out _).mono ?_; rw [hr]; rintro e w1 ⟨rfl, hb1⟩; have hc1 := hb1.cellAt; have hf1 := hb1.frozenAt; have hs1 : w.heap.size + 1 < w1.heap.size := (by have := hb1.size; simp at this; omega); have hs2 : w.heap.size < w1.heap.size := (by omega))
          | (go_at_call 96; refine (HR.out _).mono ?_; rintro e w3 ⟨rfl, hb3⟩; unfold bv; have hc3 := hb3.cellAt; have hf3 := hb3.frozenAt; have hs3 := hb3.size; have hs4 : w.heap.size < w3.heap.size := (by omega); have hs5 : w.heap.size + 1 < w3.heap.size := (by omega)))
        exact bodyPost_ret (v := .tuple #[bv r u (L - 1000 * n) T, .bool true]) (by simp [results, Tryz.results75, go_sem, bv, hc1, hc3, hs1, hs5]) rfl ⟨rfl, bI⟩

set_option maxHeartbeats 2000000 in
theorem refTake_any (r u l t now n : Int) (w : World) :
    Calls Tryz.prog 42 #[.agg #[.int .i64 r, .int .i64 u, .int .i64 l, .int .i64 t], .int .i64 now, .int .i64 n] w fun e w' =>
      e = .returned (.tuple #[bv (takeB ⟨r, u, l, t⟩ now n).1.rate (takeB ⟨r, u, l, t⟩ now n).1.burst (takeB ⟨r, u, l, t⟩ now n).1.level (takeB ⟨r, u, l, t⟩ now n).1.last, .bool (takeB ⟨r, u, l, t⟩ now n).2]) ∧ Bel w w' := by
  have H1 := Lib.hid (refBucket_any r u l t)
  have H2 := Lib.hid (refEarly_any now)
  cases hr : rightB ⟨r, u, l, t⟩ now n
  · have HF := Lib.hid (show takeB ⟨r, u, l, t⟩ now n = (⟨r, u, l, t⟩, false) by simp [takeB, hr])
    rw [HF.out]
    have hr2 := hr
    simp only [rightB, Bool.and_eq_false_iff, decide_eq_false_iff_not] at hr2
    cases hv : bkOk ⟨r, u, l, t⟩
    · go_enter Tryz.func42, Tryz.ntmps42
      go_wp2_with (first
        | (go_at_call 80; refine (H1.out _).mono ?_; rw [hv]; rintro e w1 ⟨rfl, hb1⟩; have hc1 := hb1.cellAt; have hf1 := hb1.frozenAt; have hs1 : w.heap.size + 1 < w1.heap.size := (by have := hb1.size; simp at this; omega); have hs2 : w.heap.size < w1.heap.size := (by omega))
        | (go_at_call 81; refine (H2.out _).mono ?_; rw [ht]; rintro e w2 ⟨rfl, rfl⟩))
      exact bodyPost_ret (v := .tuple #[bv r u l t, .bool false]) (by simp [results, Tryz.results42, go_sem, bv, hc1]) rfl ⟨rfl, bI⟩
    · cases ht : tickB now
      · go_enter Tryz.func42, Tryz.ntmps42
        go_wp2_with (first
        | (go_at_call 80; refine (H1.out _).mono ?_; rw [hv]; rintro e w1 ⟨rfl, hb1⟩; have hc1 := hb1.cellAt; have hf1 := hb1.frozenAt; have hs1 : w.heap.size + 1 < w1.heap.size := (by have := hb1.size; simp at this; omega); have hs2 : w.heap.size < w1.heap.size := (by omega))
        | (go_at_call 81; refine (H2.out _).mono ?_; rw [ht]; rintro e w2 ⟨rfl, rfl⟩))
        exact bodyPost_ret (v := .tuple #[bv r u l t, .bool false]) (by simp [results, Tryz.results42, go_sem, bv, hc1]) rfl ⟨rfl, bI⟩
      · have hn : n < 0 ∨ 0 ≤ n ∧ 128 < n := by rw [hv, ht] at hr2; simp at hr2; omega
        clear hr2
        rcases hn with hn | ⟨hn, hn2⟩
        all_goals
          go_enter Tryz.func42, Tryz.ntmps42
          go_wp2_with (first
        | (go_at_call 80; refine (H1.out _).mono ?_; rw [hv]; rintro e w1 ⟨rfl, hb1⟩; have hc1 := hb1.cellAt; have hf1 := hb1.frozenAt; have hs1 : w.heap.size + 1 < w1.heap.size := (by have := hb1.size; simp at this; omega); have hs2 : w.heap.size < w1.heap.size := (by omega))
        | (go_at_call 81; refine (H2.out _).mono ?_; rw [ht]; rintro e w2 ⟨rfl, rfl⟩))
          exact bodyPost_ret (v := .tuple #[bv r u l t, .bool false]) (by simp [results, Tryz.results42, go_sem, bv, hc1]) rfl ⟨rfl, bI⟩
  · have hr2 := hr
    simp only [rightB, Bool.and_eq_true, decide_eq_true_eq] at hr2
    obtain ⟨⟨hv, ht⟩, n1, n2⟩ := hr2
    obtain ⟨⟨b1, b2, b3, b4, b5, b6⟩, b7, b8⟩ := bkOk_iff.1 hv
    by_cases h0 : r = 0
    · subst h0
      have HF := Lib.hid (show takeB ⟨0, u, l, t⟩ now n = (⟨0, u, l, t⟩, true) by simp [takeB, hr])
      rw [HF.out]
      go_enter Tryz.func42, Tryz.ntmps42
      go_wp2_with (first
        | (go_at_call 80; refine (H1.out _).mono ?_; rw [hv]; rintro e w1 ⟨rfl, hb1⟩; have hc1 := hb1.cellAt; have hf1 := hb1.frozenAt; have hs1 : w.heap.size + 1 < w1.heap.size := (by have := hb1.size; simp at this; omega); have hs2 : w.heap.size < w1.heap.size := (by omega))
        | (go_at_call 81; refine (H2.out _).mono ?_; rw [ht]; rintro e w2 ⟨rfl, rfl⟩))
      exact bodyPost_ret (v := .tuple #[bv 0 u l t, .bool true]) (by simp [results, Tryz.results42, go_sem, bv, hc1]) rfl ⟨rfl, bI⟩
    · have h0' : (r == 0) = false := by simpa using h0
      have H0 := Lib.hid h0
      clear h0
      have hR := refRefill_any r u l t now
      obtain ⟨f1, f2, f3, f4⟩ := refill_ok (now := now) hv
      have hT : takeB ⟨r, u, l, t⟩ now n = if (refill ⟨r, u, l, t⟩ now).level < 1000 * n then (⟨r, u, l, t⟩, false) else (⟨r, u, (refill ⟨r, u, l, t⟩ now).level - 1000 * n, (refill ⟨r, u, l, t⟩ now).last⟩, true) := by simp [takeB, hr, H0.out]
      simp only [refill_rate, refill_burst] at hR
      generalize (refill ⟨r, u, l, t⟩ now).level = L at hR hT f1 f2
      generalize (refill ⟨r, u, l, t⟩ now).last = T at hR hT f3 f4
      have HR := Lib.hid hR
      clear hR
      by_cases hL : L < 1000 * n
      · rw [if_pos hL] at hT
        rw [hT]
        clear hT
        go_enter Tryz.func42, Tryz.ntmps42
        go_wp2_with (first
        | (go_at_call 80; refine (H1.out _).mono ?_; rw [hv]; rintro e w1 ⟨rfl, hb1⟩; have hc1 := hb1.cellAt; have hf1 := hb1.frozenAt; have hs1 : w.heap.size + 1 < w1.heap.size := (by have := hb1.size; simp at this; omega); have hs2 : w.heap.size < w1.heap.size := (by omega))
        | (go_at_call 81; refine (H2.out _).mono ?_; rw [ht]; rintro e w2 ⟨rfl, rfl⟩)
          | (go_at_call 82; refine (HR.out _).mono ?_; rintro e w3 ⟨rfl, hb3⟩; unfold bv; have hc3 := hb3.cellAt; have hf3 := hb3.frozenAt; have hs3 := hb3.size; have hs4 : w.heap.size < w3.heap.size := (by omega); have hs5 : w.heap.size + 1 < w3.heap.size := (by omega)))
        exact bodyPost_ret (v := .tuple #[bv r u l t, .bool false]) (by simp [results, Tryz.results42, go_sem, bv, hc1, hc3, hs1, hs5]) rfl ⟨rfl, bI⟩
      · rw [if_neg hL] at hT
        rw [hT]
        clear hT
        go_enter Tryz.func42, Tryz.ntmps42
        go_wp2_with (first
        | (go_at_call 80; refine (H1.out _).mono ?_; rw [hv]; rintro e w1 ⟨rfl, hb1⟩; have hc1 := hb1.cellAt; have hf1 := hb1.frozenAt; have hs1 : w.heap.size + 1 < w1.heap.size := (by have := hb1.size; simp at this; omega); have hs2 : w.heap.size < w1.heap.size := (by omega))
        | (go_at_call 81; refine (H2.out _).mono ?_; rw [ht]; rintro e w2 ⟨rfl, rfl⟩)
          | (go_at_call 82; refine (HR.out _).mono ?_; rintro e w3 ⟨rfl, hb3⟩; unfold bv; have hc3 := hb3.cellAt; have hf3 := hb3.frozenAt; have hs3 := hb3.size; have hs4 : w.heap.size < w3.heap.size := (by omega); have hs5 : w.heap.size + 1 < w3.heap.size := (by omega)))
        exact bodyPost_ret (v := .tuple #[bv r u (L - 1000 * n) T, .bool true]) (by simp [results, Tryz.results42, go_sem, bv, hc1, hc3, hs1, hs5]) rfl ⟨rfl, bI⟩
end Go.Proofs.YtpgjbocjhconoaaGreat

/- The contracts of When, of the program and of the reference; awake, made. -/
namespace Go.Proofs.YtpgjbocjhconoaaGreat
open Go.RowKit

def whenB (b : Bk) (now n : Int) : Int × Bool :=
  if rightB b now n && !(decide (b.rate ≠ 0 ∧ b.burst < n)) then
    if b.rate = 0 ∨ 1000 * n ≤ (refill b now).level then (now, true)
    else if tickB (b.last + (1000 * n - b.level + b.rate - 1) / b.rate) then (b.last + (1000 * n - b.level + b.rate - 1) / b.rate, true)
    else (0, false)
  else (0, false)

/-- What the time comes to: not ahead of now, and no overflow. -/
theorem when_facts {r u l t now n : Int} (hr : rightB ⟨r, u, l, t⟩ now n = true) (h0 : r ≠ 0) (hn : n ≤ u) (hL : (refill ⟨r, u, l, t⟩ now).level < 1000 * n) :
    now ≤ t + (1000 * n - l + r - 1) / r ∧ 0 ≤ 1000 * n - l + r - 1 ∧ 0 ≤ (1000 * n - l + r - 1) / r ∧ (1000 * n - l + r - 1) / r ≤ 228000 := by
  simp only [rightB, Bool.and_eq_true, decide_eq_true_eq] at hr
  obtain ⟨⟨hv, ht⟩, n1, n2⟩ := hr
  obtain ⟨⟨b1, b2, b3, b4, b5, b6⟩, b7, b8⟩ := bkOk_iff.1 hv
  have hrp : 0 < r := by omega
  have e1 := Int.mul_ediv_add_emod (1000 * n - l + r - 1) r
  have e2 := Int.emod_nonneg (1000 * n - l + r - 1) h0
  have e3 := Int.emod_lt_of_pos (1000 * n - l + r - 1) hrp
  generalize hq : (1000 * n - l + r - 1) / r = q at *
  have hll : l < 1000 * n := by
    unfold refill at hL
    split at hL
    · rename_i hc
      simp only [hv, Bool.true_and, Bool.and_eq_true, decide_eq_true_eq] at hc
      have m1 := Int.mul_nonneg b1 (show 0 ≤ now - t by omega)
      simp only at hL
      omega
    · simpa using hL
  have q0 : 0 ≤ q := by rw [← hq]; exact Int.ediv_nonneg (by omega) (by omega)
  have q1 : q ≤ 228000 := by
    have : q ≤ r * q := by
      have := Int.mul_le_mul_of_nonneg_right (show (1 : Int) ≤ r by omega) q0
      omega
    omega
  refine ⟨?_, by omega, q0, q1⟩
  by_cases hlt : t < now
  · unfold refill at hL
    rw [if_pos (by simp [hv, ht, hlt])] at hL
    simp only at hL
    have hL2 : l + r * (now - t) < 1000 * n := by omega
    have h3 : now - t ≤ q := by
      rcases Int.lt_or_le q (now - t) with h | h
      · have h4 := Int.mul_le_mul_of_nonneg_left (show q + 1 ≤ now - t by omega) (Int.le_of_lt hrp)
        rw [Int.mul_add] at h4
        omega
      · exact h
    omega
  · omega

set_option maxHeartbeats 2000000 in
theorem tokWhen_any (r u l t now n : Int) (w : World) :
    Calls Tryz.prog 49 #[.agg #[.int .i64 r, .int .i64 u, .int .i64 l, .int .i64 t], .int .i64 now, .int .i64 n] w fun e w' =>
      e = .returned (.tuple #[.int .i64 (whenB ⟨r, u, l, t⟩ now n).1, .bool (whenB ⟨r, u, l, t⟩ now n).2]) ∧ Bel w w' := by
  have H1 := Lib.hid (tokRight_any r u l t now n)
  cases hr : rightB ⟨r, u, l, t⟩ now n
  · have HF := Lib.hid (show whenB ⟨r, u, l, t⟩ now n = (0, false) by simp [whenB, hr])
    rw [HF.out]
    go_enter Tryz.func49, Tryz.ntmps49
    go_wp2_with (go_at_call 85; refine (H1.out _).mono ?_; rw [hr]; rintro e w1 ⟨rfl, hb1⟩; have hc1 := hb1.cellAt)
    go_ret2
    exact ⟨rfl, bI⟩
  · have hr2 := hr
    simp only [rightB, Bool.and_eq_true, decide_eq_true_eq] at hr2
    obtain ⟨⟨hv, ht⟩, n1, n2⟩ := hr2
    obtain ⟨⟨b1, b2, b3, b4, b5, b6⟩, b7, b8⟩ := bkOk_iff.1 hv
    by_cases hx : r ≠ 0 ∧ u < n
    · have HF := Lib.hid (show whenB ⟨r, u, l, t⟩ now n = (0, false) by simp [whenB, hr, hx])
      obtain ⟨hx1, hx2⟩ := hx
      have h0 : (r != 0) = true := by simpa using hx1
      clear hx1
      rw [HF.out]
      go_enter Tryz.func49, Tryz.ntmps49
      go_wp2_with (go_at_call 85; refine (H1.out _).mono ?_; rw [hr]; rintro e w1 ⟨rfl, hb1⟩; have hc1 := hb1.cellAt)
      go_ret2
      exact ⟨rfl, bI⟩
    · have hW : whenB ⟨r, u, l, t⟩ now n = if r = 0 ∨ 1000 * n ≤ (refill ⟨r, u, l, t⟩ now).level then (now, true) else if tickB (t + (1000 * n - l + r - 1) / r) then (t + (1000 * n - l + r - 1) / r, true) else (0, false) := by
        simp only [whenB, hr, Bool.true_and]
        rw [if_pos (by simp; omega)]
      have HT := Lib.hid (tokTake_any r u l t now n)
      by_cases h0 : r = 0
      · subst h0
        have hT : takeB ⟨0, u, l, t⟩ now n = (⟨0, u, l, t⟩, true) := by simp [takeB, hr]
        rw [hW, if_pos (.inl rfl)]
        have HT' := Lib.hid hT
        clear hW hT hx
        go_enter Tryz.func49, Tryz.ntmps49
        go_wp2_with (first
          | (go_at_call 85; refine (H1.out _).mono ?_; rw [hr]; rintro e w1 ⟨rfl, hb1⟩; have hc1 := hb1.cellAt)
          | (go_at_call 75; refine (HT.out _).mono ?_; rw [HT'.out]; unfold bv; rintro e w2 ⟨rfl, hb2⟩))
        go_ret2
        exact ⟨rfl, bI⟩
      · have hnu : n ≤ u := by omega
        have h0b : (r != 0) = true := by simpa using h0
        by_cases hL : (refill ⟨r, u, l, t⟩ now).level < 1000 * n
        · have hT : takeB ⟨r, u, l, t⟩ now n = (⟨r, u, l, t⟩, false) := by simp [takeB, hr, h0, hL]
          obtain ⟨k1, k2, k3, k4⟩ := when_facts hr h0 hnu hL
          rw [hW, if_neg (by omega)]
          have HT' := Lib.hid hT
          have H2 := Lib.hid (tokTick_any (t + (1000 * n - l + r - 1) / r))
          have hrp : 0 < r := by omega
          clear hW hT hx hL h0
          cases hk : tickB (t + (1000 * n - l + r - 1) / r)
          all_goals
            simp only [Bool.false_eq_true, if_false, if_true]
            go_enter Tryz.func49, Tryz.ntmps49
            go_wp2_with (first
              | (go_at_call 85; refine (H1.out _).mono ?_; rw [hr]; rintro e w1 ⟨rfl, hb1⟩; have hc1 := hb1.cellAt; have hs2 : w.heap.size < w1.heap.size := (by have := hb1.size; simp at this; omega))
              | (go_at_call 75; refine (HT.out _).mono ?_; rw [HT'.out]; unfold bv; rintro e w2 ⟨rfl, hb2⟩; have hc2 := hb2.cellAt; have hs3 : w.heap.size < w2.heap.size := (by have := hb2.size; omega)))
            go_quiet (fail)
            go_wp2_with (go_at_call 86; refine (H2.out _).mono ?_; rw [hk]; rintro e w3 ⟨rfl, rfl⟩)
            go_ret2
            exact ⟨rfl, bI⟩
        · have hT : takeB ⟨r, u, l, t⟩ now n = (⟨r, u, (refill ⟨r, u, l, t⟩ now).level - 1000 * n, (refill ⟨r, u, l, t⟩ now).last⟩, true) := by simp [takeB, hr, h0, hL]
          rw [hW, if_pos (.inr (by omega))]
          have HT' := Lib.hid hT
          clear hW hT hx hL h0
          go_enter Tryz.func49, Tryz.ntmps49
          go_wp2_with (first
            | (go_at_call 85; refine (H1.out _).mono ?_; rw [hr]; rintro e w1 ⟨rfl, hb1⟩; have hc1 := hb1.cellAt)
            | (go_at_call 75; refine (HT.out _).mono ?_; rw [HT'.out]; unfold bv; rintro e w2 ⟨rfl, hb2⟩))
          go_ret2
          exact ⟨rfl, bI⟩

@[local go_sem] theorem field_bk2 (a b c d : Int) (w : World) : (Instr.field 54 (.agg #[.int .i64 a, .int .i64 b, .int .i64 c, .int .i64 d]) 2).run Tryz.prog w = .ok (.int .i64 c) w := by kernel_rfl

set_option maxHeartbeats 2000000 in
theorem refWhen_any (r u l t now n : Int) (w : World) :
    Calls Tryz.prog 52 #[.agg #[.int .i64 r, .int .i64 u, .int .i64 l, .int .i64 t], .int .i64 now, .int .i64 n] w fun e w' =>
      e = .returned (.tuple #[.int .i64 (whenB ⟨r, u, l, t⟩ now n).1, .bool (whenB ⟨r, u, l, t⟩ now n).2]) ∧ Bel w w' := by
  have H1 := Lib.hid (refBucket_any r u l t)
  have H2 := Lib.hid (refEarly_any now)
  cases hr : rightB ⟨r, u, l, t⟩ now n
  · have HF := Lib.hid (show whenB ⟨r, u, l, t⟩ now n = (0, false) by simp [whenB, hr])
    rw [HF.out]
    have hr2 := hr
    simp only [rightB, Bool.and_eq_false_iff, decide_eq_false_iff_not] at hr2
    cases hv : bkOk ⟨r, u, l, t⟩
    · go_enter Tryz.func52, Tryz.ntmps52
      go_wp2_with (first
          | (go_at_call 80; refine (H1.out _).mono ?_; rw [hv]; rintro e w1 ⟨rfl, hb1⟩; have hc1 := hb1.cellAt; have hs2 : w.heap.size < w1.heap.size := (by have := hb1.size; simp at this; omega))
          | (go_at_call 81; refine (H2.out _).mono ?_; rw [ht]; rintro e w2 ⟨rfl, rfl⟩))
      go_ret2
      exact ⟨rfl, bI⟩
    · cases ht : tickB now
      · go_enter Tryz.func52, Tryz.ntmps52
        go_wp2_with (first
          | (go_at_call 80; refine (H1.out _).mono ?_; rw [hv]; rintro e w1 ⟨rfl, hb1⟩; have hc1 := hb1.cellAt; have hs2 : w.heap.size < w1.heap.size := (by have := hb1.size; simp at this; omega))
          | (go_at_call 81; refine (H2.out _).mono ?_; rw [ht]; rintro e w2 ⟨rfl, rfl⟩))
        go_ret2
        exact ⟨rfl, bI⟩
      · have hn : n < 0 ∨ 0 ≤ n ∧ 128 < n := by rw [hv, ht] at hr2; simp at hr2; omega
        clear hr2
        rcases hn with hn | ⟨hn, hn2⟩
        all_goals
          go_enter Tryz.func52, Tryz.ntmps52
          go_wp2_with (first
          | (go_at_call 80; refine (H1.out _).mono ?_; rw [hv]; rintro e w1 ⟨rfl, hb1⟩; have hc1 := hb1.cellAt; have hs2 : w.heap.size < w1.heap.size := (by have := hb1.size; simp at this; omega))
          | (go_at_call 81; refine (H2.out _).mono ?_; rw [ht]; rintro e w2 ⟨rfl, rfl⟩))
          go_ret2
          exact ⟨rfl, bI⟩
  · have hr2 := hr
    simp only [rightB, Bool.and_eq_true, decide_eq_true_eq] at hr2
    obtain ⟨⟨hv, ht⟩, n1, n2⟩ := hr2
    obtain ⟨⟨b1, b2, b3, b4, b5, b6⟩, b7, b8⟩ := bkOk_iff.1 hv
    by_cases hx : r ≠ 0 ∧ u < n
    · have HF := Lib.hid (show whenB ⟨r, u, l, t⟩ now n = (0, false) by simp [whenB, hr, hx])
      obtain ⟨hx1, hx2⟩ := hx
      have h0 : (r != 0) = true := by simpa using hx1
      clear hx1
      rw [HF.out]
      go_enter Tryz.func52, Tryz.ntmps52
      go_wp2_with (first
          | (go_at_call 80; refine (H1.out _).mono ?_; rw [hv]; rintro e w1 ⟨rfl, hb1⟩; have hc1 := hb1.cellAt; have hs2 : w.heap.size < w1.heap.size := (by have := hb1.size; simp at this; omega))
          | (go_at_call 81; refine (H2.out _).mono ?_; rw [ht]; rintro e w2 ⟨rfl, rfl⟩))
      go_ret2
      exact ⟨rfl, bI⟩
    · have hW : whenB ⟨r, u, l, t⟩ now n = if r = 0 ∨ 1000 * n ≤ (refill ⟨r, u, l, t⟩ now).level then (now, true) else if tickB (t + (1000 * n - l + r - 1) / r) then (t + (1000 * n - l + r - 1) / r, true) else (0, false) := by
        simp only [whenB, hr, Bool.true_and]
        rw [if_pos (by simp; omega)]
      by_cases h0 : r = 0
      · subst h0
        rw [hW, if_pos (.inl rfl)]
        clear hW hx
        go_enter Tryz.func52, Tryz.ntmps52
        go_wp2_with (first
          | (go_at_call 80; refine (H1.out _).mono ?_; rw [hv]; rintro e w1 ⟨rfl, hb1⟩; have hc1 := hb1.cellAt; have hs2 : w.heap.size < w1.heap.size := (by have := hb1.size; simp at this; omega))
          | (go_at_call 81; refine (H2.out _).mono ?_; rw [ht]; rintro e w2 ⟨rfl, rfl⟩))
        go_ret2
        exact ⟨rfl, bI⟩
      · have hnu : n ≤ u := by omega
        have h0b : (r != 0) = true := by simpa using h0
        have h0c : (r == 0) = false := by simpa using h0
        have hR := refRefill_any r u l t now
        simp only [refill_rate, refill_burst] at hR
        by_cases hL : (refill ⟨r, u, l, t⟩ now).level < 1000 * n
        · obtain ⟨k1, k2, k3, k4⟩ := when_facts hr h0 hnu hL
          rw [hW, if_neg (by omega)]
          have H3 := Lib.hid (refEarly_any (t + (1000 * n - l + r - 1) / r))
          have hrp : 0 < r := by omega
          generalize (refill ⟨r, u, l, t⟩ now).level = L at hR hL
          generalize (refill ⟨r, u, l, t⟩ now).last = T at hR
          have HR := Lib.hid hR
          clear hW hx h0 hR
          cases hk : tickB (t + (1000 * n - l + r - 1) / r)
          all_goals
            simp only [Bool.false_eq_true, if_false, if_true]
            go_enter Tryz.func52, Tryz.ntmps52
            go_wp2_with (first
          | (go_at_call 80; refine (H1.out _).mono ?_; rw [hv]; rintro e w1 ⟨rfl, hb1⟩; have hc1 := hb1.cellAt; have hs2 : w.heap.size < w1.heap.size := (by have := hb1.size; simp at this; omega))
          | (go_at_call 81; refine (H2.out _).mono ?_; rw [ht]; rintro e w2 ⟨rfl, rfl⟩)
              | (go_at_call 82; refine (HR.out _).mono ?_; unfold bv; rintro e w3 ⟨rfl, hb3⟩; have hc3 := hb3.cellAt; have hs3 : w.heap.size < w3.heap.size := (by have := hb3.size; omega)))
            go_quiet (fail)
            go_wp2_with (go_at_call 81; go_must (rw [show (if now < t + (1000 * n - l + r - 1) / r then t + (1000 * n - l + r - 1) / r else now) = t + (1000 * n - l + r - 1) / r by split <;> omega]; refine (H3.out _).mono ?_; rw [hk]; rintro e w4 ⟨rfl, rfl⟩))
            go_ret2
            exact ⟨rfl, bI⟩
        · rw [hW, if_pos (.inr (by omega))]
          generalize (refill ⟨r, u, l, t⟩ now).level = L at hR hL
          generalize (refill ⟨r, u, l, t⟩ now).last = T at hR
          have HR := Lib.hid hR
          clear hW hx h0 hR
          go_enter Tryz.func52, Tryz.ntmps52
          go_wp2_with (first
          | (go_at_call 80; refine (H1.out _).mono ?_; rw [hv]; rintro e w1 ⟨rfl, hb1⟩; have hc1 := hb1.cellAt; have hs2 : w.heap.size < w1.heap.size := (by have := hb1.size; simp at this; omega))
          | (go_at_call 81; refine (H2.out _).mono ?_; rw [ht]; rintro e w2 ⟨rfl, rfl⟩)
            | (go_at_call 82; refine (HR.out _).mono ?_; unfold bv; rintro e w3 ⟨rfl, hb3⟩; have hc3 := hb3.cellAt; have hs3 : w.heap.size < w3.heap.size := (by have := hb3.size; omega)))
          go_ret2
          exact ⟨rfl, bI⟩
end Go.Proofs.YtpgjbocjhconoaaGreat
