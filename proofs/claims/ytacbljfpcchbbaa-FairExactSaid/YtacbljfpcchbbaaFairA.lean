/- The fair package: Serve, advance, Stamp, Grow. -/
import Derived.Test.YtacbljfpcchbbaaFair
namespace Go.Proofs.Ytacbljfpcchbbaa
open Go.RowKit
set_option linter.unusedSimpArgs false



set_option maxHeartbeats 2000000 in
theorem fairServe_any (V s : Int) (fs : List (Int × Int)) (v : Value) (w : World) (h : Rd w v 2 fs.length (fcells fs)) (hn : fs.length ≤ 1000) :
    Calls Try.prog 13 #[.agg #[.int .i64 V, v], .int .i64 s] w fun e w' =>
      ∃ v', e = .returned (.agg #[.int .i64 (if V < s ∧ s ≤ 1125899906842624 then s else V), v']) ∧ w'.ownsRow w.heap.size 33 2 v' fs.length (fcells fs) ∧ Bel w w' := by
  have HC := Lib.hid (fun w' (hb : Bel w w') => fairClone_any fs _ w' (h.bel hb) hn)
  clear h
  obtain ⟨V', HV⟩ : ∃ V', Hid (V' = if V < s ∧ s ≤ 1125899906842624 then s else V) := ⟨_, rfl⟩
  rw [← HV.out]
  go_enter Try.func13, Try.ntmps13
  go_wp2_with fail
  refine (HC.out _ (by repeat (first | (with_reducible exact Bel.refl _) | (with_reducible assumption) | (with_reducible refine Bel.drewN ?_ _) | (with_reducible refine Bel.drew ?_) | (with_reducible refine Bel.alloc ?_ _) | (with_reducible refine Bel.setNew ?_ ?_ _) | (with_reducible refine Bel.trans ?_ (by assumption)) | (focus (simp; done)) | (focus (simp; omega))))).mono ?_; rintro e w1 ⟨v', rfl, hown, hb1⟩
  obtain ⟨A', c', rfl⟩ := own_slice hown
  have hA := ((AtF.new w 25 [.int .i64 V, v]).alloc (.cells #[.int .i64 0, .slice none 0 0] 25)).bel hb1
  have hB := (AtF.new (w.alloc (.cells #[.int .i64 V, v] 25)) 25 [.int .i64 0, .slice none 0 0]).bel hb1
  simp only [World.size_alloc] at hB hown
  have a0 := hA.1.2 0 _ rfl
  have a1 := hA.1.2 1 _ rfl
  have af := hA.2
  have al := hA.1.1
  have b0 := hB.1.2 0 _ rfl
  have b1 := hB.1.2 1 _ rfl
  have bf := hB.2
  have bl := hB.1.1
  have hown2 := own_other (own_other (own_other hown (p := ⟨w.heap.size, 1, none⟩) (by simp; omega) (.slice A' fs.length c')) (p := ⟨w.heap.size + 1, 0, none⟩) (by simp) (.int .i64 V)) (p := ⟨w.heap.size + 1, 1, none⟩) (by simp) (.slice A' fs.length c')
  have hown3 := own_other (own_other (own_other (own_other hown (p := ⟨w.heap.size, 1, none⟩) (by simp; omega) (.slice A' fs.length c')) (p := ⟨w.heap.size, 0, none⟩) (by simp; omega) (.int .i64 s)) (p := ⟨w.heap.size + 1, 0, none⟩) (by simp) (.int .i64 s)) (p := ⟨w.heap.size + 1, 1, none⟩) (by simp) (.slice A' fs.length c')
  have hne : w.heap.size + 1 ≠ w.heap.size := by omega
  have hr2 := ((hB.other hne 1 (.slice A' fs.length c')).set 0 (by simp) (.int .i64 V)).set 1 (by simp) (.slice A' fs.length c')
  have hr3 := (((hB.other hne 1 (.slice A' fs.length c')).other hne 0 (.int .i64 s)).set 0 (by simp) (.int .i64 s)).set 1 (by simp) (.slice A' fs.length c')
  have r20 := hr2.1.2 0 _ rfl
  have r21 := hr2.1.2 1 _ rfl
  have r30 := hr3.1.2 0 _ rfl
  have r31 := hr3.1.2 1 _ rfl
  clear hown hr2 hr3
  by_cases h1 : V < s
  · by_cases h2 : s ≤ 1125899906842624
    · go_wp2
      exact bodyPost_ret (v := .agg #[.int .i64 s, (.slice A' fs.length c')]) (by simp [results, Try.results13, go_sem, r20, r21, r30, r31]) rfl ⟨_, by rw [HV.out, if_pos ⟨h1, h2⟩], own_mono hown3 (by omega), (by repeat (first | (with_reducible exact Bel.refl _) | (with_reducible assumption) | (with_reducible refine Bel.drewN ?_ _) | (with_reducible refine Bel.drew ?_) | (with_reducible refine Bel.alloc ?_ _) | (with_reducible refine Bel.setNew ?_ ?_ _) | (with_reducible refine Bel.trans ?_ (by assumption)) | (focus (simp; done)) | (focus (simp; omega))))⟩
    · have h3 : decide (s ≤ 1125899906842624) = false := by simp; omega
      have h4 : 1125899906842624 < s := by omega
      go_wp2
      exact bodyPost_ret (v := .agg #[.int .i64 V, (.slice A' fs.length c')]) (by simp [results, Try.results13, go_sem, r20, r21, r30, r31]) rfl ⟨_, by rw [HV.out, if_neg (by omega)], own_mono hown2 (by omega), (by repeat (first | (with_reducible exact Bel.refl _) | (with_reducible assumption) | (with_reducible refine Bel.drewN ?_ _) | (with_reducible refine Bel.drew ?_) | (with_reducible refine Bel.alloc ?_ _) | (with_reducible refine Bel.setNew ?_ ?_ _) | (with_reducible refine Bel.trans ?_ (by assumption)) | (focus (simp; done)) | (focus (simp; omega))))⟩
  · have h3 : decide (V < s) = false := by simp; omega
    have h4 : s ≤ V := by omega
    go_wp2
    exact bodyPost_ret (v := .agg #[.int .i64 V, (.slice A' fs.length c')]) (by simp [results, Try.results13, go_sem, r20, r21, r30, r31]) rfl ⟨_, by rw [HV.out, if_neg (by omega)], own_mono hown2 (by omega), (by repeat (first | (with_reducible exact Bel.refl _) | (with_reducible assumption) | (with_reducible refine Bel.drewN ?_ _) | (with_reducible refine Bel.drew ?_) | (with_reducible refine Bel.alloc ?_ _) | (with_reducible refine Bel.setNew ?_ ?_ _) | (with_reducible refine Bel.trans ?_ (by assumption)) | (focus (simp; done)) | (focus (simp; omega))))⟩

/-- What advance computes: the flows, the start, and whether it could be. -/
def advB (V : Int) (fs : List (Int × Int)) (t c : Int) (st : Int → Int → Int) : List (Int × Int) × Int × Bool :=
  if fairOk V fs = true ∧ 0 ≤ t ∧ t < fs.length ∧ 1 ≤ c ∧ c ≤ 128 then
    if timeB (st (fs.getD t.toNat (0, 0)).1 (fs.getD t.toNat (0, 0)).2 + c * 840 / (fs.getD t.toNat (0, 0)).1) = true then
      (fs.set t.toNat ((fs.getD t.toNat (0, 0)).1, st (fs.getD t.toNat (0, 0)).1 (fs.getD t.toNat (0, 0)).2 + c * 840 / (fs.getD t.toNat (0, 0)).1), st (fs.getD t.toNat (0, 0)).1 (fs.getD t.toNat (0, 0)).2, true)
    else (fs, 0, false)
  else (fs, 0, false)

theorem fcells_set {x y z : Int} : ∀ {l : List (Int × Int)} {k : Nat}, l[k]? = some (x, y) → (fcells l).set (k * 2 + 1) (.int .i64 z) = fcells (l.set k (x, z))
  | [], k, h => by simp at h
  | q :: l, 0, h => by simp at h; subst h; simp [fcells]
  | q :: l, k + 1, h => by
    have := fcells_set (z := z) (l := l) (k := k) (by simpa using h)
    rw [show (k + 1) * 2 + 1 = k * 2 + 1 + 2 by omega]
    simpa [fcells] using this
theorem fset {w : World} {base : Nat} {e : TypeId} {v : Value} {n k : Nat} {l : List (Int × Int)} {x y z : Int} (hx : l[k]? = some (x, y)) (h : w.ownsRow base e 2 v n ((fcells l).set (k * 2 + 1) (.int .i64 z))) : w.ownsRow base e 2 v n (fcells (l.set k (x, z))) := by
  rwa [fcells_set hx] at h

set_option maxHeartbeats 4000000 in
theorem fairAdvance_any (V t c : Int) (fs : List (Int × Int)) (v : Value) (g : Nat) (lb : Array Value) (st : Int → Int → Int) (w : World) (h : Rd w v 2 fs.length (fcells fs)) (hn : fs.length ≤ 1000)
    (eg : ∀ args w, (callFunc g args).run Try.prog w = .ok (.enter g args) w)
    (hst : ∀ W x y, Bel w W → Calls Try.prog g (#[.agg #[.int .i64 x, .int .i64 y]] ++ lb) W fun e w' => e = .returned (.int .i64 (st x y)) ∧ Bel W w')
    (hbd : ∀ x y, timeB V = true → flowOk (x, y) = true → timeB (st x y) = true) :
    Calls Try.prog 31 #[.agg #[.int .i64 V, v], .int .i64 t, .int .i64 c, .func (.func g) #[] lb] w fun e w' =>
      ∃ v', e = .returned (.tuple #[.agg #[.int .i64 V, v'], .int .i64 (advB V fs t c st).2.1, .bool (advB V fs t c st).2.2]) ∧ w'.ownsRow w.heap.size 33 2 v' fs.length (fcells (advB V fs t c st).1) ∧ Bel w w' := by
  have HC := Lib.hid (fun w' (hb : Bel w w') => fairClone_any fs _ w' (h.bel hb) hn)
  have HST := Lib.hid hst
  have HBD := Lib.hid hbd
  clear h hst hbd
  cases hk : fairOk V fs
  · have HK := Lib.hid hk
    have HF := Lib.hid (show advB V fs t c st = (fs, 0, false) by unfold advB; rw [if_neg]; simp [hk])
    clear hk
    go_enter Try.func31, Try.ntmps31
    go_wp2_with fail
    refine (HC.out _ (by repeat (first | (with_reducible exact Bel.refl _) | (with_reducible assumption) | (with_reducible refine Bel.drewN ?_ _) | (with_reducible refine Bel.drew ?_) | (with_reducible refine Bel.alloc ?_ _) | (with_reducible refine Bel.setNew ?_ ?_ _) | (with_reducible refine Bel.trans ?_ (by assumption)) | (focus (simp; done)) | (focus (simp; omega))))).mono ?_; rintro e w1 ⟨v', rfl, hown, hb1⟩
    obtain ⟨A', c', rfl⟩ := own_slice hown
    have hA := ((AtF.new w 25 [.int .i64 V, v]).alloc (.cells #[.int .i64 0, .slice none 0 0] 25)).bel hb1
    have hB := (AtF.new (w.alloc (.cells #[.int .i64 V, v] 25)) 25 [.int .i64 0, .slice none 0 0]).bel hb1
    simp only [World.size_alloc] at hB hown
    have a0 := hA.1.2 0 _ rfl
    have a1 := hA.1.2 1 _ rfl
    have af := hA.2
    have al := hA.1.1
    go_wp2_with fail
    have hne : w.heap.size + 1 ≠ w.heap.size := by omega
    have hown1 := own_other hown (p := ⟨w.heap.size, 1, none⟩) (by simp; omega) (.slice A' fs.length c')
    refine (fairValid_any V fs _ _ (Rd.own hown1)).mono ?_; rw [HK.out]; rintro e w2 ⟨rfl, hb2⟩
    have hown2 := own_keep hown1 hb2
    have hA2 := (hA.set 1 (by simp) (.slice A' fs.length c')).bel hb2
    have hB2 := (hB.other hne 1 (.slice A' fs.length c')).bel hb2
    have hbw : Bel w w2 := (by repeat (first | (with_reducible exact Bel.refl _) | (with_reducible assumption) | (with_reducible refine Bel.drewN ?_ _) | (with_reducible refine Bel.drew ?_) | (with_reducible refine Bel.alloc ?_ _) | (with_reducible refine Bel.setNew ?_ ?_ _) | (with_reducible refine Bel.trans ?_ (by assumption)) | (focus (simp; done)) | (focus (simp; omega))))
    clear a0 a1 af al hA hB hown hown1 hb1 hb2
    have a0 := hA2.1.2 0 _ rfl
    have a1 := hA2.1.2 1 _ rfl
    have af := hA2.2
    have al := hA2.1.1
    have b0 := hB2.1.2 0 _ rfl
    have b1 := hB2.1.2 1 _ rfl
    have bf := hB2.2
    have bl := hB2.1.1
    have hr2 := ((hB2.set 0 (by simp) (.int .i64 V)).set 1 (by simp) (.slice A' fs.length c'))
    have r20 := hr2.1.2 0 _ rfl
    have r21 := hr2.1.2 1 _ rfl
    have hown3 := own_other (own_other hown2 (p := ⟨w.heap.size + 1, 0, none⟩) (by simp) (.int .i64 V)) (p := ⟨w.heap.size + 1, 1, none⟩) (by simp) (.slice A' fs.length c')
    go_wp2
    exact bodyPost_ret (v := .tuple #[.agg #[.int .i64 V, .slice A' fs.length c'], .int .i64 0, .bool false]) (by simp [results, Try.results31, go_sem, r20, r21]) rfl ⟨_, by rw [HF.out], by rw [HF.out]; exact own_mono hown3 (by omega), (by repeat (first | (with_reducible exact Bel.refl _) | (with_reducible assumption) | (with_reducible refine Bel.drewN ?_ _) | (with_reducible refine Bel.drew ?_) | (with_reducible refine Bel.alloc ?_ _) | (with_reducible refine Bel.setNew ?_ ?_ _) | (with_reducible refine Bel.trans ?_ (by assumption)) | (focus (simp; done)) | (focus (simp; omega))))⟩
  · have HK := Lib.hid hk
    by_cases h1 : t < 0
    · have HF := Lib.hid (show advB V fs t c st = (fs, 0, false) by unfold advB; rw [if_neg]; omega)
      clear hk
      go_enter Try.func31, Try.ntmps31
      go_wp2_with fail
      refine (HC.out _ (by repeat (first | (with_reducible exact Bel.refl _) | (with_reducible assumption) | (with_reducible refine Bel.drewN ?_ _) | (with_reducible refine Bel.drew ?_) | (with_reducible refine Bel.alloc ?_ _) | (with_reducible refine Bel.setNew ?_ ?_ _) | (with_reducible refine Bel.trans ?_ (by assumption)) | (focus (simp; done)) | (focus (simp; omega))))).mono ?_; rintro e w1 ⟨v', rfl, hown, hb1⟩
      obtain ⟨A', c', rfl⟩ := own_slice hown
      have hA := ((AtF.new w 25 [.int .i64 V, v]).alloc (.cells #[.int .i64 0, .slice none 0 0] 25)).bel hb1
      have hB := (AtF.new (w.alloc (.cells #[.int .i64 V, v] 25)) 25 [.int .i64 0, .slice none 0 0]).bel hb1
      simp only [World.size_alloc] at hB hown
      have a0 := hA.1.2 0 _ rfl
      have a1 := hA.1.2 1 _ rfl
      have af := hA.2
      have al := hA.1.1
      go_wp2_with fail
      have hne : w.heap.size + 1 ≠ w.heap.size := by omega
      have hown1 := own_other hown (p := ⟨w.heap.size, 1, none⟩) (by simp; omega) (.slice A' fs.length c')
      refine (fairValid_any V fs _ _ (Rd.own hown1)).mono ?_; rw [HK.out]; rintro e w2 ⟨rfl, hb2⟩
      have hown2 := own_keep hown1 hb2
      have hA2 := (hA.set 1 (by simp) (.slice A' fs.length c')).bel hb2
      have hB2 := (hB.other hne 1 (.slice A' fs.length c')).bel hb2
      have hbw : Bel w w2 := (by repeat (first | (with_reducible exact Bel.refl _) | (with_reducible assumption) | (with_reducible refine Bel.drewN ?_ _) | (with_reducible refine Bel.drew ?_) | (with_reducible refine Bel.alloc ?_ _) | (with_reducible refine Bel.setNew ?_ ?_ _) | (with_reducible refine Bel.trans ?_ (by assumption)) | (focus (simp; done)) | (focus (simp; omega))))
      clear a0 a1 af al hA hB hown hown1 hb1 hb2
      have a0 := hA2.1.2 0 _ rfl
      have a1 := hA2.1.2 1 _ rfl
      have af := hA2.2
      have al := hA2.1.1
      have b0 := hB2.1.2 0 _ rfl
      have b1 := hB2.1.2 1 _ rfl
      have bf := hB2.2
      have bl := hB2.1.1
      have hr2 := ((hB2.set 0 (by simp) (.int .i64 V)).set 1 (by simp) (.slice A' fs.length c'))
      have r20 := hr2.1.2 0 _ rfl
      have r21 := hr2.1.2 1 _ rfl
      have hown3 := own_other (own_other hown2 (p := ⟨w.heap.size + 1, 0, none⟩) (by simp) (.int .i64 V)) (p := ⟨w.heap.size + 1, 1, none⟩) (by simp) (.slice A' fs.length c')
      go_wp2
      exact bodyPost_ret (v := .tuple #[.agg #[.int .i64 V, .slice A' fs.length c'], .int .i64 0, .bool false]) (by simp [results, Try.results31, go_sem, r20, r21]) rfl ⟨_, by rw [HF.out], by rw [HF.out]; exact own_mono hown3 (by omega), (by repeat (first | (with_reducible exact Bel.refl _) | (with_reducible assumption) | (with_reducible refine Bel.drewN ?_ _) | (with_reducible refine Bel.drew ?_) | (with_reducible refine Bel.alloc ?_ _) | (with_reducible refine Bel.setNew ?_ ?_ _) | (with_reducible refine Bel.trans ?_ (by assumption)) | (focus (simp; done)) | (focus (simp; omega))))⟩
    · have g1 : decide (t < 0) = false := by simp; omega
      have g1' : 0 ≤ t := by omega
      by_cases h2 : (fs.length : Int) ≤ t
      · have HF := Lib.hid (show advB V fs t c st = (fs, 0, false) by unfold advB; rw [if_neg]; omega)
        clear hk
        go_enter Try.func31, Try.ntmps31
        go_wp2_with fail
        refine (HC.out _ (by repeat (first | (with_reducible exact Bel.refl _) | (with_reducible assumption) | (with_reducible refine Bel.drewN ?_ _) | (with_reducible refine Bel.drew ?_) | (with_reducible refine Bel.alloc ?_ _) | (with_reducible refine Bel.setNew ?_ ?_ _) | (with_reducible refine Bel.trans ?_ (by assumption)) | (focus (simp; done)) | (focus (simp; omega))))).mono ?_; rintro e w1 ⟨v', rfl, hown, hb1⟩
        obtain ⟨A', c', rfl⟩ := own_slice hown
        have hA := ((AtF.new w 25 [.int .i64 V, v]).alloc (.cells #[.int .i64 0, .slice none 0 0] 25)).bel hb1
        have hB := (AtF.new (w.alloc (.cells #[.int .i64 V, v] 25)) 25 [.int .i64 0, .slice none 0 0]).bel hb1
        simp only [World.size_alloc] at hB hown
        have a0 := hA.1.2 0 _ rfl
        have a1 := hA.1.2 1 _ rfl
        have af := hA.2
        have al := hA.1.1
        go_wp2_with fail
        have hne : w.heap.size + 1 ≠ w.heap.size := by omega
        have hown1 := own_other hown (p := ⟨w.heap.size, 1, none⟩) (by simp; omega) (.slice A' fs.length c')
        refine (fairValid_any V fs _ _ (Rd.own hown1)).mono ?_; rw [HK.out]; rintro e w2 ⟨rfl, hb2⟩
        have hown2 := own_keep hown1 hb2
        have hA2 := (hA.set 1 (by simp) (.slice A' fs.length c')).bel hb2
        have hB2 := (hB.other hne 1 (.slice A' fs.length c')).bel hb2
        have hbw : Bel w w2 := (by repeat (first | (with_reducible exact Bel.refl _) | (with_reducible assumption) | (with_reducible refine Bel.drewN ?_ _) | (with_reducible refine Bel.drew ?_) | (with_reducible refine Bel.alloc ?_ _) | (with_reducible refine Bel.setNew ?_ ?_ _) | (with_reducible refine Bel.trans ?_ (by assumption)) | (focus (simp; done)) | (focus (simp; omega))))
        clear a0 a1 af al hA hB hown hown1 hb1 hb2
        have a0 := hA2.1.2 0 _ rfl
        have a1 := hA2.1.2 1 _ rfl
        have af := hA2.2
        have al := hA2.1.1
        have b0 := hB2.1.2 0 _ rfl
        have b1 := hB2.1.2 1 _ rfl
        have bf := hB2.2
        have bl := hB2.1.1
        have hr2 := ((hB2.set 0 (by simp) (.int .i64 V)).set 1 (by simp) (.slice A' fs.length c'))
        have r20 := hr2.1.2 0 _ rfl
        have r21 := hr2.1.2 1 _ rfl
        have hown3 := own_other (own_other hown2 (p := ⟨w.heap.size + 1, 0, none⟩) (by simp) (.int .i64 V)) (p := ⟨w.heap.size + 1, 1, none⟩) (by simp) (.slice A' fs.length c')
        go_wp2
        exact bodyPost_ret (v := .tuple #[.agg #[.int .i64 V, .slice A' fs.length c'], .int .i64 0, .bool false]) (by simp [results, Try.results31, go_sem, r20, r21]) rfl ⟨_, by rw [HF.out], by rw [HF.out]; exact own_mono hown3 (by omega), (by repeat (first | (with_reducible exact Bel.refl _) | (with_reducible assumption) | (with_reducible refine Bel.drewN ?_ _) | (with_reducible refine Bel.drew ?_) | (with_reducible refine Bel.alloc ?_ _) | (with_reducible refine Bel.setNew ?_ ?_ _) | (with_reducible refine Bel.trans ?_ (by assumption)) | (focus (simp; done)) | (focus (simp; omega))))⟩
      · have g2 : decide ((fs.length : Int) ≤ t) = false := by simp; omega
        have g2' : t < (fs.length : Int) := by omega
        by_cases h3 : c < 1
        · have HF := Lib.hid (show advB V fs t c st = (fs, 0, false) by unfold advB; rw [if_neg]; omega)
          clear hk
          go_enter Try.func31, Try.ntmps31
          go_wp2_with fail
          refine (HC.out _ (by repeat (first | (with_reducible exact Bel.refl _) | (with_reducible assumption) | (with_reducible refine Bel.drewN ?_ _) | (with_reducible refine Bel.drew ?_) | (with_reducible refine Bel.alloc ?_ _) | (with_reducible refine Bel.setNew ?_ ?_ _) | (with_reducible refine Bel.trans ?_ (by assumption)) | (focus (simp; done)) | (focus (simp; omega))))).mono ?_; rintro e w1 ⟨v', rfl, hown, hb1⟩
          obtain ⟨A', c', rfl⟩ := own_slice hown
          have hA := ((AtF.new w 25 [.int .i64 V, v]).alloc (.cells #[.int .i64 0, .slice none 0 0] 25)).bel hb1
          have hB := (AtF.new (w.alloc (.cells #[.int .i64 V, v] 25)) 25 [.int .i64 0, .slice none 0 0]).bel hb1
          simp only [World.size_alloc] at hB hown
          have a0 := hA.1.2 0 _ rfl
          have a1 := hA.1.2 1 _ rfl
          have af := hA.2
          have al := hA.1.1
          go_wp2_with fail
          have hne : w.heap.size + 1 ≠ w.heap.size := by omega
          have hown1 := own_other hown (p := ⟨w.heap.size, 1, none⟩) (by simp; omega) (.slice A' fs.length c')
          refine (fairValid_any V fs _ _ (Rd.own hown1)).mono ?_; rw [HK.out]; rintro e w2 ⟨rfl, hb2⟩
          have hown2 := own_keep hown1 hb2
          have hA2 := (hA.set 1 (by simp) (.slice A' fs.length c')).bel hb2
          have hB2 := (hB.other hne 1 (.slice A' fs.length c')).bel hb2
          have hbw : Bel w w2 := (by repeat (first | (with_reducible exact Bel.refl _) | (with_reducible assumption) | (with_reducible refine Bel.drewN ?_ _) | (with_reducible refine Bel.drew ?_) | (with_reducible refine Bel.alloc ?_ _) | (with_reducible refine Bel.setNew ?_ ?_ _) | (with_reducible refine Bel.trans ?_ (by assumption)) | (focus (simp; done)) | (focus (simp; omega))))
          clear a0 a1 af al hA hB hown hown1 hb1 hb2
          have a0 := hA2.1.2 0 _ rfl
          have a1 := hA2.1.2 1 _ rfl
          have af := hA2.2
          have al := hA2.1.1
          have b0 := hB2.1.2 0 _ rfl
          have b1 := hB2.1.2 1 _ rfl
          have bf := hB2.2
          have bl := hB2.1.1
          have hr2 := ((hB2.set 0 (by simp) (.int .i64 V)).set 1 (by simp) (.slice A' fs.length c'))
          have r20 := hr2.1.2 0 _ rfl
          have r21 := hr2.1.2 1 _ rfl
          have hown3 := own_other (own_other hown2 (p := ⟨w.heap.size + 1, 0, none⟩) (by simp) (.int .i64 V)) (p := ⟨w.heap.size + 1, 1, none⟩) (by simp) (.slice A' fs.length c')
          go_wp2
          exact bodyPost_ret (v := .tuple #[.agg #[.int .i64 V, .slice A' fs.length c'], .int .i64 0, .bool false]) (by simp [results, Try.results31, go_sem, r20, r21]) rfl ⟨_, by rw [HF.out], by rw [HF.out]; exact own_mono hown3 (by omega), (by repeat (first | (with_reducible exact Bel.refl _) | (with_reducible assumption) | (with_reducible refine Bel.drewN ?_ _) | (with_reducible refine Bel.drew ?_) | (with_reducible refine Bel.alloc ?_ _) | (with_reducible refine Bel.setNew ?_ ?_ _) | (with_reducible refine Bel.trans ?_ (by assumption)) | (focus (simp; done)) | (focus (simp; omega))))⟩
        · have g3 : decide (c < 1) = false := by simp; omega
          have g3' : 1 ≤ c := by omega
          by_cases h4 : 128 < c
          · have HF := Lib.hid (show advB V fs t c st = (fs, 0, false) by unfold advB; rw [if_neg]; omega)
            clear hk
            go_enter Try.func31, Try.ntmps31
            go_wp2_with fail
            refine (HC.out _ (by repeat (first | (with_reducible exact Bel.refl _) | (with_reducible assumption) | (with_reducible refine Bel.drewN ?_ _) | (with_reducible refine Bel.drew ?_) | (with_reducible refine Bel.alloc ?_ _) | (with_reducible refine Bel.setNew ?_ ?_ _) | (with_reducible refine Bel.trans ?_ (by assumption)) | (focus (simp; done)) | (focus (simp; omega))))).mono ?_; rintro e w1 ⟨v', rfl, hown, hb1⟩
            obtain ⟨A', c', rfl⟩ := own_slice hown
            have hA := ((AtF.new w 25 [.int .i64 V, v]).alloc (.cells #[.int .i64 0, .slice none 0 0] 25)).bel hb1
            have hB := (AtF.new (w.alloc (.cells #[.int .i64 V, v] 25)) 25 [.int .i64 0, .slice none 0 0]).bel hb1
            simp only [World.size_alloc] at hB hown
            have a0 := hA.1.2 0 _ rfl
            have a1 := hA.1.2 1 _ rfl
            have af := hA.2
            have al := hA.1.1
            go_wp2_with fail
            have hne : w.heap.size + 1 ≠ w.heap.size := by omega
            have hown1 := own_other hown (p := ⟨w.heap.size, 1, none⟩) (by simp; omega) (.slice A' fs.length c')
            refine (fairValid_any V fs _ _ (Rd.own hown1)).mono ?_; rw [HK.out]; rintro e w2 ⟨rfl, hb2⟩
            have hown2 := own_keep hown1 hb2
            have hA2 := (hA.set 1 (by simp) (.slice A' fs.length c')).bel hb2
            have hB2 := (hB.other hne 1 (.slice A' fs.length c')).bel hb2
            have hbw : Bel w w2 := (by repeat (first | (with_reducible exact Bel.refl _) | (with_reducible assumption) | (with_reducible refine Bel.drewN ?_ _) | (with_reducible refine Bel.drew ?_) | (with_reducible refine Bel.alloc ?_ _) | (with_reducible refine Bel.setNew ?_ ?_ _) | (with_reducible refine Bel.trans ?_ (by assumption)) | (focus (simp; done)) | (focus (simp; omega))))
            clear a0 a1 af al hA hB hown hown1 hb1 hb2
            have a0 := hA2.1.2 0 _ rfl
            have a1 := hA2.1.2 1 _ rfl
            have af := hA2.2
            have al := hA2.1.1
            have b0 := hB2.1.2 0 _ rfl
            have b1 := hB2.1.2 1 _ rfl
            have bf := hB2.2
            have bl := hB2.1.1
            have hr2 := ((hB2.set 0 (by simp) (.int .i64 V)).set 1 (by simp) (.slice A' fs.length c'))
            have r20 := hr2.1.2 0 _ rfl
            have r21 := hr2.1.2 1 _ rfl
            have hown3 := own_other (own_other hown2 (p := ⟨w.heap.size + 1, 0, none⟩) (by simp) (.int .i64 V)) (p := ⟨w.heap.size + 1, 1, none⟩) (by simp) (.slice A' fs.length c')
            go_wp2
            exact bodyPost_ret (v := .tuple #[.agg #[.int .i64 V, .slice A' fs.length c'], .int .i64 0, .bool false]) (by simp [results, Try.results31, go_sem, r20, r21]) rfl ⟨_, by rw [HF.out], by rw [HF.out]; exact own_mono hown3 (by omega), (by repeat (first | (with_reducible exact Bel.refl _) | (with_reducible assumption) | (with_reducible refine Bel.drewN ?_ _) | (with_reducible refine Bel.drew ?_) | (with_reducible refine Bel.alloc ?_ _) | (with_reducible refine Bel.setNew ?_ ?_ _) | (with_reducible refine Bel.trans ?_ (by assumption)) | (focus (simp; done)) | (focus (simp; omega))))⟩
          · have g4 : decide (128 < c) = false := by simp; omega
            have g4' : c ≤ 128 := by omega
            obtain ⟨k, rfl⟩ : ∃ k : Nat, t = k := ⟨t.toNat, by omega⟩
            obtain ⟨⟨x, y⟩, hx⟩ : ∃ p, fs[k]? = some p := ⟨fs[k]'(by omega), List.getElem?_eq_getElem _⟩
            have hk2 := hk
            simp only [fairOk, Bool.and_eq_true, decide_eq_true_eq, List.all_eq_true] at hk2
            obtain ⟨⟨_, hV⟩, hall⟩ := hk2
            have hfl := hall _ (List.mem_of_getElem? hx)
            have hS := HBD.out x y hV hfl
            obtain ⟨⟨x1, x2⟩, y1, y2⟩ := flowOk_iff.1 hfl
            have hd1 : 0 ≤ c * 840 / x := Int.ediv_nonneg (by omega) (by omega)
            have hd2 : c * 840 / x ≤ 107520 := Int.le_trans (Int.ediv_le_self _ (by omega)) (by omega)
            obtain ⟨D, HD⟩ : ∃ D, Hid (D = c * 840 / x) := ⟨_, rfl⟩
            have hq : (c * 840).tdiv x = D := by rw [Int.tdiv_eq_ediv_of_nonneg (by omega), HD.out]
            rw [← HD.out] at hd1 hd2
            obtain ⟨S, HS⟩ : ∃ S, Hid (S = st x y) := ⟨_, rfl⟩
            rw [← HS.out] at hS
            obtain ⟨s1, s2⟩ := timeB_iff.1 hS
            have hF : advB V fs k c st = if timeB (S + D) = true then (fs.set k (x, S + D), S, true) else (fs, 0, false) := by
              unfold advB
              rw [if_pos ⟨hk, by omega, g2', g3', g4'⟩]
              have e1 : fs.getD (k : Int).toNat (0, 0) = (x, y) := by rw [Int.toNat_natCast, List.getD_eq_getElem?_getD, hx]; rfl
              rw [e1]
              simp only [Int.toNat_natCast, ← HS.out, ← HD.out]
            have HX := Lib.hid hx
            have HT := Lib.hid (fairTime_any (S + D))
            have x0 : (x == 0) = false := by simp; omega
            clear hx hk hall hfl hS hV
            cases hT : timeB (S + D)
            · rw [hT] at hF HT
              have HF := Lib.hid hF
              clear hF hT
              simp only [Bool.false_eq_true, if_false] at HF
              go_enter Try.func31, Try.ntmps31
              go_wp2_with fail
              refine (HC.out _ (by repeat (first | (with_reducible exact Bel.refl _) | (with_reducible assumption) | (with_reducible refine Bel.drewN ?_ _) | (with_reducible refine Bel.drew ?_) | (with_reducible refine Bel.alloc ?_ _) | (with_reducible refine Bel.setNew ?_ ?_ _) | (with_reducible refine Bel.trans ?_ (by assumption)) | (focus (simp; done)) | (focus (simp; omega))))).mono ?_; rintro e w1 ⟨v', rfl, hown, hb1⟩
              obtain ⟨A', c', rfl⟩ := own_slice hown
              have hA := ((AtF.new w 25 [.int .i64 V, v]).alloc (.cells #[.int .i64 0, .slice none 0 0] 25)).bel hb1
              have hB := (AtF.new (w.alloc (.cells #[.int .i64 V, v] 25)) 25 [.int .i64 0, .slice none 0 0]).bel hb1
              simp only [World.size_alloc] at hB hown
              have a0 := hA.1.2 0 _ rfl
              have a1 := hA.1.2 1 _ rfl
              have af := hA.2
              have al := hA.1.1
              go_wp2_with fail
              have hne : w.heap.size + 1 ≠ w.heap.size := by omega
              have hown1 := own_other hown (p := ⟨w.heap.size, 1, none⟩) (by simp; omega) (.slice A' fs.length c')
              refine (fairValid_any V fs _ _ (Rd.own hown1)).mono ?_; rw [HK.out]; rintro e w2 ⟨rfl, hb2⟩
              have hown2 := own_keep hown1 hb2
              have hA2 := (hA.set 1 (by simp) (.slice A' fs.length c')).bel hb2
              have hB2 := (hB.other hne 1 (.slice A' fs.length c')).bel hb2
              have hbw : Bel w w2 := (by repeat (first | (with_reducible exact Bel.refl _) | (with_reducible assumption) | (with_reducible refine Bel.drewN ?_ _) | (with_reducible refine Bel.drew ?_) | (with_reducible refine Bel.alloc ?_ _) | (with_reducible refine Bel.setNew ?_ ?_ _) | (with_reducible refine Bel.trans ?_ (by assumption)) | (focus (simp; done)) | (focus (simp; omega))))
              clear a0 a1 af al hA hB hown hown1 hb1 hb2
              have a0 := hA2.1.2 0 _ rfl
              have a1 := hA2.1.2 1 _ rfl
              have af := hA2.2
              have al := hA2.1.1
              have b0 := hB2.1.2 0 _ rfl
              have b1 := hB2.1.2 1 _ rfl
              have bf := hB2.2
              have bl := hB2.1.1
              obtain ⟨g', cap', hv', _, _⟩ := hown2.form (by omega)
              cases hv'
              have q0 : w2.cell? ⟨g', k * 2, none⟩ = some (.int .i64 x) := by rw [hown2.cellAt _ (by omega)]; exact fcells_at0 _ _ _ HX.out
              have q1 : w2.cell? ⟨g', k * 2 + 1, none⟩ = some (.int .i64 y) := by rw [hown2.cellAt _ (by omega)]; exact fcells_at1 _ _ _ HX.out
              go_wp2_with fail
              refine (HST.out _ x y (by repeat (first | (with_reducible exact Bel.refl _) | (with_reducible assumption) | (with_reducible refine Bel.drewN ?_ _) | (with_reducible refine Bel.drew ?_) | (with_reducible refine Bel.alloc ?_ _) | (with_reducible refine Bel.setNew ?_ ?_ _) | (with_reducible refine Bel.trans ?_ (by assumption)) | (focus (simp; done)) | (focus (simp; omega))))).mono ?_; rw [← HS.out]; rintro e w3 ⟨rfl, hb3⟩
              have hA3 := hA2.bel hb3
              have hB3 := hB2.bel hb3
              have hown3 := own_keep hown2 hb3
              have hbw3 : Bel w w3 := hbw.trans hb3
              clear a0 a1 af al b0 b1 bf bl hA2 hB2 hown2 hbw hb3 q0 q1
              have a0 := hA3.1.2 0 _ rfl
              have a1 := hA3.1.2 1 _ rfl
              have af := hA3.2
              have al := hA3.1.1
              have b0 := hB3.1.2 0 _ rfl
              have b1 := hB3.1.2 1 _ rfl
              have bf := hB3.2
              have bl := hB3.1.1
              have q0 : w3.cell? ⟨g', k * 2, none⟩ = some (.int .i64 x) := by rw [hown3.cellAt _ (by omega)]; exact fcells_at0 _ _ _ HX.out
              have q1 : w3.cell? ⟨g', k * 2 + 1, none⟩ = some (.int .i64 y) := by rw [hown3.cellAt _ (by omega)]; exact fcells_at1 _ _ _ HX.out
              have qf : w3.frozen? ⟨g', k * 2 + 1, none⟩ = false := hown3.frozenAt _
              have qg := (hown3.lt g' (by simp [Value.ownBlock])).1
              go_wp2_with fail
              refine (HT.out _).mono ?_; rintro e w4 ⟨rfl, rfl⟩
              have hr2 := ((hB3.set 0 (by simp) (.int .i64 V)).set 1 (by simp) (.slice (some ⟨g', 0, none⟩) fs.length c'))
              have r20 := hr2.1.2 0 _ rfl
              have r21 := hr2.1.2 1 _ rfl
              have hown4 := own_other (own_other hown3 (p := ⟨w.heap.size + 1, 0, none⟩) (by simp) (.int .i64 V)) (p := ⟨w.heap.size + 1, 1, none⟩) (by simp) (.slice (some ⟨g', 0, none⟩) fs.length c')
              go_wp2
              exact bodyPost_ret (v := .tuple #[.agg #[.int .i64 V, .slice (some ⟨g', 0, none⟩) fs.length c'], .int .i64 0, .bool false]) (by simp [results, Try.results31, go_sem, r20, r21]) rfl ⟨_, by rw [HF.out], by rw [HF.out]; exact own_mono hown4 (by omega), (by repeat (first | (with_reducible exact Bel.refl _) | (with_reducible assumption) | (with_reducible refine Bel.drewN ?_ _) | (with_reducible refine Bel.drew ?_) | (with_reducible refine Bel.alloc ?_ _) | (with_reducible refine Bel.setNew ?_ ?_ _) | (with_reducible refine Bel.trans ?_ (by assumption)) | (focus (simp; done)) | (focus (simp; omega))))⟩
            · rw [hT] at hF HT
              have HF := Lib.hid hF
              clear hF hT
              simp only [if_true] at HF
              go_enter Try.func31, Try.ntmps31
              go_wp2_with fail
              refine (HC.out _ (by repeat (first | (with_reducible exact Bel.refl _) | (with_reducible assumption) | (with_reducible refine Bel.drewN ?_ _) | (with_reducible refine Bel.drew ?_) | (with_reducible refine Bel.alloc ?_ _) | (with_reducible refine Bel.setNew ?_ ?_ _) | (with_reducible refine Bel.trans ?_ (by assumption)) | (focus (simp; done)) | (focus (simp; omega))))).mono ?_; rintro e w1 ⟨v', rfl, hown, hb1⟩
              obtain ⟨A', c', rfl⟩ := own_slice hown
              have hA := ((AtF.new w 25 [.int .i64 V, v]).alloc (.cells #[.int .i64 0, .slice none 0 0] 25)).bel hb1
              have hB := (AtF.new (w.alloc (.cells #[.int .i64 V, v] 25)) 25 [.int .i64 0, .slice none 0 0]).bel hb1
              simp only [World.size_alloc] at hB hown
              have a0 := hA.1.2 0 _ rfl
              have a1 := hA.1.2 1 _ rfl
              have af := hA.2
              have al := hA.1.1
              go_wp2_with fail
              have hne : w.heap.size + 1 ≠ w.heap.size := by omega
              have hown1 := own_other hown (p := ⟨w.heap.size, 1, none⟩) (by simp; omega) (.slice A' fs.length c')
              refine (fairValid_any V fs _ _ (Rd.own hown1)).mono ?_; rw [HK.out]; rintro e w2 ⟨rfl, hb2⟩
              have hown2 := own_keep hown1 hb2
              have hA2 := (hA.set 1 (by simp) (.slice A' fs.length c')).bel hb2
              have hB2 := (hB.other hne 1 (.slice A' fs.length c')).bel hb2
              have hbw : Bel w w2 := (by repeat (first | (with_reducible exact Bel.refl _) | (with_reducible assumption) | (with_reducible refine Bel.drewN ?_ _) | (with_reducible refine Bel.drew ?_) | (with_reducible refine Bel.alloc ?_ _) | (with_reducible refine Bel.setNew ?_ ?_ _) | (with_reducible refine Bel.trans ?_ (by assumption)) | (focus (simp; done)) | (focus (simp; omega))))
              clear a0 a1 af al hA hB hown hown1 hb1 hb2
              have a0 := hA2.1.2 0 _ rfl
              have a1 := hA2.1.2 1 _ rfl
              have af := hA2.2
              have al := hA2.1.1
              have b0 := hB2.1.2 0 _ rfl
              have b1 := hB2.1.2 1 _ rfl
              have bf := hB2.2
              have bl := hB2.1.1
              obtain ⟨g', cap', hv', _, _⟩ := hown2.form (by omega)
              cases hv'
              have q0 : w2.cell? ⟨g', k * 2, none⟩ = some (.int .i64 x) := by rw [hown2.cellAt _ (by omega)]; exact fcells_at0 _ _ _ HX.out
              have q1 : w2.cell? ⟨g', k * 2 + 1, none⟩ = some (.int .i64 y) := by rw [hown2.cellAt _ (by omega)]; exact fcells_at1 _ _ _ HX.out
              go_wp2_with fail
              refine (HST.out _ x y (by repeat (first | (with_reducible exact Bel.refl _) | (with_reducible assumption) | (with_reducible refine Bel.drewN ?_ _) | (with_reducible refine Bel.drew ?_) | (with_reducible refine Bel.alloc ?_ _) | (with_reducible refine Bel.setNew ?_ ?_ _) | (with_reducible refine Bel.trans ?_ (by assumption)) | (focus (simp; done)) | (focus (simp; omega))))).mono ?_; rw [← HS.out]; rintro e w3 ⟨rfl, hb3⟩
              have hA3 := hA2.bel hb3
              have hB3 := hB2.bel hb3
              have hown3 := own_keep hown2 hb3
              have hbw3 : Bel w w3 := hbw.trans hb3
              clear a0 a1 af al b0 b1 bf bl hA2 hB2 hown2 hbw hb3 q0 q1
              have a0 := hA3.1.2 0 _ rfl
              have a1 := hA3.1.2 1 _ rfl
              have af := hA3.2
              have al := hA3.1.1
              have b0 := hB3.1.2 0 _ rfl
              have b1 := hB3.1.2 1 _ rfl
              have bf := hB3.2
              have bl := hB3.1.1
              have q0 : w3.cell? ⟨g', k * 2, none⟩ = some (.int .i64 x) := by rw [hown3.cellAt _ (by omega)]; exact fcells_at0 _ _ _ HX.out
              have q1 : w3.cell? ⟨g', k * 2 + 1, none⟩ = some (.int .i64 y) := by rw [hown3.cellAt _ (by omega)]; exact fcells_at1 _ _ _ HX.out
              have qf : w3.frozen? ⟨g', k * 2 + 1, none⟩ = false := hown3.frozenAt _
              have qg := (hown3.lt g' (by simp [Value.ownBlock])).1
              go_wp2_with fail
              refine (HT.out _).mono ?_; rintro e w4 ⟨rfl, rfl⟩
              have hne2 : w.heap.size ≠ g' := by omega
              have hne3 : w.heap.size + 1 ≠ g' := by omega
              have hB4 := hB3.other hne3 (k * 2 + 1) (.int .i64 (S + D))
              have hown4 := (hown3.stored (k * 2 + 1) (.int .i64 (S + D))).1
              have hr2 := ((hB4.set 0 (by simp) (.int .i64 V)).set 1 (by simp) (.slice (some ⟨g', 0, none⟩) fs.length c'))
              have r20 := hr2.1.2 0 _ rfl
              have r21 := hr2.1.2 1 _ rfl
              have hown5 := own_other (own_other hown4 (p := ⟨w.heap.size + 1, 0, none⟩) (by simp) (.int .i64 V)) (p := ⟨w.heap.size + 1, 1, none⟩) (by simp) (.slice (some ⟨g', 0, none⟩) fs.length c')
              go_wp2
              exact bodyPost_ret (v := .tuple #[.agg #[.int .i64 V, .slice (some ⟨g', 0, none⟩) fs.length c'], .int .i64 S, .bool true]) (by simp [results, Try.results31, go_sem, r20, r21]) rfl ⟨_, by rw [HF.out], by rw [HF.out]; exact own_mono (fset HX.out hown5) (by omega), (by repeat (first | (with_reducible exact Bel.refl _) | (with_reducible assumption) | (with_reducible refine Bel.drewN ?_ _) | (with_reducible refine Bel.drew ?_) | (with_reducible refine Bel.alloc ?_ _) | (with_reducible refine Bel.setNew ?_ ?_ _) | (with_reducible refine Bel.trans ?_ (by assumption)) | (focus (simp; done)) | (focus (simp; omega))))⟩
end Go.Proofs.Ytacbljfpcchbbaa
