/- The fair package: Stamp and Grow. -/
import Derived.Test.YtacbljfpcchbbaaFairA
import Derived.Shelf.Abstract
namespace Go.Proofs.Ytacbljfpcchbbaa
open Go.RowKit
set_option linter.unusedSimpArgs false

set_option maxHeartbeats 1000000 in
theorem fairStart_any (V x y : Int) (B : Nat) (w : World) (hc : w.cell? ⟨B, 0, none⟩ = some (.int .i64 V)) :
    Calls Try.prog 32 #[.agg #[.int .i64 x, .int .i64 y], .pointer (some ⟨B, 0, none⟩)] w fun e w' => e = .returned (.int .i64 (max V y)) ∧ Bel w w' := by
  have hl := World.block_lt_of_cell? _ _ hc
  go_enter Try.func32, Try.ntmps32
  go_wp2
  all_goals
    go_ret
    exact ⟨ret_int (by omega), (by repeat (first | (with_reducible exact Bel.refl _) | (with_reducible assumption) | (with_reducible refine Bel.drewN ?_ _) | (with_reducible refine Bel.drew ?_) | (with_reducible refine Bel.alloc ?_ _) | (with_reducible refine Bel.setNew ?_ ?_ _) | (with_reducible refine Bel.trans ?_ (by assumption)) | (focus (simp; done)) | (focus (simp; omega))))⟩
set_option maxHeartbeats 1000000 in
theorem fairFrom_any (x y : Int) (w : World) :
    Calls Try.prog 33 #[.agg #[.int .i64 x, .int .i64 y]] w fun e w' => e = .returned (.int .i64 y) ∧ Bel w w' := by
  go_enter Try.func33, Try.ntmps33
  go_wp2
  all_goals
    go_ret
    exact ⟨rfl, (by repeat (first | (with_reducible exact Bel.refl _) | (with_reducible assumption) | (with_reducible refine Bel.drewN ?_ _) | (with_reducible refine Bel.drew ?_) | (with_reducible refine Bel.alloc ?_ _) | (with_reducible refine Bel.setNew ?_ ?_ _) | (with_reducible refine Bel.trans ?_ (by assumption)) | (focus (simp; done)) | (focus (simp; omega))))⟩

def stampB (V : Int) (fs : List (Int × Int)) (t c : Int) : List (Int × Int) × Int × Bool := advB V fs t c (fun _ y => max V y)
def growB (V : Int) (fs : List (Int × Int)) (t c : Int) : List (Int × Int) × Int × Bool := advB V fs t c (fun _ y => y)

set_option maxHeartbeats 2000000 in
theorem fairStamp_any (V t c : Int) (fs : List (Int × Int)) (v : Value) (w : World) (h : Rd w v 2 fs.length (fcells fs)) (hn : fs.length ≤ 1000) :
    Calls Try.prog 14 #[.agg #[.int .i64 V, v], .int .i64 t, .int .i64 c] w fun e w' =>
      ∃ v', e = .returned (.tuple #[.agg #[.int .i64 V, v'], .int .i64 (stampB V fs t c).2.1, .bool (stampB V fs t c).2.2]) ∧ w'.ownsRow w.heap.size 33 2 v' fs.length (fcells (stampB V fs t c).1) ∧ Bel w w' := by
  have hb1 : Bel w ((w.alloc (.cells #[.int .i64 V, v] 25)).alloc (.cells #[.int .i64 0, .slice none 0 0] 25)) := (by repeat (first | (with_reducible exact Bel.refl _) | (with_reducible assumption) | (with_reducible refine Bel.drewN ?_ _) | (with_reducible refine Bel.drew ?_) | (with_reducible refine Bel.alloc ?_ _) | (with_reducible refine Bel.setNew ?_ ?_ _) | (with_reducible refine Bel.trans ?_ (by assumption)) | (focus (simp; done)) | (focus (simp; omega))))
  have hA := (AtF.new w 25 [.int .i64 V, v]).alloc (.cells #[.int .i64 0, .slice none 0 0] 25)
  have hcon := fairAdvance_any V t c fs v 32 #[.pointer (some ⟨w.heap.size, 0, none⟩)] (fun _ y => max V y) _ (h.bel hb1) hn (enters_of Try.func32 (by kernel_rfl) rfl)
    (fun W x y hW => fairStart_any V x y w.heap.size W ((hA.bel hW).1.2 0 _ rfl)) (fun x y h1 h2 => by rw [timeB_iff] at h1 ⊢; have := flowOk_iff.1 h2; omega)
  rw [show advB V fs t c (fun _ y => max V y) = stampB V fs t c from rfl] at hcon
  have hcon2 := Lib.hid hcon
  clear hcon h
  generalize stampB V fs t c = z at hcon2 ⊢
  obtain ⟨z0, z1, z2⟩ := z
  go_enter Try.func14, Try.ntmps14
  go_wp2_with fail
  refine hcon2.out.mono ?_; rintro e w2 ⟨v', rfl, hown, hb2⟩
  obtain ⟨A', c', rfl⟩ := own_slice hown
  have hB := (AtF.new (w.alloc (.cells #[.int .i64 V, v] 25)) 25 [.int .i64 0, .slice none 0 0]).bel hb2
  simp only [World.size_alloc] at hB hown
  have b0 := hB.1.2 0 _ rfl
  have b1 := hB.1.2 1 _ rfl
  have bf := hB.2
  have bl := hB.1.1
  have hr2 := ((hB.set 0 (by simp) (.int .i64 V)).set 1 (by simp) (.slice A' fs.length c'))
  have r20 := hr2.1.2 0 _ rfl
  have r21 := hr2.1.2 1 _ rfl
  have hown3 := own_other (own_other hown (p := ⟨w.heap.size + 1, 0, none⟩) (by simp) (.int .i64 V)) (p := ⟨w.heap.size + 1, 1, none⟩) (by simp) (.slice A' fs.length c')
  go_wp2
  exact bodyPost_ret (v := .tuple #[.agg #[.int .i64 V, .slice A' fs.length c'], .int .i64 z1, .bool z2]) (by simp [results, Try.results14, go_sem, r20, r21]) rfl ⟨_, rfl, own_mono hown3 (Nat.le_succ_of_le (Nat.le_succ _)), (by repeat (first | (with_reducible exact Bel.refl _) | (with_reducible assumption) | (with_reducible refine Bel.drewN ?_ _) | (with_reducible refine Bel.drew ?_) | (with_reducible refine Bel.alloc ?_ _) | (with_reducible refine Bel.setNew ?_ ?_ _) | (with_reducible refine Bel.trans ?_ (by assumption)) | (focus (simp; done)) | (focus (simp; omega))))⟩

set_option maxHeartbeats 2000000 in
theorem fairGrow_any (V t c : Int) (fs : List (Int × Int)) (v : Value) (w : World) (h : Rd w v 2 fs.length (fcells fs)) (hn : fs.length ≤ 1000) :
    Calls Try.prog 16 #[.agg #[.int .i64 V, v], .int .i64 t, .int .i64 c] w fun e w' =>
      ∃ v', e = .returned (.tuple #[.agg #[.int .i64 V, v'], .bool (growB V fs t c).2.2]) ∧ w'.ownsRow w.heap.size 33 2 v' fs.length (fcells (growB V fs t c).1) ∧ Bel w w' := by
  have HH := Lib.hid h
  have hcon := fun (w1 : World) (hb : Bel w w1) => fairAdvance_any V t c fs v 33 #[] (fun _ y => y) w1 (HH.out.bel hb) hn (enters_of Try.func33 (by kernel_rfl) rfl)
    (fun W x y _ => fairFrom_any x y W) (fun x y h1 h2 => by rw [timeB_iff] at h1 ⊢; have := flowOk_iff.1 h2; omega)
  simp only [show advB V fs t c (fun _ y => y) = growB V fs t c from rfl] at hcon
  have hcon2 := Lib.hid hcon
  clear hcon h HH
  generalize growB V fs t c = z at hcon2 ⊢
  obtain ⟨z0, z1, z2⟩ := z
  go_enter Try.func16, Try.ntmps16
  go_wp2_with fail
  refine (hcon2.out _ (by repeat (first | (with_reducible exact Bel.refl _) | (with_reducible assumption) | (with_reducible refine Bel.drewN ?_ _) | (with_reducible refine Bel.drew ?_) | (with_reducible refine Bel.alloc ?_ _) | (with_reducible refine Bel.setNew ?_ ?_ _) | (with_reducible refine Bel.trans ?_ (by assumption)) | (focus (simp; done)) | (focus (simp; omega))))).mono ?_; rintro e w2 ⟨v', rfl, hown, hb2⟩
  obtain ⟨A', c', rfl⟩ := own_slice hown
  have hA := ((AtF.new w 25 [.int .i64 V, v]).alloc (.cells #[.int .i64 0, .slice none 0 0] 25)).bel hb2
  have hB := (AtF.new (w.alloc (.cells #[.int .i64 V, v] 25)) 25 [.int .i64 0, .slice none 0 0]).bel hb2
  simp only [World.size_alloc] at hB hown
  have a0 := hA.1.2 0 _ rfl
  have a1 := hA.1.2 1 _ rfl
  have af := hA.2
  have al := hA.1.1
  have b0 := hB.1.2 0 _ rfl
  have b1 := hB.1.2 1 _ rfl
  have bf := hB.2
  have bl := hB.1.1
  have hne : w.heap.size + 1 ≠ w.heap.size := by omega
  have hr2 := ((((hB.other hne 0 (.int .i64 V)).other hne 1 (.slice A' fs.length c')).set 0 (by simp) (.int .i64 V)).set 1 (by simp) (.slice A' fs.length c'))
  have r20 := hr2.1.2 0 _ rfl
  have r21 := hr2.1.2 1 _ rfl
  have hown3 := own_other (own_other (own_other (own_other hown (p := ⟨w.heap.size, 0, none⟩) (by simp; omega) (.int .i64 V)) (p := ⟨w.heap.size, 1, none⟩) (by simp; omega) (.slice A' fs.length c')) (p := ⟨w.heap.size + 1, 0, none⟩) (by simp) (.int .i64 V)) (p := ⟨w.heap.size + 1, 1, none⟩) (by simp) (.slice A' fs.length c')
  go_wp2
  exact bodyPost_ret (v := .tuple #[.agg #[.int .i64 V, .slice A' fs.length c'], .bool z2]) (by simp [results, Try.results16, go_sem, r20, r21]) rfl ⟨_, rfl, own_mono hown3 (Nat.le_succ_of_le (Nat.le_succ _)), (by repeat (first | (with_reducible exact Bel.refl _) | (with_reducible assumption) | (with_reducible refine Bel.drewN ?_ _) | (with_reducible refine Bel.drew ?_) | (with_reducible refine Bel.alloc ?_ _) | (with_reducible refine Bel.setNew ?_ ?_ _) | (with_reducible refine Bel.trans ?_ (by assumption)) | (focus (simp; done)) | (focus (simp; omega))))⟩
end Go.Proofs.Ytacbljfpcchbbaa
