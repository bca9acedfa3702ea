/- The law's made. -/
import Derived.Test.YtacbljfpcchbbaaFairE
namespace Go.Proofs.Ytacbljfpcchbbaa
open Go.RowKit
set_option linter.unusedSimpArgs false

theorem Ints.three (w : World) (t : TypeId) {a b c : Int} (ha : IsInt a) (hb : IsInt b) (hc : IsInt c) : Ints (w.alloc (.cells #[.int .i64 a, .int .i64 b, .int .i64 c] t)) (.slice (some ⟨w.heap.size, 0, none⟩) 3 3) [a, b, c] := by
  refine ⟨?_, _, 3, rfl, Nat.le_refl _, by unfold maxLen; omega, fun _ => ⟨w.heap.size, 0, rfl, by simp, ?_⟩⟩
  · intro z hz
    simp at hz
    rcases hz with rfl | rfl | rfl <;> assumption
  · intro j hj
    match j, hj with
    | 0, _ => simp [go_sem]
    | 1, _ => simp [go_sem]
    | 2, _ => simp [go_sem]
    | j + 3, h => exact absurd h (by simp)

def madeF (n : Int) : List (Int × Int) := newF [1 + rnd n 8, 1 + rnd (n / 8) 8, 1 + rnd (n / 64) 8]
theorem madeF_ok (n : Int) : fairOk 0 (madeF n) = true := by
  have h1 := rnd_lo n 8
  have h2 := rnd_hi n 8 (by omega)
  have h3 := rnd_lo (n / 8) 8
  have h4 := rnd_hi (n / 8) 8 (by omega)
  have h5 := rnd_lo (n / 64) 8
  have h6 := rnd_hi (n / 64) 8 (by omega)
  simp [fairOk, madeF, newF, flowOk, timeB]
  omega

theorem madeF_eq (n : Int) : ∃ a b c, Hid (a = rnd n 8) ∧ Hid (b = rnd (n / 8) 8) ∧ Hid (c = rnd (n / 64) 8) ∧ (0 ≤ a ∧ a ≤ 7) ∧ (0 ≤ b ∧ b ≤ 7) ∧ (0 ≤ c ∧ c ≤ 7) ∧ Hid (madeF n = newF [1 + a, 1 + b, 1 + c]) := by
  have h2 := rnd_hi n 8 (by omega)
  have h4 := rnd_hi (n / 8) 8 (by omega)
  have h6 := rnd_hi (n / 64) 8 (by omega)
  exact ⟨_, _, _, rfl, rfl, rfl, ⟨rnd_lo _ _, by omega⟩, ⟨rnd_lo _ _, by omega⟩, ⟨rnd_lo _ _, by omega⟩, rfl⟩

set_option maxHeartbeats 2000000 in
theorem madeFair_any (n : Int) (w : World) :
    Calls Try.prog 11 #[.int .i64 n] w fun e w' => ∃ v', e = .returned (.agg #[.int .i64 0, v']) ∧ w'.ownsRow w.heap.size 33 2 v' 3 (fcells (madeF n)) ∧ Bel w w' := by
  have HO := Lib.hid (madeF_ok n)
  obtain ⟨a, b, c, Ha, Hb, Hc, ⟨a1, a2⟩, ⟨b1, b2⟩, ⟨c1, c2⟩, HM⟩ := madeF_eq n
  generalize madeF n = M at HO HM ⊢
  go_enter Try.func11, Try.ntmps11
  go_wp2_with fail
  refine (round_any _ 8 _ (by omega)).mono ?_; rw [← Ha.out]; rintro e w1 ⟨rfl, rfl⟩
  go_wp2_with fail
  refine (round_any _ 8 _ (by omega)).mono ?_; rw [← Hb.out]; rintro e w1 ⟨rfl, rfl⟩
  go_wp2_with fail
  refine (round_any _ 8 _ (by omega)).mono ?_; rw [← Hc.out]; rintro e w1 ⟨rfl, rfl⟩
  go_wp2_with fail
  have hI := Ints.three (w.alloc (.cells #[.int .i64 0, .slice none 0 0] 25)) 3 (a := 1 + a) (b := 1 + b) (c := 1 + c) ⟨by omega, by omega⟩ ⟨by omega, by omega⟩ ⟨by omega, by omega⟩
  have hN := refNew_any [1 + a, 1 + b, 1 + c] _ _ hI (by simp)
  rw [← HM.out, HO.out, if_pos rfl] at hN
  have hl : M.length = 3 := by rw [HM.out]; rfl
  simp only [World.size_alloc, hl] at hN
  have HN := Lib.hid hN
  clear hN hI
  refine HN.out.mono ?_
  rintro e w1 ⟨v', rfl, hown, hb1⟩
  obtain ⟨A', c', rfl⟩ := own_slice hown
  have hB := (((AtF.new w 25 [.int .i64 0, .slice none 0 0]).alloc (.cells #[.int .i64 (1 + a), .int .i64 (1 + b), .int .i64 (1 + c)] 3)).bel hb1).alloc (.cells #[.int .i64 0, .slice A' 3 c'] 25)
  have b0 := hB.1.2 0 _ rfl
  have b1 := hB.1.2 1 _ rfl
  have bf := hB.2
  have bl := hB.1.1
  have hr2 := (hB.set 0 (by simp) (.int .i64 0)).set 1 (by simp) (.slice A' 3 c')
  have r20 := hr2.1.2 0 _ rfl
  have r21 := hr2.1.2 1 _ rfl
  have hown3 := own_other (own_other (hown.alloc (.cells #[.int .i64 0, .slice A' 3 c'] 25)) (p := ⟨w.heap.size, 0, none⟩) (by simp; omega) (.int .i64 0)) (p := ⟨w.heap.size, 1, none⟩) (by simp; omega) (.slice A' 3 c')
  clear hl
  go_wp2
  exact bodyPost_ret (v := .agg #[.int .i64 0, .slice A' 3 c']) (by simp [results, Try.results11, go_sem, r20, r21]) rfl ⟨_, rfl, own_mono hown3 (by omega), (by repeat (first | (with_reducible exact Bel.refl _) | (with_reducible assumption) | (with_reducible refine Bel.drewN ?_ _) | (with_reducible refine Bel.drew ?_) | (with_reducible refine Bel.alloc ?_ _) | (with_reducible refine Bel.setNew ?_ ?_ _) | (with_reducible refine Bel.trans ?_ (by assumption)) | (focus (simp; done)) | (focus (simp; omega))))⟩
end Go.Proofs.Ytacbljfpcchbbaa
