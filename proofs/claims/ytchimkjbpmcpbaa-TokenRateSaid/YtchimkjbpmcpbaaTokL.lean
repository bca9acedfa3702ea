/- awake, made, and the walks of the laws of layer 32. -/
import Derived.Test.YtchimkjbpmcpbaaTokN
namespace Go.Proofs.Ytchimkjbpmcpbaa
open Go.RowKit

theorem awake_when : whenB ⟨500, 4, 0, 0⟩ 0 1 = (2, true) := by decide +kernel
theorem awake_take : takeB ⟨500, 4, 0, 0⟩ 9 4 = (⟨500, 4, 0, 9⟩, true) := by
  have h1 : rightB ⟨500, 4, 0, 0⟩ 9 4 = true := by decide +kernel
  have h2 : refill ⟨500, 4, 0, 0⟩ 9 = ⟨500, 4, 4000, 9⟩ := by
    unfold refill
    rw [if_pos (by decide +kernel)]
    simp only [show min (1000 * (4 : Int)) (0 + 500 * (9 - 0)) = 4000 by decide]
  simp [takeB, h1, h2]
theorem awake_ok : bkOk ⟨500, 4, 0, 0⟩ = true := by decide +kernel

set_option maxHeartbeats 1000000 in
theorem awakeTok_any (w : World) : Calls Try.prog 32 #[] w fun e w' => e = .returned (.bool true) ∧ Bel w w' := by
  go_enter Try.func32, Try.ntmps32
  go_wp2_with fail
  refine (tokWhen_any 500 4 0 0 0 1 _).mono ?_; rw [awake_when]; rintro e w1 ⟨rfl, hb1⟩
  have hA := (At.new w 37 [.int .i64 500, .int .i64 4, .int .i64 0, .int .i64 0]).bel hb1
  have a0 := hA.2 0 _ rfl
  have a1 := hA.2 1 _ rfl
  have a2 := hA.2 2 _ rfl
  have a3 := hA.2 3 _ rfl
  go_wp2_with fail
  refine (tokTake_any 500 4 0 0 9 4 _).mono ?_; rw [awake_take]; unfold bv; rintro e w2 ⟨rfl, hb2⟩
  have hA2 := hA.bel hb2
  have l2 := hA2.1
  have c0 := hA2.2 0 _ rfl
  have c1 := hA2.2 1 _ rfl
  have c2 := hA2.2 2 _ rfl
  have c3 := hA2.2 3 _ rfl
  clear a0 a1 a2 a3
  go_wp2_with fail
  refine (tokValid_any 500 4 0 0 _).mono ?_; rw [awake_ok]; rintro e w3 ⟨rfl, hb3⟩
  go_wp2
  go_ret
  exact ⟨rfl, (by repeat (first | (with_reducible exact Bel.refl _) | (with_reducible assumption) | (with_reducible refine Bel.drewN ?_ _) | (with_reducible refine Bel.drew ?_) | (with_reducible refine Bel.alloc ?_ _) | (with_reducible refine Bel.setNew ?_ ?_ _) | (with_reducible refine Bel.trans ?_ (by assumption)) | (focus (simp; done)) | (focus (simp; omega))))⟩

def madeB (n : Int) : Bk :=
  ⟨if rnd (n / 34359738368) 10 = 0 then 0 else rnd n 3000, 1 + rnd (n / 4096) 8, rnd (n / 2097152) (1000 * (1 + rnd (n / 4096) 8) + 1), rnd (n / 65536) 20⟩
theorem madeB_bounds (n : Int) : 0 ≤ (madeB n).rate ∧ (madeB n).rate < 3000 ∧ 1 ≤ (madeB n).burst ∧ (madeB n).burst ≤ 8 ∧ 0 ≤ (madeB n).level ∧ (madeB n).level ≤ 1000 * (madeB n).burst ∧ 0 ≤ (madeB n).last ∧ (madeB n).last < 20 := by
  have h1 := rnd_lo n 3000
  have h2 := rnd_hi n 3000 (by omega)
  have h3 := rnd_lo (n / 4096) 8
  have h4 := rnd_hi (n / 4096) 8 (by omega)
  have h5 := rnd_lo (n / 2097152) (1000 * (1 + rnd (n / 4096) 8) + 1)
  have h6 := rnd_hi (n / 2097152) (1000 * (1 + rnd (n / 4096) 8) + 1) (by omega)
  have h7 := rnd_lo (n / 65536) 20
  have h8 := rnd_hi (n / 65536) 20 (by omega)
  unfold madeB
  simp only
  refine ⟨?_, ?_, by omega, by omega, by omega, by omega, by omega, by omega⟩ <;> split <;> omega
theorem madeB_ok (n : Int) : bkOk (madeB n) = true := by
  have h := madeB_bounds n
  rw [show madeB n = ⟨(madeB n).rate, (madeB n).burst, (madeB n).level, (madeB n).last⟩ from rfl, bkOk_iff]
  omega

set_option maxHeartbeats 1000000 in
theorem madeTok_any (n : Int) (w : World) :
    Calls Try.prog 33 #[.int .i64 n] w fun e w' => e = .returned (bv (madeB n).rate (madeB n).burst (madeB n).level (madeB n).last) ∧ Bel w w' := by
  have h1 := rnd_lo n 3000
  have h2 := rnd_hi n 3000 (by omega)
  have h3 := rnd_lo (n / 4096) 8
  have h4 := rnd_hi (n / 4096) 8 (by omega)
  have HM : Hid (madeB n = ⟨if rnd (n / 34359738368) 10 = 0 then 0 else rnd n 3000, 1 + rnd (n / 4096) 8, rnd (n / 2097152) (1000 * (1 + rnd (n / 4096) 8) + 1), rnd (n / 65536) 20⟩) := rfl
  rw [HM.out]
  by_cases h9 : rnd (n / 34359738368) 10 = 0
  · have h9' : (rnd (n / 34359738368) 10 == 0) = true := by simpa using h9
    simp only [if_pos h9]
    clear h9
    go_enter Try.func33, Try.ntmps33
    go_wp2_with fail
    refine (round_any _ _ _ (by omega)).mono ?_; rintro e w1 ⟨rfl, rfl⟩
    go_wp2_with fail
    refine (round_any _ _ _ (by omega)).mono ?_; rintro e w1 ⟨rfl, rfl⟩
    go_wp2_with fail
    refine (round_any _ _ _ (by omega)).mono ?_; rintro e w1 ⟨rfl, rfl⟩
    go_wp2_with fail
    refine (round_any _ _ _ (by omega)).mono ?_; rintro e w1 ⟨rfl, rfl⟩
    go_wp2_with fail
    refine (round_any _ _ _ (by omega)).mono ?_; rintro e w1 ⟨rfl, rfl⟩
    go_wp2
    exact bodyPost_ret (v := bv 0 (1 + rnd (n / 4096) 8) (rnd (n / 2097152) (1000 * (1 + rnd (n / 4096) 8) + 1)) (rnd (n / 65536) 20)) (by simp [results, Try.results33, go_sem, bv]) rfl ⟨rfl, (by repeat (first | (with_reducible exact Bel.refl _) | (with_reducible assumption) | (with_reducible refine Bel.drewN ?_ _) | (with_reducible refine Bel.drew ?_) | (with_reducible refine Bel.alloc ?_ _) | (with_reducible refine Bel.setNew ?_ ?_ _) | (with_reducible refine Bel.trans ?_ (by assumption)) | (focus (simp; done)) | (focus (simp; omega))))⟩
  · have h9' : (rnd (n / 34359738368) 10 == 0) = false := by simpa using h9
    simp only [if_neg h9]
    clear h9
    go_enter Try.func33, Try.ntmps33
    go_wp2_with fail
    refine (round_any _ _ _ (by omega)).mono ?_; rintro e w1 ⟨rfl, rfl⟩
    go_wp2_with fail
    refine (round_any _ _ _ (by omega)).mono ?_; rintro e w1 ⟨rfl, rfl⟩
    go_wp2_with fail
    refine (round_any _ _ _ (by omega)).mono ?_; rintro e w1 ⟨rfl, rfl⟩
    go_wp2_with fail
    refine (round_any _ _ _ (by omega)).mono ?_; rintro e w1 ⟨rfl, rfl⟩
    go_wp2_with fail
    refine (round_any _ _ _ (by omega)).mono ?_; rintro e w1 ⟨rfl, rfl⟩
    go_wp2
    exact bodyPost_ret (v := bv (rnd n 3000) (1 + rnd (n / 4096) 8) (rnd (n / 2097152) (1000 * (1 + rnd (n / 4096) 8) + 1)) (rnd (n / 65536) 20)) (by simp [results, Try.results33, go_sem, bv]) rfl ⟨rfl, (by repeat (first | (with_reducible exact Bel.refl _) | (with_reducible assumption) | (with_reducible refine Bel.drewN ?_ _) | (with_reducible refine Bel.drew ?_) | (with_reducible refine Bel.alloc ?_ _) | (with_reducible refine Bel.setNew ?_ ?_ _) | (with_reducible refine Bel.trans ?_ (by assumption)) | (focus (simp; done)) | (focus (simp; omega))))⟩

theorem bkS : Try.prog.underlying 37 = some (.struct (Try.prog.fieldsOf 37)) := by kernel_rfl
theorem bkH : Try.prog.stoodInHeld 37 = false := by kernel_rfl
theorem bkG : Try.prog.eqGuardType Try.prog.depth 37 = false := by kernel_rfl
theorem eq_bk (a b c d a' b' c' d' : Int) (w : World) : (Op.equalIn 10000 37 (.agg #[.int .i64 a, .int .i64 b, .int .i64 c, .int .i64 d]) (.agg #[.int .i64 a', .int .i64 b', .int .i64 c', .int .i64 d'])).run Try.prog w = .ok (a == a' && (b == b' && (c == c' && d == d'))) w := by
  rw [show (10000 : Nat) = 9999 + 1 from rfl, run_equalIn_agg w 9999 37 _ _ bkS bkH]
  simp only [Program.fieldsOf, Try.underlying37]
  simp [go_sem, Try.underlying3]
  by_cases h1 : a = a' <;> by_cases h2 : b = b' <;> by_cases h3 : c = c' <;> by_cases h4 : d = d' <;> simp [h1, h2, h3, h4]
theorem eq_bk_self (a b c d : Int) (w : World) : (Op.equalIn 10000 37 (.agg #[.int .i64 a, .int .i64 b, .int .i64 c, .int .i64 d]) (.agg #[.int .i64 a, .int .i64 b, .int .i64 c, .int .i64 d])).run Try.prog w = .ok true w := by
  rw [eq_bk]; simp
end Go.Proofs.Ytchimkjbpmcpbaa
