/- The law's member; what the awake of the law of plug puts in; the order of two. -/
import Derived.Test.YtbijfmpmgmfpgaaPlH
import Derived.Test.YtbijfmpmgmfpgaaAwk25
namespace Go.Proofs.Ytbijfmpmgmfpgaa
open Go.RowKit Go.Maps
set_option linter.unusedSimpArgs false

set_option maxRecDepth 100000 in
set_option maxHeartbeats 2000000 in
theorem memberP_any (id ten knd sec : Int) (d : ByteArray) (cnt : Int) (w : World) (hi : IsInt id) (hd : d.size ≤ maxLen) :
    Calls Try.prog 70 #[.int .i64 id, .int .i64 ten, .int .i64 knd, .int .i64 sec, .string d, .int .i64 cnt] w fun e w' => ∃ A, e = .returned (.agg #[.int .i64 id, .int .i64 ten, .int .i64 knd, .int .i64 sec, .int .i64 cnt, .string d, .bool false, .slice (some ⟨A, 0, none⟩) 1 1, .int .i64 0]) ∧ Mems w' ⟨id, ten, knd, sec, cnt, d, false, some ⟨A, 0, none⟩, 1, 1, 0⟩ [⟨id, 0, cnt⟩] ∧ Bel w w' := by
  have HI := Lib.hid hi
  have HD := Lib.hid hd
  clear hi hd
  go_enter Try.func70, Try.ntmps70
  go_wp2
  refine bodyPost_ret (v := .agg #[.int .i64 id, .int .i64 ten, .int .i64 knd, .int .i64 sec, .int .i64 cnt, .string d, .bool false, .slice (some ⟨w.heap.size + 1, 0, none⟩) 1 1, .int .i64 0]) (by simp [results, Try.results70, go_sem]) rfl ⟨w.heap.size + 1, rfl, ⟨rfl, ?_, fun m hm => ?_, HD.out⟩, (by repeat (first | (with_reducible exact Bel.refl _) | (with_reducible assumption) | (with_reducible refine Bel.drewN ?_ _) | (with_reducible refine Bel.drew ?_) | (with_reducible refine Bel.alloc ?_ _) | (with_reducible refine Bel.setNew ?_ ?_ _) | (with_reducible refine Bel.trans ?_ (by assumption)) | (focus (simp; done)) | (focus (simp; omega))))⟩
  · refine rd_made ?_ _ _ 3 1 ?_ (by unfold maxLen; omega)
    · simp
    · rfl
  · rw [List.mem_singleton] at hm
    subst hm
    exact HI.out

theorem canU_zero {M B : Int} {u v : Bu} (h1 : v.sec ≠ u.sec + u.cnt) (h2 : u.sec ≠ v.sec + v.cnt) : canU M B u v = 0 := by
  unfold canU
  split
  · rw [if_neg (fun h => h1 h.1), if_neg (fun h => h2 h.1)]
  · rfl
def atI : Nat → Int
  | 0 => 9
  | 1 => 3
  | _ => 4
def mP (i : Nat) : Bu := mbU (i : Int) 0 2 (atI i) (dataB (i : Int) 1) 1
def PA : Nat → List Bu
  | 0 => []
  | 1 => [mP 0]
  | 2 => [mP 0, mP 1]
  | _ => [mP 0, joinU (mP 1) (mP 2) 1]
theorem mP_ok (i : Nat) : okU (mP i) = true := by
  have h : 0 ≤ atI i ∧ atI i ≤ 9 := by unfold atI; split <;> omega
  exact mb_ok h.1 (by decide) (by omega) (.inr ⟨rfl, by rw [dataB_size]; rfl⟩)
theorem nb12 : Nb (mP 1) (mP 2) :=
  mb_nb (s := 3) (by decide) (by decide) (by decide) (by decide) (by decide) (.inr ⟨rfl, by rw [dataB_size]; rfl⟩) (.inr ⟨rfl, by rw [dataB_size]; rfl⟩)
theorem PA_next : ∀ i < 3, addP 8 0 (PA i) (mP i) = (PA (i + 1), true)
  | 0, _ => addP_snoc (mP_ok 0) (by decide) (fun j hj => by cases hj) (by decide)
  | 1, _ => by
    refine addP_snoc (mP_ok 1) (by decide) (fun j hj => ?_) (by decide)
    obtain rfl : j = 0 := by simp [PA] at hj; omega
    exact goodI_no (a := mP 0) rfl (.inl (canU_zero (by show (3 : Int) ≠ 9 + 1; decide) (by show (9 : Int) ≠ 3 + 1; decide)))
  | 2, _ => by
    have hc : canU 8 0 (mP 1) (mP 2) = 1 := by
      unfold canU
      rw [if_pos nb12.alike, if_pos ⟨rfl, (by decide : fits 8 0 3 (1 + 1) = true)⟩]
    rw [addP_join (a := mP 1) (i := 1) (mP_ok 2) (by decide) rfl (by rw [hc]; decide) rfl (fun j hj => by
      obtain rfl : j = 0 := by omega
      exact goodI_no (a := mP 0) rfl (.inl (canU_zero (by show (4 : Int) ≠ 9 + 1; decide) (by show (9 : Int) ≠ 4 + 1; decide)))), hc]
    rfl
theorem PA_J : joinU (mP 1) (mP 2) 1 = pairU (mP 1) (mP 2) (mP 1) (mP 2) := nb12.join
theorem PA_small : ∀ i ≤ 3, (PA i).length ≤ 2 ∧ ∀ u ∈ PA i, u.ms.length ≤ 2
  | 0, _ => ⟨by decide, fun u h => by cases h⟩
  | 1, _ => ⟨by simp [PA], fun u h => by simp [PA] at h; subst h; decide⟩
  | 2, _ => ⟨by simp [PA], fun u h => by simp [PA] at h; rcases h with rfl | rfl <;> decide⟩
  | 3, _ => ⟨by simp [PA], fun u h => by
      simp only [PA, List.mem_cons, List.not_mem_nil, or_false] at h
      rcases h with rfl | rfl
      · decide
      · rw [PA_J]; exact Nat.le_refl 2⟩
theorem ord_two {a b : Bu} (h : confU a b = false) (hs : b.sec < a.sec) : ordP [a, b] = [1, 0] := by
  have hw : ∀ T, wAt [a, b] T 1 0 = false := fun T => by
    unfold wAt
    split
    · rename_i e1 e2 e3
      simp at e2 e3
      subst e2; subst e3
      exact h
    · rfl
  have w0 : ∀ T, waitsP [a, b] T 0 = false := fun T => rfl
  have w1 : ∀ T, waitsP [a, b] T 1 = false := fun T => by simp [waitsP, List.range_succ, hw]
  have e1 : ordR [a, b] 1 = ([false, true], [1]) := by
    simp [ordR, pickO, freeP, offB, w0, w1, secI, hs, List.replicate]
  have e2 : ordR [a, b] 2 = ([true, true], [1, 0]) := by
    rw [ordR, e1]
    simp [pickO, freeP, offB, w0, w1, secI]
  show (ordR [a, b] 2).2 = _
  rw [e2]
theorem PA_drain : drainP (PA 3) = [joinU (mP 1) (mP 2) 1, mP 0] := by
  have hc : confU (mP 0) (joinU (mP 1) (mP 2) 1) = false := by
    rw [PA_J]
    have hm : meetB (mP 0).bm.b (pairU (mP 1) (mP 2) (mP 1) (mP 2)).bm.b = false := by
      unfold meetB
      rw [decide_eq_false_iff_not]
      rintro ⟨-, h1, h2⟩
      have : (9 : Int) < 3 + (1 + 1) := h1
      omega
    unfold confU confB
    rw [hm, Bool.and_false]
  have ho : ordP (PA 3) = [1, 0] := ord_two hc (by rw [PA_J]; show (3 : Int) < 9; decide)
  unfold drainP
  rw [ho]
  rfl
end Go.Proofs.Ytbijfmpmgmfpgaa
