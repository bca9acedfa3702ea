/- dock.Data: letters that a number chooses. -/
import Derived.Test.YtbijfmpmgmfpgaaRows2
import Derived.Laws.OwnMore
import Derived.Laws.IdiomStrings
namespace Go.Proofs.Ytbijfmpmgmfpgaa
open Go.RowKit
set_option linter.unusedSimpArgs false

def dataN (n : Int) (i : Nat) : Int := rnd (wrap64 (wrap64 (n + (i : Int) / 4 * 7) + (i : Int) / 8 * 3)) 26
def dataL (n : Int) (m : Nat) : List UInt8 := (List.range m).map fun i => UInt8.ofNat (97 + (dataN n i).toNat)
def dataB (n : Int) (k : Nat) : ByteArray := ⟨(dataL n (k * 8)).toArray⟩
theorem dataN_bd (n : Int) (i : Nat) : 0 ≤ dataN n i ∧ dataN n i < 26 := ⟨rnd_lo _ _, rnd_hi _ _ (by omega)⟩
theorem dataL_len (n : Int) (m : Nat) : (dataL n m).length = m := by simp [dataL]
theorem dataB_size (n : Int) (k : Nat) : (dataB n k).size = k * 8 := by
  have : (dataB n k).size = (dataB n k).data.size := rfl
  rw [this]; simp [dataB, dataL_len]
theorem dataL_at {n : Int} {m j : Nat} (h : j < (dataL n m).length) : ((dataL n m)[j].toNat : Int) = 97 + dataN n j := by
  have hb := dataN_bd n j
  simp only [dataL, List.getElem_map, List.getElem_range]
  rw [UInt8.toNat_ofNat']
  omega
theorem Try.infoByte : (Try.prog.info? 5).map (fun i => (i.zero, i.size, i.bytes)) = some (some (.int .u8 0), 1, 1) := by kernel_rfl

set_option maxHeartbeats 4000000 in
theorem data_any (n : Int) (k : Nat) (w : World) (hk : k ≤ 1000) (hk0 : 0 < k) :
    Calls Try.prog 15 #[.int .i64 n, .int .i64 (k : Int)] w fun e w' => e = .returned (.string (dataB n k)) ∧ Bel w w' := by
  obtain ⟨i0, hi0, hz0, hz1, hz2⟩ := info_parts Try.infoByte
  obtain ⟨N, hN⟩ : ∃ N, N = k * 8 := ⟨_, rfl⟩
  obtain ⟨wm, hmk, hown, hgr⟩ := run_makeSlice_full (P := Try.prog) (w := w) w.heap.size 83 5 i0 (.int .u8 0) 1 Try.underlying83 hi0 hz0 hz1 .i64 .i64 N (by omega) (by rw [hz2]; omega) (by unfold maxLen; omega) (Nat.le_refl _)
  have hbm : Bel w wm := Below.grown (Below.refl _ w) hgr (Nat.le_refl _) (fun _ h => by cases h)
  have hm9 : (if (0 : Int) < (k : Int) then (k : Int) else 0) = (k : Int) := by split <;> omega
  have hN2 : (k : Int) * 8 = (N : Int) := by omega
  obtain ⟨R, HR⟩ : ∃ R, Hid (R = dataB n k) := ⟨_, rfl⟩
  rw [← HR.out]
  have HN := Lib.hid hN
  have HN2 : N ≤ 8000 := by omega
  clear hN
  go_enter Try.func15, Try.ntmps15
  go_wp2
  have hxs : Hid (∀ j, j < 0 → (madeCells (Value.int IntKind.u8 0).cells (N * 1)).toList[j]? = some (.int .u8 (97 + dataN n j))) := fun j hj => absurd hj (by omega)
  generalize (madeCells (Value.int IntKind.u8 0).cells (N * 1)).toList = xs0 at *
  clear hmk hm9 hN2 hgr
  go_loopw [6] (fun iv wr => ∃ (i : Nat) (xs : List Value), iv = .int .i64 i ∧ i ≤ N ∧ Hid (∀ j, j < i → xs[j]? = some (.int .u8 (97 + dataN n j))) ∧ wr.ownsRow w.heap.size 5 1 (.slice (some ⟨w.heap.size, 0, none⟩) N N) N xs ∧ Bel w wr) (fun iv _ => N - (intOf iv).toNat)
  case atStart => exact ⟨0, xs0, rfl, by omega, hxs, hown, hbm⟩
  case round =>
    obtain ⟨i, xs, rfl, p1, HX, hown, hbr⟩ := hrel
    clear hxs hbm
    by_cases hlt : i < N
    · have i1 : (i : Int) < (N : Int) := by omega
      have hlen := hown.1
      obtain ⟨u, hu⟩ : ∃ u, xs[i]? = some u := ⟨xs[i]'(by omega), List.getElem?_eq_getElem _⟩
      have c0 := (hown.cellAt i (by omega)).trans hu
      have cf := hown.frozenAt i
      obtain ⟨D, HD⟩ : ∃ D, Hid (D = dataN n i) := ⟨_, rfl⟩
      have hD := dataN_bd n i
      rw [← HD.out] at hD
      obtain ⟨hD1, hD2⟩ := hD
      have hst := hown.stored i (.int .u8 (97 + D))
      have HS := Lib.hid hst
      have HX2 : Hid (∀ j, j < i + 1 → (xs.set i (.int .u8 (97 + D)))[j]? = some (.int .u8 (97 + dataN n j))) := by
        intro j hj
        by_cases e : j = i
        · subst e; rw [List.getElem?_set_self (by omega), HD.out]
        · rw [List.getElem?_set_ne (Ne.symm e)]; exact HX.out j (by omega)
      have HU := Lib.hid hu
      have hwl := (hown.lt w.heap.size rfl).2
      clear hst hu hlen
      go_wp2_with fail
      refine (round_any _ 26 _ (by omega)).mono ?_; rw [show rnd (wrap64 (wrap64 (n + (i : Int) / 4 * 7) + (i : Int) / 8 * 3)) 26 = D from HD.out.symm]; rintro e w1 ⟨rfl, rfl⟩
      go_wp2
      go_roundw
      case rel => exact ⟨i + 1, xs.set i (.int .u8 (97 + D)), by go_num, by omega, HX2, HS.out.1, hbr.setNew (Nat.le_refl _) _⟩
      case measure => simp [intOf]; omega
    · obtain rfl : i = N := by omega
      have i1 : decide ((i : Int) < (i : Int)) = false := by simp
      have hcv := run_convert_bytes_back (P := Try.prog) wr 83 9 5 ⟨w.heap.size, 0, none⟩ i (dataL n i) Try.underlying83 Try.underlying5 Try.underlying9 (fun j hj => by
        rw [add_zero_off]
        have hj2 : j < i := by rw [dataL_len] at hj; exact hj
        rw [dataL_at hj]
        exact (hown.cellAt j (by omega)).trans (HX.out j hj2))
      rw [dataL_len] at hcv
      have HF : Hid (R = ⟨(dataL n i).toArray⟩) := by show _ = _; rw [HR.out, dataB, HN.out]
      generalize (dataL n i) = dl at *
      go_wp2
      go_ret
      exact ⟨by rw [HF.out]; rfl, (by repeat (first | (with_reducible exact Bel.refl _) | (with_reducible assumption) | (with_reducible refine Bel.drewN ?_ _) | (with_reducible refine Bel.drew ?_) | (with_reducible refine Bel.alloc ?_ _) | (with_reducible refine Bel.setNew ?_ ?_ _) | (with_reducible refine Bel.trans ?_ (by assumption)) | (focus (simp; done)) | (focus (simp; omega))))⟩
end Go.Proofs.Ytbijfmpmgmfpgaa
