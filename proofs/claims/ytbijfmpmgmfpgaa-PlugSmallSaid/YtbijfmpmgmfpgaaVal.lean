/- merge.Valid. -/
import Derived.Test.YtbijfmpmgmfpgaaMems
namespace Go.Proofs.Ytbijfmpmgmfpgaa
open Go.RowKit Go.Maps
set_option linter.unusedSimpArgs false

theorem Try.keyInt : Keyed Try.prog 3 := int_keyed Try.underlying3
theorem Try.zeroBool (w : World) : (zeroValue 4).run Try.prog w = .ok (.bool false) w := by kernel_rfl
theorem dat_some {d : ByteArray} (h : 0 < d.size) : d.toList.isEmpty = false := by
  rw [ByteArray.toList_eq]
  cases hl : d.data.toList with
  | nil => have : d.data.toList.length = 0 := by rw [hl]; rfl
           have e : d.data.toList.length = d.size := by simp
           omega
  | cons => rfl
theorem dat_some' {d : ByteArray} (h : 0 < d.size) : (!d.toList.isEmpty) = true := by rw [dat_some h]; rfl
theorem dat_none {d : ByteArray} (h : d.size = 0) : d.toList.isEmpty = true := by
  rw [ByteArray.toList_eq]
  have : d.data.toList.length = 0 := by simpa using h
  cases hl : d.data.toList with
  | nil => rfl
  | cons => rw [hl] at this; simp at this
theorem dat_none' {d : ByteArray} (h : d.size = 0) : (!d.toList.isEmpty) = false := by rw [dat_none h]; rfl
theorem not_head {b : Bun} {ms : List Mem} (h : ¬ (0 ≤ b.sec ∧ b.sec < 128 ∧ 1 ≤ b.cnt ∧ b.cnt ≤ 128 - b.sec)) : validB b ms = false := by
  have : rangeOk b = false := by simp only [rangeOk, decide_eq_false_iff_not]; exact h
  simp [validB, this]
theorem not_data {b : Bun} {ms : List Mem} (h : dataOk b = false) : validB b ms = false := by simp [validB, h]

set_option maxRecDepth 100000 in
set_option maxHeartbeats 4000000 in
theorem mergeValid_no (b : Bun) (w : World) (h : ¬ (0 ≤ b.sec ∧ b.sec < 128 ∧ 1 ≤ b.cnt ∧ b.cnt ≤ 128 - b.sec)) :
    Calls Try.prog 18 #[.agg #[.int .i64 (b).id, .int .i64 (b).ten, .int .i64 (b).knd, .int .i64 (b).sec, .int .i64 (b).cnt, .string (b).dat, .bool (b).fua, .slice (b).mA (b).mL (b).mC, .int .i64 (b).tim]] w fun e w' => e = .returned (.bool false) ∧ Bel w w' := by
  obtain ⟨id, ten, knd, sec, cnt, dat, fua, mA, mL, mC, tim⟩ := b
  simp only at h ⊢
  by_cases h1 : sec < 0
  · have h1' := h1
    go_enter Try.func18, Try.ntmps18
    go_wp2
    go_ret
    exact ⟨rfl, (by repeat (first | (with_reducible exact Bel.refl _) | (with_reducible assumption) | (with_reducible refine Bel.drewN ?_ _) | (with_reducible refine Bel.drew ?_) | (with_reducible refine Bel.alloc ?_ _) | (with_reducible refine Bel.setNew ?_ ?_ _) | (with_reducible refine Bel.trans ?_ (by assumption)) | (focus (simp; done)) | (focus (simp; omega))))⟩
  · by_cases h2 : sec < 128
    · by_cases h3 : cnt < 1
      · go_enter Try.func18, Try.ntmps18
        go_wp2
        go_ret
        exact ⟨rfl, (by repeat (first | (with_reducible exact Bel.refl _) | (with_reducible assumption) | (with_reducible refine Bel.drewN ?_ _) | (with_reducible refine Bel.drew ?_) | (with_reducible refine Bel.alloc ?_ _) | (with_reducible refine Bel.setNew ?_ ?_ _) | (with_reducible refine Bel.trans ?_ (by assumption)) | (focus (simp; done)) | (focus (simp; omega))))⟩
      · have h4 : 128 - sec < cnt := by omega
        clear h
        go_enter Try.func18, Try.ntmps18
        go_wp2
        go_ret
        exact ⟨rfl, (by repeat (first | (with_reducible exact Bel.refl _) | (with_reducible assumption) | (with_reducible refine Bel.drewN ?_ _) | (with_reducible refine Bel.drew ?_) | (with_reducible refine Bel.alloc ?_ _) | (with_reducible refine Bel.setNew ?_ ?_ _) | (with_reducible refine Bel.trans ?_ (by assumption)) | (focus (simp; done)) | (focus (simp; omega))))⟩
    · go_enter Try.func18, Try.ntmps18
      go_wp2
      go_ret
      exact ⟨rfl, (by repeat (first | (with_reducible exact Bel.refl _) | (with_reducible assumption) | (with_reducible refine Bel.drewN ?_ _) | (with_reducible refine Bel.drew ?_) | (with_reducible refine Bel.alloc ?_ _) | (with_reducible refine Bel.setNew ?_ ?_ _) | (with_reducible refine Bel.trans ?_ (by assumption)) | (focus (simp; done)) | (focus (simp; omega))))⟩

set_option maxRecDepth 100000 in
set_option maxHeartbeats 4000000 in
theorem mergeValid_nodata (b : Bun) (w : World) (h : 0 ≤ b.sec ∧ b.sec < 128 ∧ 1 ≤ b.cnt ∧ b.cnt ≤ 128 - b.sec) (hd : dataOk b = false) (hl : b.dat.size ≤ maxLen) :
    Calls Try.prog 18 #[.agg #[.int .i64 (b).id, .int .i64 (b).ten, .int .i64 (b).knd, .int .i64 (b).sec, .int .i64 (b).cnt, .string (b).dat, .bool (b).fua, .slice (b).mA (b).mL (b).mC, .int .i64 (b).tim]] w fun e w' => e = .returned (.bool false) ∧ Bel w w' := by
  obtain ⟨id, ten, knd, sec, cnt, dat, fua, mA, mL, mC, tim⟩ := b
  simp only at h ⊢
  obtain ⟨h1, h2, h3, h4⟩ := h
  unfold dataOk at hd
  unfold maxLen at hl
  simp only at hd hl
  by_cases k1 : knd = 1
  · subst k1
    have hd2 : 0 < dat.size := by simp only [if_true, decide_eq_false_iff_not] at hd; omega
    have hd3 := dat_some hd2
    have hd4 := dat_some' hd2
    clear hd
    go_enter Try.func18, Try.ntmps18
    go_wp2
    go_ret
    exact ⟨rfl, (by repeat (first | (with_reducible exact Bel.refl _) | (with_reducible assumption) | (with_reducible refine Bel.drewN ?_ _) | (with_reducible refine Bel.drew ?_) | (with_reducible refine Bel.alloc ?_ _) | (with_reducible refine Bel.setNew ?_ ?_ _) | (with_reducible refine Bel.trans ?_ (by assumption)) | (focus (simp; done)) | (focus (simp; omega))))⟩
  · rw [if_neg k1] at hd
    have k1' : (knd == 1) = false := by simpa using k1
    have HK := Lib.hid k1
    clear k1
    by_cases k2 : knd = 2
    · subst k2
      simp only [if_true] at hd
      have hd2 : ((dat.size : Int) != cnt * 8) = true := by simpa using hd
      clear hd
      go_enter Try.func18, Try.ntmps18
      go_wp2
      go_ret
      exact ⟨rfl, (by repeat (first | (with_reducible exact Bel.refl _) | (with_reducible assumption) | (with_reducible refine Bel.drewN ?_ _) | (with_reducible refine Bel.drew ?_) | (with_reducible refine Bel.alloc ?_ _) | (with_reducible refine Bel.setNew ?_ ?_ _) | (with_reducible refine Bel.trans ?_ (by assumption)) | (focus (simp; done)) | (focus (simp; omega))))⟩
    · have k2' : (knd == 2) = false := by simpa using k2
      have HK2 := Lib.hid k2
      clear k2 hd
      go_enter Try.func18, Try.ntmps18
      go_wp2
      go_ret
      exact ⟨rfl, (by repeat (first | (with_reducible exact Bel.refl _) | (with_reducible assumption) | (with_reducible refine Bel.drewN ?_ _) | (with_reducible refine Bel.drew ?_) | (with_reducible refine Bel.alloc ?_ _) | (with_reducible refine Bel.setNew ?_ ?_ _) | (with_reducible refine Bel.trans ?_ (by assumption)) | (focus (simp; done)) | (focus (simp; omega))))⟩
end Go.Proofs.Ytbijfmpmgmfpgaa
