/- Lemmas and walks that the statements share, part K10. -/
import Derived.Test.YtpgjbocjhconoaaK1
import Derived.Laws.OwnMore
import Derived.Laws.IdiomStrings
import Derived.Test.YtpgjbocjhconoaaK2
import Derived.Test.YtpgjbocjhconoaaK3
import Derived.Test.YtpgjbocjhconoaaK8
/- dock.Data: letters that a number chooses. -/
namespace Go.Proofs.Ytpgjbocjhconoaa
open Go.RowKit
set_option linter.unusedSimpArgs false

def dataN (n : Int) (i : Nat) : Int := rnd (wrap64 (wrap64 (n + (i : Int) / 4 * 7) + (i : Int) / 8 * 3)) 26
def dataL (n : Int) (m : Nat) : List UInt8 := (List.range m).map fun i => UInt8.ofNat (97 + (dataN n i).toNat)
def dataB (n : Int) (k : Nat) : ByteArray := ⟨(dataL n (k * 8)).toArray⟩
theorem dataN_bd (n : Int) (i : Nat) : 0 ≤ dataN n i ∧ dataN n i < 26 := ⟨rnd_lo _ _, rnd_hi _ _ (by omega)⟩
theorem dataL_len (n : Int) (m : Nat) : (dataL n m).length = m := by simp [dataL]
theorem dataB_size (n : Int) (k : Nat) : (dataB n k).size = k * 8 := by
  have : (dataB n k).size = (dataB n k).data.size := rfl
  rw [this]; simp [dataB, dataL_len]
theorem dataL_at {n : Int} {m j : Nat} (h : j < (dataL n m).length) : ((dataL n m)[j].toNat : Int) = 97 + dataN n j := by
  have hb := dataN_bd n j
  simp only [dataL, List.getElem_map, List.getElem_range]
  rw [UInt8.toNat_ofNat']
  omega
theorem Try.infoByte : (Try.prog.info? 5).map (fun i => (i.zero, i.size, i.bytes)) = some (some (.int .u8 0), 1, 1) := by kernel_rfl

set_option maxHeartbeats 4000000 in
theorem data_any (n : Int) (k : Nat) (w : World) (hk : k ≤ 1000) (hk0 : 0 < k) :
    Calls Try.prog 57 #[.int .i64 n, .int .i64 (k : Int)] w fun e w' => e = .returned (.string (dataB n k)) ∧ Bel w w' := by
  obtain ⟨i0, hi0, hz0, hz1, hz2⟩ := info_parts Try.infoByte
  obtain ⟨N, hN⟩ : ∃ N, N = k * 8 := ⟨_, rfl⟩
  obtain ⟨wm, hmk, hown, hgr⟩ := run_makeSlice_full (P := Try.prog) (w := w) w.heap.size 126 5 i0 (.int .u8 0) 1 Try.underlying126 hi0 hz0 hz1 .i64 .i64 N (by omega) (by rw [hz2]; omega) (by unfold maxLen; omega) (Nat.le_refl _)
  have hbm : Bel w wm := Below.grown (Below.refl _ w) hgr (Nat.le_refl _) (fun _ h => by cases h)
  have hm9 : (if (0 : Int) < (k : Int) then (k : Int) else 0) = (k : Int) := by split <;> omega
  have hN2 : (k : Int) * 8 = (N : Int) := by omega
  obtain ⟨R, HR⟩ : ∃ R, Hid (R = dataB n k) := ⟨_, rfl⟩
  rw [← HR.out]
  have HN := Lib.hid hN
  have HN2 : N ≤ 8000 := by omega
  clear hN
  go_enter Try.func57, Try.ntmps57
  go_wp2
  have hxs : Hid (∀ j, j < 0 → (madeCells (Value.int IntKind.u8 0).cells (N * 1)).toList[j]? = some (.int .u8 (97 + dataN n j))) := fun j hj => absurd hj (by omega)
  generalize (madeCells (Value.int IntKind.u8 0).cells (N * 1)).toList = xs0 at *
  clear hmk hm9 hN2 hgr
  go_loopw [6] (fun iv wr => ∃ (i : Nat) (xs : List Value), iv = .int .i64 i ∧ i ≤ N ∧ Hid (∀ j, j < i → xs[j]? = some (.int .u8 (97 + dataN n j))) ∧ wr.ownsRow w.heap.size 5 1 (.slice (some ⟨w.heap.size, 0, none⟩) N N) N xs ∧ Bel w wr) (fun iv _ => N - (intOf iv).toNat)
  case atStart => exact ⟨0, xs0, rfl, by omega, hxs, hown, hbm⟩
  case round =>
    obtain ⟨i, xs, rfl, p1, HX, hown, hbr⟩ := hrel
    clear hxs hbm
    by_cases hlt : i < N
    · have i1 : (i : Int) < (N : Int) := by omega
      have hlen := hown.1
      obtain ⟨u, hu⟩ : ∃ u, xs[i]? = some u := ⟨xs[i]'(by omega), List.getElem?_eq_getElem _⟩
      have c0 := (hown.cellAt i (by omega)).trans hu
      have cf := hown.frozenAt i
      obtain ⟨D, HD⟩ : ∃ D, Hid (D = dataN n i) := ⟨_, rfl⟩
      have hD := dataN_bd n i
      rw [← HD.out] at hD
      obtain ⟨hD1, hD2⟩ := hD
      have hst := hown.stored i (.int .u8 (97 + D))
      have HS := Lib.hid hst
      have HX2 : Hid (∀ j, j < i + 1 → (xs.set i (.int .u8 (97 + D)))[j]? = some (.int .u8 (97 + dataN n j))) := by
        intro j hj
        by_cases e : j = i
        · subst e; rw [List.getElem?_set_self (by omega), HD.out]
        · rw [List.getElem?_set_ne (Ne.symm e)]; exact HX.out j (by omega)
      have HU := Lib.hid hu
      have hwl := (hown.lt w.heap.size rfl).2
      clear hst hu hlen
      go_wp2_with fail
      refine (round_any _ 26 _ (by omega)).mono ?_; rw [show rnd (wrap64 (wrap64 (n + (i : Int) / 4 * 7) + (i : Int) / 8 * 3)) 26 = D from HD.out.symm]; rintro e w1 ⟨rfl, rfl⟩
      go_wp2
      go_roundw
      case rel => exact ⟨i + 1, xs.set i (.int .u8 (97 + D)), by go_num, by omega, HX2, HS.out.1, hbr.setNew (Nat.le_refl _) _⟩
      case measure => simp [intOf]; omega
    · obtain rfl : i = N := by omega
      have i1 : decide ((i : Int) < (i : Int)) = false := by simp
      have hcv := run_convert_bytes_back (P := Try.prog) wr 126 9 5 ⟨w.heap.size, 0, none⟩ i (dataL n i) Try.underlying126 Try.underlying5 Try.underlying9 (fun j hj => by
        rw [add_zero_off]
        have hj2 : j < i := by rw [dataL_len] at hj; exact hj
        rw [dataL_at hj]
        exact (hown.cellAt j (by omega)).trans (HX.out j hj2))
      rw [dataL_len] at hcv
      have HF : Hid (R = ⟨(dataL n i).toArray⟩) := by show _ = _; rw [HR.out, dataB, HN.out]
      generalize (dataL n i) = dl at *
      go_wp2
      go_ret
      exact ⟨by rw [HF.out]; rfl, (by repeat (first | (with_reducible exact Bel.refl _) | (with_reducible assumption) | (with_reducible refine Bel.drewN ?_ _) | (with_reducible refine Bel.drew ?_) | (with_reducible refine Bel.alloc ?_ _) | (with_reducible refine Bel.setNew ?_ ?_ _) | (with_reducible refine Bel.trans ?_ (by assumption)) | (focus (simp; done)) | (focus (simp; omega))))⟩
end Go.Proofs.Ytpgjbocjhconoaa

/- dock.Bunch: a valid bunch that a number chooses. -/
namespace Go.Proofs.Ytpgjbocjhconoaa
open Go.RowKit
set_option linter.unusedSimpArgs false

def bnC (n : Int) : Int := rnd (n / 256) 3
def bnK (n : Int) : Int := rnd (n / 4) 2
def bnTwo (n : Int) : Bool := decide (1 ≤ bnC n ∧ rnd (n / 262144) 3 = 0)
def bnM (n : Int) (id : Nat) : List Mem := if bnTwo n then [⟨2 * (id : Int), 0, 1⟩, ⟨2 * (id : Int) + 1, 1, 1 + bnC n - 1⟩] else [⟨2 * (id : Int), 0, 1 + bnC n⟩]
def bnD (n : Int) : ByteArray := if bnK n = 1 then dataB (n / 1048576) (bnC n + 1).toNat else ⟨#[]⟩
/-- The bunch, its members in block A. -/
def bnB (n : Int) (id : Nat) (A : Nat) : Bun := ⟨2 * (id : Int), rnd n 3, 1 + bnK n, rnd (n / 16) 14, 1 + bnC n, bnD n, rnd (n / 1024) 8 == 0, some ⟨A, 0, none⟩, (bnM n id).length, (bnM n id).length, rnd (n / 8192) 30⟩
theorem bnC_bd (n : Int) : 0 ≤ bnC n ∧ bnC n < 3 := ⟨rnd_lo _ _, rnd_hi _ _ (by omega)⟩
theorem bnK_bd (n : Int) : 0 ≤ bnK n ∧ bnK n < 2 := ⟨rnd_lo _ _, rnd_hi _ _ (by omega)⟩
theorem bn_valid (n : Int) (id A : Nat) : validB (bnB n id A) (bnM n id) = true := by
  have hc := bnC_bd n
  have hk := bnK_bd n
  have hs := rnd_lo (n / 16) 14
  have hs2 := rnd_hi (n / 16) 14 (by omega)
  unfold validB
  simp only [Bool.and_eq_true]
  refine ⟨⟨?_, ?_⟩, ?_⟩
  · exact decide_eq_true ⟨hs, show rnd (n / 16) 14 < 128 by omega, show 1 ≤ 1 + bnC n by omega, show 1 + bnC n ≤ 128 - rnd (n / 16) 14 by omega⟩
  · by_cases h : bnK n = 1
    · have hd : (bnD n).size = (bnC n + 1).toNat * 8 := by unfold bnD; rw [if_pos h, dataB_size]
      unfold dataOk
      rw [if_neg (show ¬ (bnB n id A).knd = 1 from fun e => by have : 1 + bnK n = 1 := e; omega), if_pos (show (bnB n id A).knd = 2 from by show 1 + bnK n = 2; omega)]
      exact decide_eq_true (by show ((bnD n).size : Int) = (1 + bnC n) * 8; omega)
    · have h0 : bnK n = 0 := by omega
      have hd : (bnD n).size = 0 := by unfold bnD; rw [if_neg h]; rfl
      unfold dataOk
      rw [if_pos (show (bnB n id A).knd = 1 from by show 1 + bnK n = 1; omega)]
      exact decide_eq_true hd
  · simp only [bnB, bnM]
    by_cases h : bnTwo n = true
    · have h1 : 1 ≤ bnC n := by simp only [bnTwo, decide_eq_true_eq] at h; exact h.1
      rw [if_pos h]
      simp [memOk]
      omega
    · rw [if_neg h]
      simp [memOk]
      omega
theorem bnM_ids (n : Int) (id : Nat) (hi : id ≤ 1000) : ∀ m ∈ bnM n id, IsInt m.id := by
  intro m hm
  unfold bnM at hm
  unfold IsInt
  split at hm
  · simp at hm
    rcases hm with rfl | rfl <;> simp <;> omega
  · simp at hm
    subst hm
    simp; omega
theorem bnD_size (n : Int) : (bnD n).size ≤ maxLen := by
  have hc := bnC_bd n
  unfold bnD maxLen
  split
  · rw [dataB_size]; omega
  · show (0 : Nat) ≤ _; omega
theorem bn_mems {n : Int} {id : Nat} {A : Nat} {w : World} (hi : id ≤ 1000) (h : Rd w (.slice (some ⟨A, 0, none⟩) (bnM n id).length (bnM n id).length) 3 (bnM n id).length (mcells (bnM n id))) : Mems w (bnB n id A) (bnM n id) :=
  ⟨rfl, h, bnM_ids n id hi, bnD_size n⟩

theorem rd_made {W : World} {g : Nat} (hg : g = W.heap.size) (t : TypeId) (cs : List Value) (size n : Nat) (h : cs.length = n * size) (hm : n ≤ maxLen) : Rd (W.alloc (.cells cs.toArray t)) (.slice (some ⟨g, 0, none⟩) n n) size n cs := by
  subst hg; exact Rd.new _ _ _ _ _ h hm

set_option maxRecDepth 100000 in
set_option maxHeartbeats 8000000 in
theorem bunchF_any (n : Int) (id : Nat) (w : World) (hi : id ≤ 1000) :
    Calls Try.prog 21 #[.int .i64 n, .int .i64 (id : Int)] w fun e w' => ∃ A, e = .returned (.agg (bnB n id A).arr) ∧ w.heap.size ≤ A ∧ (Mems w' (bnB n id A) (bnM n id) ∧ AtF w' A (mcells (bnM n id))) ∧ Bel w w' := by
  have hc := bnC_bd n
  have hk := bnK_bd n
  have HCON := Lib.hid (fun A w' => bn_mems (n := n) (A := A) (w := w') hi)
  have HDT := Lib.hid (fun w' => data_any (n / 1048576) (bnC n + 1).toNat w' (by omega) (by omega))
  have hC1 : (((bnC n + 1).toNat : Nat) : Int) = 1 + bnC n := by omega
  rw [hC1] at HDT
  have HB := Lib.hid (fun A => show bnB n id A = ⟨2 * (id : Int), rnd n 3, 1 + bnK n, rnd (n / 16) 14, 1 + bnC n, bnD n, rnd (n / 1024) 8 == 0, some ⟨A, 0, none⟩, (bnM n id).length, (bnM n id).length, rnd (n / 8192) 30⟩ from rfl)
  have HD := Lib.hid (show bnD n = if bnK n = 1 then dataB (n / 1048576) (bnC n + 1).toNat else ⟨#[]⟩ from rfl)
  have HM := Lib.hid (show bnM n id = if bnTwo n then [⟨2 * (id : Int), 0, 1⟩, ⟨2 * (id : Int) + 1, 1, 1 + bnC n - 1⟩] else [⟨2 * (id : Int), 0, 1 + bnC n⟩] from rfl)
  have HT := Lib.hid (show bnTwo n = decide (1 ≤ bnC n ∧ rnd (n / 262144) 3 = 0) from rfl)
  generalize bnM n id = ms at *
  generalize bnD n = dd at *
  generalize bnTwo n = two at *
  generalize dataB (n / 1048576) (bnC n + 1).toNat = db at *
  obtain ⟨c, Hc⟩ : ∃ c, Hid (c = bnC n) := ⟨_, rfl⟩
  obtain ⟨k, Hk⟩ : ∃ k, Hid (k = bnK n) := ⟨_, rfl⟩
  obtain ⟨a3, H3⟩ : ∃ a, Hid (a = rnd n 3) := ⟨_, rfl⟩
  obtain ⟨s, Hs⟩ : ∃ a, Hid (a = rnd (n / 16) 14) := ⟨_, rfl⟩
  obtain ⟨f, Hf⟩ : ∃ a, Hid (a = rnd (n / 1024) 8) := ⟨_, rfl⟩
  obtain ⟨t, Ht⟩ : ∃ a, Hid (a = rnd (n / 8192) 30) := ⟨_, rfl⟩
  obtain ⟨p, Hp⟩ : ∃ a, Hid (a = rnd (n / 262144) 3) := ⟨_, rfl⟩
  rw [← Hc.out] at hc HDT HB HM HT
  rw [← Hk.out] at hk HB HD
  rw [← H3.out, ← Hs.out, ← Hf.out, ← Ht.out] at HB
  rw [← Hp.out] at HT
  obtain ⟨c0, c3⟩ := hc
  obtain ⟨k0, k2⟩ := hk
  have e1 : rnd (n / 4) 2 = bnK n := rfl
  have e2 : rnd (n / 256) 3 = bnC n := rfl
  have E1 := Lib.hid e1
  have E2 := Lib.hid e2
  clear hC1 e1 e2
  by_cases hk1 : k = 1
  · subst hk1
    have HDD := Lib.hid (show dd = db from HD.out)
    by_cases hc1 : 1 ≤ c
    · by_cases hp0 : p = 0
      · subst hp0
        have HT2 := Lib.hid (show two = true by rw [HT.out]; simp [hc1])
        have HM2 := Lib.hid (show ms = [⟨2 * (id : Int), 0, 1⟩, ⟨2 * (id : Int) + 1, 1, 1 + c - 1⟩] by rw [HM.out, HT2.out]; rfl)
        go_enter Try.func21, Try.ntmps21
        go_wp2_with fail
        refine (round_any _ _ _ (by omega)).mono ?_; rw [← H3.out]; rintro e w' ⟨rfl, rfl⟩
        go_wp2_with fail
        refine (round_any _ _ _ (by omega)).mono ?_; rw [E1.out, ← Hk.out]; rintro e w' ⟨rfl, rfl⟩
        go_wp2_with fail
        refine (round_any _ _ _ (by omega)).mono ?_; rw [← Hs.out]; rintro e w' ⟨rfl, rfl⟩
        go_wp2_with fail
        refine (round_any _ _ _ (by omega)).mono ?_; rw [E2.out, ← Hc.out]; rintro e w' ⟨rfl, rfl⟩
        go_wp2_with fail
        refine (round_any _ _ _ (by omega)).mono ?_; rw [← Hf.out]; rintro e w' ⟨rfl, rfl⟩
        go_wp2_with fail
        refine (round_any _ _ _ (by omega)).mono ?_; rw [← Ht.out]; rintro e w' ⟨rfl, rfl⟩
        go_wp2_with fail
        refine (round_any _ _ _ (by omega)).mono ?_; rw [← Hp.out]; rintro e w' ⟨rfl, rfl⟩
        go_wp2_with fail
        refine (HDT.out _).mono ?_; rintro e w5 ⟨rfl, hb5⟩
        have hX : AtF w5 (w.heap.size + 1) [.int .i64 (2 * (id : Int)), .int .i64 a3, .int .i64 2, .int .i64 s, .int .i64 (1 + c), .string ⟨#[]⟩, .bool (f == 0), .slice (some ⟨w.heap.size + 1 + 1 + 1, 0, none⟩) 2 2, .int .i64 t] := by
          refine AtF.bel ?_ hb5
          first | exact (AtF.new_at (by simp) _ _).alloc _ | exact ((AtF.new_at (by simp) _ _).alloc _).alloc _
        have hR : AtF w5 w.heap.size [.int .i64 0, .int .i64 0, .int .i64 0, .int .i64 0, .int .i64 0, .string ⟨#[]⟩, .bool false, .slice none 0 0, .int .i64 0] := by
          refine AtF.bel ?_ hb5
          first | exact ((AtF.new_at rfl _ _).alloc _).alloc _ | exact (((AtF.new_at rfl _ _).alloc _).alloc _).alloc _
        have hM : Rd w5 (.slice (some ⟨w.heap.size + 1 + 1 + 1, 0, none⟩) 2 2) 3 2 (mcells ms) := by
          rw [HM2.out]
          refine Rd.bel ?_ hb5
          refine rd_made ?_ _ _ 3 2 ?_ (by unfold maxLen; omega)
          · simp
          · rfl
        have hMF : AtF w5 (w.heap.size + 1 + 1 + 1) (mcells ms) := by
          rw [HM2.out]
          refine AtF.bel ?_ hb5
          exact AtF.new_at (by simp) _ _
        have hbw : Bel w w5 := (by repeat (first | (with_reducible exact Bel.refl _) | (with_reducible assumption) | (with_reducible refine Bel.drewN ?_ _) | (with_reducible refine Bel.drew ?_) | (with_reducible refine Bel.alloc ?_ _) | (with_reducible refine Bel.setNew ?_ ?_ _) | (with_reducible refine Bel.trans ?_ (by assumption)) | (focus (simp; done)) | (focus (simp; omega))))
        clear hb5
        have q0 := (hX).1.2 0 _ rfl
        have q1 := (hX).1.2 1 _ rfl
        have q2 := (hX).1.2 2 _ rfl
        have q3 := (hX).1.2 3 _ rfl
        have q4 := (hX).1.2 4 _ rfl
        have q5 := (hX).1.2 5 _ rfl
        have q6 := (hX).1.2 6 _ rfl
        have q7 := (hX).1.2 7 _ rfl
        have q8 := (hX).1.2 8 _ rfl
        have r0 := (hR).1.2 0 _ rfl
        have r1 := (hR).1.2 1 _ rfl
        have r2 := (hR).1.2 2 _ rfl
        have r3 := (hR).1.2 3 _ rfl
        have r4 := (hR).1.2 4 _ rfl
        have r5 := (hR).1.2 5 _ rfl
        have r6 := (hR).1.2 6 _ rfl
        have r7 := (hR).1.2 7 _ rfl
        have r8 := (hR).1.2 8 _ rfl
        have qf := hX.2
        have ql := hX.1.1
        have rf := hR.2
        have rl := hR.1.1
        have hX2 := hX.set 5 (by simp) (.string db)
        have hM2 := hM.far (p := ⟨w.heap.size + 1, 5, none⟩) (by simp [Value.ownBlock]; try omega) (.string db)
        have hR2 := hR.other (C := w.heap.size + 1) (by omega) 5 (.string db)
        have hMF2 := hMF.other (C := w.heap.size + 1) (by omega) 5 (.string db)
        have hMF3 := AtF.setRow_other (B := w.heap.size) (i := 0) [.int .i64 (2 * (id : Int)), .int .i64 a3, .int .i64 2, .int .i64 s, .int .i64 (1 + c), .string db, .bool (f == 0), .slice (some ⟨w.heap.size + 1 + 1 + 1, 0, none⟩) 2 2, .int .i64 t] hMF2 (by omega)
        go_wp2
        have hR3 := hR2.setRow [.int .i64 (2 * (id : Int)), .int .i64 a3, .int .i64 2, .int .i64 s, .int .i64 (1 + c), .string db, .bool (f == 0), .slice (some ⟨w.heap.size + 1 + 1 + 1, 0, none⟩) 2 2, .int .i64 t] rfl
        have hM3 := Rd.setRow (B := w.heap.size) (i := 0) [.int .i64 (2 * (id : Int)), .int .i64 a3, .int .i64 2, .int .i64 s, .int .i64 (1 + c), .string db, .bool (f == 0), .slice (some ⟨w.heap.size + 1 + 1 + 1, 0, none⟩) 2 2, .int .i64 t] hM2 (by simp [Value.ownBlock]; try omega)
        clear q0 q1 q2 q3 q4 q5 q6 q7 q8 r0 r1 r2 r3 r4 r5 r6 r7 r8
        have r0 := (hR3).1.2 0 _ rfl
        have r1 := (hR3).1.2 1 _ rfl
        have r2 := (hR3).1.2 2 _ rfl
        have r3 := (hR3).1.2 3 _ rfl
        have r4 := (hR3).1.2 4 _ rfl
        have r5 := (hR3).1.2 5 _ rfl
        have r6 := (hR3).1.2 6 _ rfl
        have r7 := (hR3).1.2 7 _ rfl
        have r8 := (hR3).1.2 8 _ rfl
        exact bodyPost_ret (v := .agg #[.int .i64 (2 * (id : Int)), .int .i64 a3, .int .i64 2, .int .i64 s, .int .i64 (1 + c), .string db, .bool (f == 0), .slice (some ⟨w.heap.size + 1 + 1 + 1, 0, none⟩) 2 2, .int .i64 t]) (by simp only [setRow] at r0 r1 r2 r3 r4 r5 r6 r7 r8; simp [results, Try.results21, go_sem, r0, r1, r2, r3, r4, r5, r6, r7, r8]) rfl ⟨w.heap.size + 1 + 1 + 1, by rw [HB.out, HDD.out, HM2.out]; rfl, by omega, ⟨HCON.out _ _ (by rw [show ms.length = 2 by rw [HM2.out]; rfl]; exact hM3), hMF3⟩, Bel.setRow (B := w.heap.size) (i := 0) [.int .i64 (2 * (id : Int)), .int .i64 a3, .int .i64 2, .int .i64 s, .int .i64 (1 + c), .string db, .bool (f == 0), .slice (some ⟨w.heap.size + 1 + 1 + 1, 0, none⟩) 2 2, .int .i64 t] (hbw.setNew (by simp) _) (Nat.le_refl _)⟩
      · have hp1 : (p == 0) = false := by simpa using hp0
        have HT2 := Lib.hid (show two = false by rw [HT.out]; simp [hp0])
        have HM2 := Lib.hid (show ms = [⟨2 * (id : Int), 0, 1 + c⟩] by rw [HM.out, HT2.out]; rfl)
        clear hp0
        go_enter Try.func21, Try.ntmps21
        go_wp2_with fail
        refine (round_any _ _ _ (by omega)).mono ?_; rw [← H3.out]; rintro e w' ⟨rfl, rfl⟩
        go_wp2_with fail
        refine (round_any _ _ _ (by omega)).mono ?_; rw [E1.out, ← Hk.out]; rintro e w' ⟨rfl, rfl⟩
        go_wp2_with fail
        refine (round_any _ _ _ (by omega)).mono ?_; rw [← Hs.out]; rintro e w' ⟨rfl, rfl⟩
        go_wp2_with fail
        refine (round_any _ _ _ (by omega)).mono ?_; rw [E2.out, ← Hc.out]; rintro e w' ⟨rfl, rfl⟩
        go_wp2_with fail
        refine (round_any _ _ _ (by omega)).mono ?_; rw [← Hf.out]; rintro e w' ⟨rfl, rfl⟩
        go_wp2_with fail
        refine (round_any _ _ _ (by omega)).mono ?_; rw [← Ht.out]; rintro e w' ⟨rfl, rfl⟩
        go_wp2_with fail
        refine (round_any _ _ _ (by omega)).mono ?_; rw [← Hp.out]; rintro e w' ⟨rfl, rfl⟩
        go_wp2_with fail
        refine (HDT.out _).mono ?_; rintro e w5 ⟨rfl, hb5⟩
        have hX : AtF w5 (w.heap.size + 1) [.int .i64 (2 * (id : Int)), .int .i64 a3, .int .i64 2, .int .i64 s, .int .i64 (1 + c), .string ⟨#[]⟩, .bool (f == 0), .slice (some ⟨w.heap.size + 1 + 1, 0, none⟩) 1 1, .int .i64 t] := by
          refine AtF.bel ?_ hb5
          first | exact (AtF.new_at (by simp) _ _).alloc _ | exact ((AtF.new_at (by simp) _ _).alloc _).alloc _
        have hR : AtF w5 w.heap.size [.int .i64 0, .int .i64 0, .int .i64 0, .int .i64 0, .int .i64 0, .string ⟨#[]⟩, .bool false, .slice none 0 0, .int .i64 0] := by
          refine AtF.bel ?_ hb5
          first | exact ((AtF.new_at rfl _ _).alloc _).alloc _ | exact (((AtF.new_at rfl _ _).alloc _).alloc _).alloc _
        have hM : Rd w5 (.slice (some ⟨w.heap.size + 1 + 1, 0, none⟩) 1 1) 3 1 (mcells ms) := by
          rw [HM2.out]
          refine Rd.bel ?_ hb5
          refine rd_made ?_ _ _ 3 1 ?_ (by unfold maxLen; omega)
          · simp
          · rfl
        have hMF : AtF w5 (w.heap.size + 1 + 1) (mcells ms) := by
          rw [HM2.out]
          refine AtF.bel ?_ hb5
          exact AtF.new_at (by simp) _ _
        have hbw : Bel w w5 := (by repeat (first | (with_reducible exact Bel.refl _) | (with_reducible assumption) | (with_reducible refine Bel.drewN ?_ _) | (with_reducible refine Bel.drew ?_) | (with_reducible refine Bel.alloc ?_ _) | (with_reducible refine Bel.setNew ?_ ?_ _) | (with_reducible refine Bel.trans ?_ (by assumption)) | (focus (simp; done)) | (focus (simp; omega))))
        clear hb5
        have q0 := (hX).1.2 0 _ rfl
        have q1 := (hX).1.2 1 _ rfl
        have q2 := (hX).1.2 2 _ rfl
        have q3 := (hX).1.2 3 _ rfl
        have q4 := (hX).1.2 4 _ rfl
        have q5 := (hX).1.2 5 _ rfl
        have q6 := (hX).1.2 6 _ rfl
        have q7 := (hX).1.2 7 _ rfl
        have q8 := (hX).1.2 8 _ rfl
        have r0 := (hR).1.2 0 _ rfl
        have r1 := (hR).1.2 1 _ rfl
        have r2 := (hR).1.2 2 _ rfl
        have r3 := (hR).1.2 3 _ rfl
        have r4 := (hR).1.2 4 _ rfl
        have r5 := (hR).1.2 5 _ rfl
        have r6 := (hR).1.2 6 _ rfl
        have r7 := (hR).1.2 7 _ rfl
        have r8 := (hR).1.2 8 _ rfl
        have qf := hX.2
        have ql := hX.1.1
        have rf := hR.2
        have rl := hR.1.1
        have hX2 := hX.set 5 (by simp) (.string db)
        have hM2 := hM.far (p := ⟨w.heap.size + 1, 5, none⟩) (by simp [Value.ownBlock]; try omega) (.string db)
        have hR2 := hR.other (C := w.heap.size + 1) (by omega) 5 (.string db)
        have hMF2 := hMF.other (C := w.heap.size + 1) (by omega) 5 (.string db)
        have hMF3 := AtF.setRow_other (B := w.heap.size) (i := 0) [.int .i64 (2 * (id : Int)), .int .i64 a3, .int .i64 2, .int .i64 s, .int .i64 (1 + c), .string db, .bool (f == 0), .slice (some ⟨w.heap.size + 1 + 1, 0, none⟩) 1 1, .int .i64 t] hMF2 (by omega)
        go_wp2
        have hR3 := hR2.setRow [.int .i64 (2 * (id : Int)), .int .i64 a3, .int .i64 2, .int .i64 s, .int .i64 (1 + c), .string db, .bool (f == 0), .slice (some ⟨w.heap.size + 1 + 1, 0, none⟩) 1 1, .int .i64 t] rfl
        have hM3 := Rd.setRow (B := w.heap.size) (i := 0) [.int .i64 (2 * (id : Int)), .int .i64 a3, .int .i64 2, .int .i64 s, .int .i64 (1 + c), .string db, .bool (f == 0), .slice (some ⟨w.heap.size + 1 + 1, 0, none⟩) 1 1, .int .i64 t] hM2 (by simp [Value.ownBlock]; try omega)
        clear q0 q1 q2 q3 q4 q5 q6 q7 q8 r0 r1 r2 r3 r4 r5 r6 r7 r8
        have r0 := (hR3).1.2 0 _ rfl
        have r1 := (hR3).1.2 1 _ rfl
        have r2 := (hR3).1.2 2 _ rfl
        have r3 := (hR3).1.2 3 _ rfl
        have r4 := (hR3).1.2 4 _ rfl
        have r5 := (hR3).1.2 5 _ rfl
        have r6 := (hR3).1.2 6 _ rfl
        have r7 := (hR3).1.2 7 _ rfl
        have r8 := (hR3).1.2 8 _ rfl
        exact bodyPost_ret (v := .agg #[.int .i64 (2 * (id : Int)), .int .i64 a3, .int .i64 2, .int .i64 s, .int .i64 (1 + c), .string db, .bool (f == 0), .slice (some ⟨w.heap.size + 1 + 1, 0, none⟩) 1 1, .int .i64 t]) (by simp only [setRow] at r0 r1 r2 r3 r4 r5 r6 r7 r8; simp [results, Try.results21, go_sem, r0, r1, r2, r3, r4, r5, r6, r7, r8]) rfl ⟨w.heap.size + 1 + 1, by rw [HB.out, HDD.out, HM2.out]; rfl, by omega, ⟨HCON.out _ _ (by rw [show ms.length = 1 by rw [HM2.out]; rfl]; exact hM3), hMF3⟩, Bel.setRow (B := w.heap.size) (i := 0) [.int .i64 (2 * (id : Int)), .int .i64 a3, .int .i64 2, .int .i64 s, .int .i64 (1 + c), .string db, .bool (f == 0), .slice (some ⟨w.heap.size + 1 + 1, 0, none⟩) 1 1, .int .i64 t] (hbw.setNew (by simp) _) (Nat.le_refl _)⟩
    · obtain rfl : c = 0 := by omega
      have HT2 := Lib.hid (show two = false by rw [HT.out]; simp)
      have HM2 := Lib.hid (show ms = [⟨2 * (id : Int), 0, 1⟩] by rw [HM.out, HT2.out]; rfl)
      clear hc1
      go_enter Try.func21, Try.ntmps21
      go_wp2_with fail
      refine (round_any _ _ _ (by omega)).mono ?_; rw [← H3.out]; rintro e w' ⟨rfl, rfl⟩
      go_wp2_with fail
      refine (round_any _ _ _ (by omega)).mono ?_; rw [E1.out, ← Hk.out]; rintro e w' ⟨rfl, rfl⟩
      go_wp2_with fail
      refine (round_any _ _ _ (by omega)).mono ?_; rw [← Hs.out]; rintro e w' ⟨rfl, rfl⟩
      go_wp2_with fail
      refine (round_any _ _ _ (by omega)).mono ?_; rw [E2.out, ← Hc.out]; rintro e w' ⟨rfl, rfl⟩
      go_wp2_with fail
      refine (round_any _ _ _ (by omega)).mono ?_; rw [← Hf.out]; rintro e w' ⟨rfl, rfl⟩
      go_wp2_with fail
      refine (round_any _ _ _ (by omega)).mono ?_; rw [← Ht.out]; rintro e w' ⟨rfl, rfl⟩
      go_wp2_with fail
      refine (HDT.out _).mono ?_; rintro e w5 ⟨rfl, hb5⟩
      have hX : AtF w5 (w.heap.size + 1) [.int .i64 (2 * (id : Int)), .int .i64 a3, .int .i64 2, .int .i64 s, .int .i64 1, .string ⟨#[]⟩, .bool (f == 0), .slice (some ⟨w.heap.size + 1 + 1, 0, none⟩) 1 1, .int .i64 t] := by
        refine AtF.bel ?_ hb5
        first | exact (AtF.new_at (by simp) _ _).alloc _ | exact ((AtF.new_at (by simp) _ _).alloc _).alloc _
      have hR : AtF w5 w.heap.size [.int .i64 0, .int .i64 0, .int .i64 0, .int .i64 0, .int .i64 0, .string ⟨#[]⟩, .bool false, .slice none 0 0, .int .i64 0] := by
        refine AtF.bel ?_ hb5
        first | exact ((AtF.new_at rfl _ _).alloc _).alloc _ | exact (((AtF.new_at rfl _ _).alloc _).alloc _).alloc _
      have hM : Rd w5 (.slice (some ⟨w.heap.size + 1 + 1, 0, none⟩) 1 1) 3 1 (mcells ms) := by
        rw [HM2.out]
        refine Rd.bel ?_ hb5
        refine rd_made ?_ _ _ 3 1 ?_ (by unfold maxLen; omega)
        · simp
        · rfl
      have hMF : AtF w5 (w.heap.size + 1 + 1) (mcells ms) := by
        rw [HM2.out]
        refine AtF.bel ?_ hb5
        exact AtF.new_at (by simp) _ _
      have hbw : Bel w w5 := (by repeat (first | (with_reducible exact Bel.refl _) | (with_reducible assumption) | (with_reducible refine Bel.drewN ?_ _) | (with_reducible refine Bel.drew ?_) | (with_reducible refine Bel.alloc ?_ _) | (with_reducible refine Bel.setNew ?_ ?_ _) | (with_reducible refine Bel.trans ?_ (by assumption)) | (focus (simp; done)) | (focus (simp; omega))))
      clear hb5
      have q0 := (hX).1.2 0 _ rfl
      have q1 := (hX).1.2 1 _ rfl
      have q2 := (hX).1.2 2 _ rfl
      have q3 := (hX).1.2 3 _ rfl
      have q4 := (hX).1.2 4 _ rfl
      have q5 := (hX).1.2 5 _ rfl
      have q6 := (hX).1.2 6 _ rfl
      have q7 := (hX).1.2 7 _ rfl
      have q8 := (hX).1.2 8 _ rfl
      have r0 := (hR).1.2 0 _ rfl
      have r1 := (hR).1.2 1 _ rfl
      have r2 := (hR).1.2 2 _ rfl
      have r3 := (hR).1.2 3 _ rfl
      have r4 := (hR).1.2 4 _ rfl
      have r5 := (hR).1.2 5 _ rfl
      have r6 := (hR).1.2 6 _ rfl
      have r7 := (hR).1.2 7 _ rfl
      have r8 := (hR).1.2 8 _ rfl
      have qf := hX.2
      have ql := hX.1.1
      have rf := hR.2
      have rl := hR.1.1
      have hX2 := hX.set 5 (by simp) (.string db)
      have hM2 := hM.far (p := ⟨w.heap.size + 1, 5, none⟩) (by simp [Value.ownBlock]; try omega) (.string db)
      have hR2 := hR.other (C := w.heap.size + 1) (by omega) 5 (.string db)
      have hMF2 := hMF.other (C := w.heap.size + 1) (by omega) 5 (.string db)
      have hMF3 := AtF.setRow_other (B := w.heap.size) (i := 0) [.int .i64 (2 * (id : Int)), .int .i64 a3, .int .i64 2, .int .i64 s, .int .i64 1, .string db, .bool (f == 0), .slice (some ⟨w.heap.size + 1 + 1, 0, none⟩) 1 1, .int .i64 t] hMF2 (by omega)
      go_wp2
      have hR3 := hR2.setRow [.int .i64 (2 * (id : Int)), .int .i64 a3, .int .i64 2, .int .i64 s, .int .i64 1, .string db, .bool (f == 0), .slice (some ⟨w.heap.size + 1 + 1, 0, none⟩) 1 1, .int .i64 t] rfl
      have hM3 := Rd.setRow (B := w.heap.size) (i := 0) [.int .i64 (2 * (id : Int)), .int .i64 a3, .int .i64 2, .int .i64 s, .int .i64 1, .string db, .bool (f == 0), .slice (some ⟨w.heap.size + 1 + 1, 0, none⟩) 1 1, .int .i64 t] hM2 (by simp [Value.ownBlock]; try omega)
      clear q0 q1 q2 q3 q4 q5 q6 q7 q8 r0 r1 r2 r3 r4 r5 r6 r7 r8
      have r0 := (hR3).1.2 0 _ rfl
      have r1 := (hR3).1.2 1 _ rfl
      have r2 := (hR3).1.2 2 _ rfl
      have r3 := (hR3).1.2 3 _ rfl
      have r4 := (hR3).1.2 4 _ rfl
      have r5 := (hR3).1.2 5 _ rfl
      have r6 := (hR3).1.2 6 _ rfl
      have r7 := (hR3).1.2 7 _ rfl
      have r8 := (hR3).1.2 8 _ rfl
      exact bodyPost_ret (v := .agg #[.int .i64 (2 * (id : Int)), .int .i64 a3, .int .i64 2, .int .i64 s, .int .i64 1, .string db, .bool (f == 0), .slice (some ⟨w.heap.size + 1 + 1, 0, none⟩) 1 1, .int .i64 t]) (by simp only [setRow] at r0 r1 r2 r3 r4 r5 r6 r7 r8; simp [results, Try.results21, go_sem, r0, r1, r2, r3, r4, r5, r6, r7, r8]) rfl ⟨w.heap.size + 1 + 1, by rw [HB.out, HDD.out, HM2.out]; rfl, by omega, ⟨HCON.out _ _ (by rw [show ms.length = 1 by rw [HM2.out]; rfl]; exact hM3), hMF3⟩, Bel.setRow (B := w.heap.size) (i := 0) [.int .i64 (2 * (id : Int)), .int .i64 a3, .int .i64 2, .int .i64 s, .int .i64 1, .string db, .bool (f == 0), .slice (some ⟨w.heap.size + 1 + 1, 0, none⟩) 1 1, .int .i64 t] (hbw.setNew (by simp) _) (Nat.le_refl _)⟩
  · obtain rfl : k = 0 := by omega
    have HDD := Lib.hid (show dd = ⟨#[]⟩ from HD.out)
    by_cases hc1 : 1 ≤ c
    · by_cases hp0 : p = 0
      · subst hp0
        have HT2 := Lib.hid (show two = true by rw [HT.out]; simp [hc1])
        have HM2 := Lib.hid (show ms = [⟨2 * (id : Int), 0, 1⟩, ⟨2 * (id : Int) + 1, 1, 1 + c - 1⟩] by rw [HM.out, HT2.out]; rfl)
        go_enter Try.func21, Try.ntmps21
        go_wp2_with fail
        refine (round_any _ _ _ (by omega)).mono ?_; rw [← H3.out]; rintro e w' ⟨rfl, rfl⟩
        go_wp2_with fail
        refine (round_any _ _ _ (by omega)).mono ?_; rw [E1.out, ← Hk.out]; rintro e w' ⟨rfl, rfl⟩
        go_wp2_with fail
        refine (round_any _ _ _ (by omega)).mono ?_; rw [← Hs.out]; rintro e w' ⟨rfl, rfl⟩
        go_wp2_with fail
        refine (round_any _ _ _ (by omega)).mono ?_; rw [E2.out, ← Hc.out]; rintro e w' ⟨rfl, rfl⟩
        go_wp2_with fail
        refine (round_any _ _ _ (by omega)).mono ?_; rw [← Hf.out]; rintro e w' ⟨rfl, rfl⟩
        go_wp2_with fail
        refine (round_any _ _ _ (by omega)).mono ?_; rw [← Ht.out]; rintro e w' ⟨rfl, rfl⟩
        go_wp2_with fail
        refine (round_any _ _ _ (by omega)).mono ?_; rw [← Hp.out]; rintro e w' ⟨rfl, rfl⟩
        go_wp2
        exact bodyPost_ret (v := .agg #[.int .i64 (2 * (id : Int)), .int .i64 a3, .int .i64 1, .int .i64 s, .int .i64 (1 + c), .string ⟨#[]⟩, .bool (f == 0), .slice (some ⟨w.heap.size + 1 + 1 + 1, 0, none⟩) 2 2, .int .i64 t]) (by simp [results, Try.results21, go_sem]) rfl ⟨w.heap.size + 1 + 1 + 1, by rw [HB.out, HDD.out, HM2.out]; rfl, by omega, ⟨HCON.out _ _ (by rw [HM2.out]; refine rd_made ?_ _ _ 3 2 ?_ (by unfold maxLen; omega); (focus simp); rfl), by rw [HM2.out]; exact AtF.new_at (by simp) _ _⟩, (by repeat (first | (with_reducible exact Bel.refl _) | (with_reducible assumption) | (with_reducible refine Bel.drewN ?_ _) | (with_reducible refine Bel.drew ?_) | (with_reducible refine Bel.alloc ?_ _) | (with_reducible refine Bel.setNew ?_ ?_ _) | (with_reducible refine Bel.trans ?_ (by assumption)) | (focus (simp; done)) | (focus (simp; omega))))⟩
      · have hp1 : (p == 0) = false := by simpa using hp0
        have HT2 := Lib.hid (show two = false by rw [HT.out]; simp [hp0])
        have HM2 := Lib.hid (show ms = [⟨2 * (id : Int), 0, 1 + c⟩] by rw [HM.out, HT2.out]; rfl)
        clear hp0
        go_enter Try.func21, Try.ntmps21
        go_wp2_with fail
        refine (round_any _ _ _ (by omega)).mono ?_; rw [← H3.out]; rintro e w' ⟨rfl, rfl⟩
        go_wp2_with fail
        refine (round_any _ _ _ (by omega)).mono ?_; rw [E1.out, ← Hk.out]; rintro e w' ⟨rfl, rfl⟩
        go_wp2_with fail
        refine (round_any _ _ _ (by omega)).mono ?_; rw [← Hs.out]; rintro e w' ⟨rfl, rfl⟩
        go_wp2_with fail
        refine (round_any _ _ _ (by omega)).mono ?_; rw [E2.out, ← Hc.out]; rintro e w' ⟨rfl, rfl⟩
        go_wp2_with fail
        refine (round_any _ _ _ (by omega)).mono ?_; rw [← Hf.out]; rintro e w' ⟨rfl, rfl⟩
        go_wp2_with fail
        refine (round_any _ _ _ (by omega)).mono ?_; rw [← Ht.out]; rintro e w' ⟨rfl, rfl⟩
        go_wp2_with fail
        refine (round_any _ _ _ (by omega)).mono ?_; rw [← Hp.out]; rintro e w' ⟨rfl, rfl⟩
        go_wp2
        exact bodyPost_ret (v := .agg #[.int .i64 (2 * (id : Int)), .int .i64 a3, .int .i64 1, .int .i64 s, .int .i64 (1 + c), .string ⟨#[]⟩, .bool (f == 0), .slice (some ⟨w.heap.size + 1 + 1, 0, none⟩) 1 1, .int .i64 t]) (by simp [results, Try.results21, go_sem]) rfl ⟨w.heap.size + 1 + 1, by rw [HB.out, HDD.out, HM2.out]; rfl, by omega, ⟨HCON.out _ _ (by rw [HM2.out]; refine rd_made ?_ _ _ 3 1 ?_ (by unfold maxLen; omega); (focus simp); rfl), by rw [HM2.out]; exact AtF.new_at (by simp) _ _⟩, (by repeat (first | (with_reducible exact Bel.refl _) | (with_reducible assumption) | (with_reducible refine Bel.drewN ?_ _) | (with_reducible refine Bel.drew ?_) | (with_reducible refine Bel.alloc ?_ _) | (with_reducible refine Bel.setNew ?_ ?_ _) | (with_reducible refine Bel.trans ?_ (by assumption)) | (focus (simp; done)) | (focus (simp; omega))))⟩
    · obtain rfl : c = 0 := by omega
      have HT2 := Lib.hid (show two = false by rw [HT.out]; simp)
      have HM2 := Lib.hid (show ms = [⟨2 * (id : Int), 0, 1⟩] by rw [HM.out, HT2.out]; rfl)
      clear hc1
      go_enter Try.func21, Try.ntmps21
      go_wp2_with fail
      refine (round_any _ _ _ (by omega)).mono ?_; rw [← H3.out]; rintro e w' ⟨rfl, rfl⟩
      go_wp2_with fail
      refine (round_any _ _ _ (by omega)).mono ?_; rw [E1.out, ← Hk.out]; rintro e w' ⟨rfl, rfl⟩
      go_wp2_with fail
      refine (round_any _ _ _ (by omega)).mono ?_; rw [← Hs.out]; rintro e w' ⟨rfl, rfl⟩
      go_wp2_with fail
      refine (round_any _ _ _ (by omega)).mono ?_; rw [E2.out, ← Hc.out]; rintro e w' ⟨rfl, rfl⟩
      go_wp2_with fail
      refine (round_any _ _ _ (by omega)).mono ?_; rw [← Hf.out]; rintro e w' ⟨rfl, rfl⟩
      go_wp2_with fail
      refine (round_any _ _ _ (by omega)).mono ?_; rw [← Ht.out]; rintro e w' ⟨rfl, rfl⟩
      go_wp2
      exact bodyPost_ret (v := .agg #[.int .i64 (2 * (id : Int)), .int .i64 a3, .int .i64 1, .int .i64 s, .int .i64 1, .string ⟨#[]⟩, .bool (f == 0), .slice (some ⟨w.heap.size + 1 + 1, 0, none⟩) 1 1, .int .i64 t]) (by simp [results, Try.results21, go_sem]) rfl ⟨w.heap.size + 1 + 1, by rw [HB.out, HDD.out, HM2.out]; rfl, by omega, ⟨HCON.out _ _ (by rw [HM2.out]; refine rd_made ?_ _ _ 3 1 ?_ (by unfold maxLen; omega); (focus simp); rfl), by rw [HM2.out]; exact AtF.new_at (by simp) _ _⟩, (by repeat (first | (with_reducible exact Bel.refl _) | (with_reducible assumption) | (with_reducible refine Bel.drewN ?_ _) | (with_reducible refine Bel.drew ?_) | (with_reducible refine Bel.alloc ?_ _) | (with_reducible refine Bel.setNew ?_ ?_ _) | (with_reducible refine Bel.trans ?_ (by assumption)) | (focus (simp; done)) | (focus (simp; omega))))⟩
theorem bunch_any (n : Int) (id : Nat) (w : World) (hi : id ≤ 1000) :
    Calls Try.prog 21 #[.int .i64 n, .int .i64 (id : Int)] w fun e w' => ∃ A, e = .returned (.agg (bnB n id A).arr) ∧ w.heap.size ≤ A ∧ Mems w' (bnB n id A) (bnM n id) ∧ Bel w w' :=
  (bunchF_any n id w hi).mono fun _ _ ⟨A, h1, h2, h3, h4⟩ => ⟨A, h1, h2, h3.1, h4⟩
end Go.Proofs.Ytpgjbocjhconoaa

/- dock.Bunches; the law's queued. -/
namespace Go.Proofs.Ytpgjbocjhconoaa
open Go.RowKit
set_option linter.unusedSimpArgs false

/-- Bunch k of a list is the one that its number chooses. -/
def BnsOk (zs : List Int) (m : Nat) (L : List BM) : Prop := L.length = m ∧ ∀ k x, L[k]? = some x → ∃ z A, zs[k]? = some z ∧ x = BM.mk (bnB z k A) (bnM z k)
theorem BnsOk.snoc {zs : List Int} {m : Nat} {L : List BM} {z : Int} {A : Nat} (h : BnsOk zs m L) (hz : zs[m]? = some z) : BnsOk zs (m + 1) (L ++ [BM.mk (bnB z m A) (bnM z m)]) := by
  refine ⟨by rw [List.length_append, h.1]; rfl, fun k x hk => ?_⟩
  by_cases e : k < L.length
  · rw [List.getElem?_append_left e] at hk
    exact h.2 k x hk
  · rw [List.getElem?_append_right (by omega)] at hk
    have hkm : k - L.length = 0 := by
      have := (List.getElem?_eq_some_iff.1 hk).1
      simp at this; omega
    rw [hkm] at hk
    simp at hk
    subst hk
    have : k = m := by rw [← h.1]; omega
    subst this
    exact ⟨z, A, hz, rfl⟩
/-- A slice of bunches of the call's own. -/
structure BOwn (w : World) (base : Nat) (v : Value) (L : List BM) : Prop where
  own : w.ownsRow base 42 9 v L.length (bmc L)
  mem : ∀ x ∈ L, Mems w x.b x.ms ∧ ∃ k, k < w.heap.size ∧ (Value.slice x.b.mA x.b.mL x.b.mC).ownBlock = some k ∧ v.ownBlock ≠ some k
theorem BOwn.bl {w : World} {base : Nat} {v : Value} {L : List BM} (h : BOwn w base v L) : BL w v L := ⟨Rd.own h.own, fun x hx => (h.mem x hx).1⟩
theorem bmc_snoc (L : List BM) (x : BM) : bmc (L ++ [x]) = bmc L ++ x.b.cells := by simp [bmc]
theorem Try.infoBunch : (Try.prog.info? 42).map (fun i => (i.zero, i.size, i.bytes)) = some (some (.agg #[.int .i64 0, .int .i64 0, .int .i64 0, .int .i64 0, .int .i64 0, .string ⟨#[]⟩, .bool false, .slice none 0 0, .int .i64 0]), 9, 96) := by kernel_rfl
theorem bcells_one (b : Bun) : ∀ u ∈ b.cells, u.oneCell' = true := fun u hu => by
  simp only [Bun.cells, List.mem_cons, List.not_mem_nil, or_false] at hu
  rcases hu with rfl | rfl | rfl | rfl | rfl | rfl | rfl | rfl | rfl <;> rfl

/-- Behind an append of one bunch. -/
theorem BOwn.snoc {w w1 w3 : World} {base : Nat} {v v' : Value} {L : List BM} {x : BM} {k : Nat} (h : BOwn w base v L) (hb : Bel w w1) (hm : Mems w1 x.b x.ms) (hx : (Value.slice x.b.mA x.b.mL x.b.mC).ownBlock = some k) (hk : w.heap.size ≤ k) (hk2 : k < w1.heap.size)
    (hown : w3.ownsRow base 42 9 v' (L.length + 1) (bmc L ++ x.b.cells)) (hg : (w1.alloc (.cells x.b.cells.toArray 42)).grownBy w3 v.ownBlock) (hl : v'.ownBlock = v.ownBlock ∨ v'.ownBlock = some (w1.alloc (.cells x.b.cells.toArray 42)).heap.size) : BOwn w3 base v' (L ++ [x]) := by
  have hvk : v.ownBlock ≠ some k := fun e => by have := h.own.lt k e; omega
  have hsz : w1.heap.size < w3.heap.size := by have := hg.size; simp at this; omega
  have hsw := hb.size
  refine ⟨by rw [List.length_append, bmc_snoc]; exact hown, fun y hy => ?_⟩
  rw [List.mem_append] at hy
  rcases hy with hy | hy
  · obtain ⟨h1, k', h2, h3, h4⟩ := h.mem y hy
    refine ⟨⟨h1.len, ((h1.rd.bel hb).alloc _).grown hg (fun b hb' => by rw [h3] at hb'; cases hb'; exact h4), h1.ids, h1.dl⟩, k', by omega, h3, ?_⟩
    rcases hl with e | e
    · rw [e]; exact h4
    · rw [e]; intro e2; simp at e2; omega
  · rw [List.mem_singleton] at hy
    subst hy
    refine ⟨⟨hm.len, (hm.rd.alloc _).grown hg (fun b hb' => by rw [hx] at hb'; cases hb'; exact hvk), hm.ids, hm.dl⟩, k, by omega, hx, ?_⟩
    rcases hl with e | e
    · rw [e]; exact hvk
    · rw [e]; intro e2; simp at e2; omega
theorem bunch_any2 (n : Int) (id : Nat) (w : World) (hi : id ≤ 1000) :
    Calls Try.prog 21 #[.int .i64 n, .int .i64 (id : Int)] w fun e w' => ∃ (B : Bun) (A : Nat), e = .returned (.agg #[.int .i64 (B).id, .int .i64 (B).ten, .int .i64 (B).knd, .int .i64 (B).sec, .int .i64 (B).cnt, .string (B).dat, .bool (B).fua, .slice (B).mA (B).mL (B).mC, .int .i64 (B).tim]) ∧ Hid (B = bnB n id A) ∧ w.heap.size ≤ A ∧ Mems w' B (bnM n id) ∧ Bel w w' :=
  (bunch_any n id w hi).mono fun _ _ ⟨A, h1, h0, h2, h3⟩ => ⟨bnB n id A, A, h1, rfl, h0, h2, h3⟩

set_option maxRecDepth 100000 in
set_option maxHeartbeats 4000000 in
theorem bunches_any (v : Value) (zs : List Int) (w : World) (hz : Ints w v zs) :
    Calls Try.prog 17 #[v] w fun e w' => ∃ u L, e = .returned u ∧ BnsOk zs (min zs.length 8) L ∧ BL w' u L ∧ Bel w w' := by
  obtain ⟨i0, hi0, hz0, hz1, hz2⟩ := info_parts Try.infoBunch
  obtain ⟨_, A, cp, rfl, hcp, hmx, hr⟩ := hz
  unfold maxLen at hmx
  obtain ⟨n, Hn⟩ : ∃ n, Hid (n = zs.length) := ⟨_, rfl⟩
  have HR : Hid (0 < n → ∃ b o, A = some ⟨b, o, none⟩ ∧ b < w.heap.size ∧ ∀ j z, zs[j]? = some z → w.cell? ⟨b, o + j, none⟩ = some (.int .i64 z)) := by
    intro h
    obtain ⟨b, o, h1, h2, h3⟩ := hr (by have := Hn.out; omega)
    exact ⟨b, o, h1, h2, fun j z hj => by obtain ⟨g1, g2⟩ := List.getElem?_eq_some_iff.1 hj; rw [h3 j g1, g2]⟩
  have HMIN := Lib.hid (show min zs.length 8 = min n 8 by rw [Hn.out])
  rw [HMIN.out]
  rw [← Hn.out] at hcp ⊢
  clear hr
  go_enter Try.func17, Try.ntmps17
  go_wp2
  go_loopw [3, 4] (fun ov iv wr => ∃ (i : Nat) (L : List BM), iv = .int .i64 i ∧ i ≤ n ∧ i ≤ 8 ∧ Hid (BnsOk zs i L) ∧ BOwn wr w.heap.size ov L ∧ Bel w wr) (fun _ iv _ => n - (intOf iv).toNat)
  case atStart => exact ⟨0, [], rfl, by omega, by omega, ⟨rfl, fun k x h => by simp at h⟩, ⟨⟨rfl, Or.inl ⟨rfl, rfl⟩⟩, fun x hx => by cases hx⟩, (by repeat (first | (with_reducible exact Bel.refl _) | (with_reducible assumption) | (with_reducible refine Bel.drewN ?_ _) | (with_reducible refine Bel.drew ?_) | (with_reducible refine Bel.alloc ?_ _) | (with_reducible refine Bel.setNew ?_ ?_ _) | (with_reducible refine Bel.trans ?_ (by assumption)) | (focus (simp; done)) | (focus (simp; omega))))⟩
  case round =>
    obtain ⟨i, L, rfl, p1, p2, HO, hown, hbr⟩ := hrel
    have hL := HO.out.1
    obtain ⟨Ao, co, rfl⟩ := own_slice hown.own
    by_cases hlt : i < n ∧ i < 8
    · obtain ⟨h1, h2⟩ := hlt
      have i1 : (i : Int) < (n : Int) := by omega
      have i2 : (i : Int) < 8 := by omega
      obtain ⟨b, o, rfl, hlb, hcell⟩ := HR.out (by omega)
      obtain ⟨z, hzi⟩ : ∃ z, zs[i]? = some z := ⟨zs[i]'(by have := Hn.out; omega), List.getElem?_eq_getElem _⟩
      have c0 : wr.cell? ⟨b, o + i, none⟩ = some (.int .i64 z) := by
        rw [hbr.cellAt b _ hlb]; exact hcell i z hzi
      have HZ := Lib.hid hzi
      obtain ⟨m, Hm⟩ : ∃ m, Hid (m = L.length) := ⟨_, rfl⟩
      have hm8 : m < 8 := by rw [Hm.out]; omega
      have hw := hown.own
      have HOW := Lib.hid hown
      rw [← Hm.out] at hw ⊢
      clear hcell hzi hown
      go_wp2_with fail
      refine (bunch_any2 z i _ (by omega)).mono ?_; rintro e w1 ⟨B, A1, rfl, HB, hA1, hM1, hb1⟩
      have hw1 := own_keep hw hb1
      have hbw := hbr.trans hb1
      have hws := hbw.size
      clear hw c0
      go_wp2_with (at_builtin; go_must (refine wpList_append_own_at _ rfl _ _ 43 rfl w.heap.size 42 i0 _ 9 96 Try.underlying43 hi0 hz0 hz1 hz2 rfl (by omega) (.slice Ao m co) _ _ rfl (hw1.alloc _) ⟨w1.heap.size, 0, none⟩ 1 1 B.cells rfl rfl (World.news_of_block (cs := #[.int .i64 (B).id, .int .i64 (B).ten, .int .i64 (B).knd, .int .i64 (B).sec, .int .i64 (B).cnt, .string (B).dat, .bool (B).fua, .slice (B).mA (B).mL (B).mC, .int .i64 (B).tim]) (t := 42) (fr := (0, 0)) (heap_alloc_new w1 _)) (bcells_one B) (by unfold maxLen; omega) (by omega) (by simp; omega) ?_); intro v' w3 hown' hg' _ hloc; obtain ⟨gn, cn, hvn, _, _⟩ := hown'.form (by omega); subst hvn)
      have hbw3 : Bel w w3 := bel_own (hbw.alloc _) (hw1.alloc _) hg' (Nat.le_refl _)
      have HO2 := Lib.hid (HO.out.snoc (A := A1) HZ.out)
      rw [← HB.out] at HO2
      have hmm := HB.out
      have hB : (Value.slice B.mA B.mL B.mC).ownBlock = some A1 := by rw [HB.out]; rfl
      have hlt3 : A1 < w1.heap.size := hM1.rd.own_lt (by rw [bnM]; split <;> simp) hB
      rw [Hm.out] at hown' hg' hloc
      have hsn := BOwn.snoc (x := ⟨B, bnM z i⟩) HOW.out hb1 hM1 hB hA1 hlt3 hown' hg' hloc
      have HSN := Lib.hid hsn
      clear hmm hB hsn hown' hg' hloc hw1 HOW
      go_roundw
      case rel => exact ⟨i + 1, L ++ [⟨B, bnM z i⟩], by go_num, by omega, by omega, HO2, by rw [Hm.out]; exact HSN.out, hbw3⟩
      case measure => simp [intOf]; omega
    · have HF := Lib.hid (show i = min n 8 by omega)
      have HBL := Lib.hid hown.bl
      have HO2 := HO.out
      rw [HF.out] at HO2
      have HO3 := Lib.hid HO2
      clear HO2 hown hL
      by_cases h1 : i < n
      · obtain rfl : i = 8 := by omega
        go_wp2
        go_ret
        exact ⟨_, L, rfl, HO3.out, HBL.out, (by repeat (first | (with_reducible exact Bel.refl _) | (with_reducible assumption) | (with_reducible refine Bel.drewN ?_ _) | (with_reducible refine Bel.drew ?_) | (with_reducible refine Bel.alloc ?_ _) | (with_reducible refine Bel.setNew ?_ ?_ _) | (with_reducible refine Bel.trans ?_ (by assumption)) | (focus (simp; done)) | (focus (simp; omega))))⟩
      · obtain rfl : i = n := by omega
        have i1 : decide ((i : Int) < (i : Int)) = false := by simp
        go_wp2
        go_ret
        exact ⟨_, L, rfl, HO3.out, HBL.out, (by repeat (first | (with_reducible exact Bel.refl _) | (with_reducible assumption) | (with_reducible refine Bel.drewN ?_ _) | (with_reducible refine Bel.drew ?_) | (with_reducible refine Bel.alloc ?_ _) | (with_reducible refine Bel.setNew ?_ ?_ _) | (with_reducible refine Bel.trans ?_ (by assumption)) | (focus (simp; done)) | (focus (simp; omega))))⟩
end Go.Proofs.Ytpgjbocjhconoaa

/- Three neighbours give one bunch, whichever two are joined first. -/
namespace Go.Proofs.Ytpgjbocjhconoaa
open Go.RowKit

theorem fits_full {s c : Int} (h1 : 0 ≤ s) (h2 : s ≤ 128) (h3 : 1 ≤ c) (h4 : c ≤ 128) : fits 128 0 s c = true := by
  unfold fits limOk room
  rw [if_pos rfl]
  simp only [Bool.and_eq_true, decide_eq_true_eq]
  omega
/-- Two bunches that stand side by side and are alike. -/
structure Nb (x y : Bu) : Prop where
  okx : okU x = true
  oky : okU y = true
  ten : x.ten = y.ten
  knd : x.knd = y.knd
  fua : x.fua = y.fua
  str : strU x y = true
  sec : y.sec = x.sec + x.cnt
theorem strU_symm {x y : Bu} (h : strU x y = true) : strU y x = true := by
  unfold strU at *
  simp only [Bool.not_eq_true', List.any_eq_false] at *
  intro p hp hq
  rw [List.any_eq_true] at hq
  obtain ⟨q, hq, he⟩ := hq
  have := h q hq
  rw [List.any_eq_true] at this
  exact this ⟨p, hp, by simpa using (beq_iff_eq.1 he).symm⟩
theorem Nb.alike {x y : Bu} (h : Nb x y) : alikeU x y = true := by
  unfold alikeU
  simp only [Bool.and_eq_true, beq_iff_eq]
  exact ⟨⟨⟨⟨⟨h.okx, h.oky⟩, h.ten⟩, h.knd⟩, h.fua⟩, h.str⟩
theorem Nb.alike' {x y : Bu} (h : Nb x y) : alikeU y x = true := by
  unfold alikeU
  simp only [Bool.and_eq_true, beq_iff_eq]
  exact ⟨⟨⟨⟨⟨h.oky, h.okx⟩, h.ten.symm⟩, h.knd.symm⟩, h.fua.symm⟩, strU_symm h.str⟩
theorem Nb.can {x y : Bu} (h : Nb x y) : canU 128 0 x y = 1 := by
  have r1 := okU_range h.okx
  have r2 := okU_range h.oky
  have hs := h.sec
  unfold canU
  rw [if_pos h.alike, if_pos ⟨h.sec, fits_full r1.1 (by omega) (by omega) (by omega)⟩]
theorem Nb.can' {x y : Bu} (h : Nb x y) : canU 128 0 y x = 2 := by
  have r1 := okU_range h.okx
  have r2 := okU_range h.oky
  have hs := h.sec
  unfold canU
  rw [if_pos h.alike', if_neg (fun e => by have := e.1; omega), if_pos ⟨h.sec, fits_full r1.1 (by omega) (by omega) (by omega)⟩]
theorem Nb.join {x y : Bu} (h : Nb x y) : joinU x y 1 = pairU x y x y := by
  unfold joinU
  rw [if_neg (by rw [h.can]; simp), if_neg (by decide)]
theorem Nb.join' {x y : Bu} (h : Nb x y) : joinU y x 2 = pairU x y x y := by
  unfold joinU
  rw [if_neg (by rw [h.can']; simp), if_pos rfl]
  unfold pairU
  rw [h.ten, h.knd, h.fua, Int.min_comm y.id, Int.min_comm y.tim]
theorem Nb.ok {x y : Bu} (h : Nb x y) : okU (pairU x y x y) = true := pair_ok h.okx h.oky rfl h.knd h.sec h.str
theorem strU_pair {u v x y z : Bu} (h1 : strU x z = true) (h2 : strU y z = true) : strU (pairU u v x y) z = true := by
  unfold strU at *
  simp only [Bool.not_eq_true', List.any_eq_false] at *
  intro p hp
  have hp' : p ∈ x.ms ++ shift x.cnt y.ms := hp
  rw [List.mem_append] at hp'
  rcases hp' with hp | hp
  · exact h1 p hp
  · unfold shift at hp
    rw [List.mem_map] at hp
    obtain ⟨q, hq, rfl⟩ := hp
    exact h2 q hq
theorem shift_app (c : Int) (l k : List Mem) : shift c (l ++ k) = shift c l ++ shift c k := by simp [shift]
theorem shift_shift (c d : Int) (l : List Mem) : shift c (shift d l) = shift (c + d) l := by
  unfold shift
  rw [List.map_map]
  apply List.map_congr_left
  intro m _
  show (⟨m.id, m.off + d + c, m.cnt⟩ : Mem) = ⟨m.id, m.off + (c + d), m.cnt⟩
  congr 1
  omega
theorem pair_assoc (a b c : Bu) : pairU (pairU a b a b) c (pairU a b a b) c = pairU a (pairU b c b c) a (pairU b c b c) := by
  unfold pairU
  simp only
  rw [Int.min_assoc, Int.min_assoc, Int.add_assoc, ByteArray.append_assoc, List.append_assoc, shift_app, shift_shift]
theorem Nb.left {a b c : Bu} (h1 : Nb a b) (h2 : Nb b c) (h3 : strU a c = true) : Nb (pairU a b a b) c where
  okx := h1.ok
  oky := h2.oky
  ten := h1.ten.trans h2.ten
  knd := h1.knd.trans h2.knd
  fua := h1.fua.trans h2.fua
  str := strU_pair h3 h2.str
  sec := by show c.sec = a.sec + (a.cnt + b.cnt); have := h1.sec; have := h2.sec; omega
theorem Nb.right {a b c : Bu} (h1 : Nb a b) (h2 : Nb b c) (h3 : strU a c = true) : Nb a (pairU b c b c) where
  okx := h1.okx
  oky := h2.ok
  ten := h1.ten
  knd := h1.knd
  fua := h1.fua
  str := strU_symm (strU_pair (strU_symm h1.str) (strU_symm h3))
  sec := h1.sec
/-- The law. -/
theorem join_three {a b c : Bu} (h1 : Nb a b) (h2 : Nb b c) (h3 : strU a c = true) :
    okU (joinU (joinU a b 1) c 1) = true ∧ joinU a (joinU b c 1) 1 = joinU (joinU a b 1) c 1 ∧ joinU (joinU c b 2) a 2 = joinU (joinU a b 1) c 1 := by
  rw [h1.join, h2.join, h2.join', (h1.left h2 h3).join, (h1.right h2 h3).join, (h1.right h2 h3).join', pair_assoc]
  exact ⟨(h1.right h2 h3).ok, rfl, rfl⟩
end Go.Proofs.Ytpgjbocjhconoaa

/- What a join looks like; the bunches of the dock. -/
namespace Go.Proofs.Ytpgjbocjhconoaa
open Go.RowKit Go.Maps
set_option linter.unusedSimpArgs false

theorem fits_big {M B s c : Int} (h : fits M B s c = true) : fits 128 0 s c = true := by
  unfold fits limOk room at h
  simp only [Bool.and_eq_true, decide_eq_true_eq] at h
  unfold fits limOk room
  simp only [Bool.and_eq_true, decide_eq_true_eq]
  obtain ⟨⟨a1, a2, a3, a4⟩, b1, b2, b3, b4⟩ := h
  have h5 : c ≤ 128 := by split at b4 <;> omega
  exact ⟨by decide, b1, b2, b3, by simpa using h5⟩
theorem can_big {M B : Int} {u v : Bu} (h : canU M B u v ≠ 0) : canU 128 0 u v = canU M B u v := by
  have ha := canU_alike h
  have ho := alike_ok ha
  have r1 := okU_range ho.1
  have r2 := okU_range ho.2.1
  unfold canU at h ⊢
  rw [if_pos ha] at h ⊢
  rw [if_pos ha]
  by_cases h1 : v.sec = u.sec + u.cnt ∧ fits M B u.sec (u.cnt + v.cnt) = true
  · rw [if_pos h1, if_pos ⟨h1.1, fits_big h1.2⟩]
  · rw [if_neg h1] at h ⊢
    by_cases h2 : u.sec = v.sec + v.cnt ∧ fits M B v.sec (u.cnt + v.cnt) = true
    · rw [if_pos h2, if_neg (fun g => by omega), if_pos ⟨h2.1, fits_big h2.2⟩]
    · rw [if_neg h2] at h
      exact absurd rfl h
/-- What a join looks like: x ahead of y. -/
structure JoinS (M B : Int) (u v x y : Bu) : Prop where
  or : (x = u ∧ y = v) ∨ (x = v ∧ y = u)
  eq : joinU u v (canU M B u v) = pairU u v x y
  side : y.sec = x.sec + x.cnt
  fit : fits M B x.sec (x.cnt + y.cnt) = true
  okx : okU x = true
  oky : okU y = true
  ten : u.ten = v.ten
  knd : u.knd = v.knd
  fua : u.fua = v.fua
  ok : okU (pairU u v x y) = true
theorem join_shape {M B : Int} {u v : Bu} (h : canU M B u v ≠ 0) : ∃ x y, JoinS M B u v x y := by
  obtain ⟨o1, o2, o3, o4, o5, o6⟩ := alike_ok (canU_alike h)
  have hb := can_big h
  have hj : joinU u v (canU M B u v) = if canU M B u v = 2 then pairU u v v u else pairU u v u v := by
    unfold joinU
    rw [if_neg]
    rintro (g | g)
    · exact h g
    · exact g hb
  have hc : (canU M B u v = 1 ∧ v.sec = u.sec + u.cnt ∧ fits M B u.sec (u.cnt + v.cnt) = true) ∨ (canU M B u v = 2 ∧ u.sec = v.sec + v.cnt ∧ fits M B v.sec (u.cnt + v.cnt) = true) := by
    have hal := canU_alike h
    unfold canU at h ⊢
    rw [if_pos hal] at h ⊢
    split
    · rename_i g; exact .inl ⟨rfl, g⟩
    · rename_i g1
      rw [if_neg g1] at h
      split
      · rename_i g; exact .inr ⟨rfl, g⟩
      · rename_i g2
        rw [if_neg g2] at h
        exact absurd rfl h
  rcases hc with ⟨c, s, f⟩ | ⟨c, s, f⟩
  · refine ⟨u, v, .inl ⟨rfl, rfl⟩, ?_, s, f, o1, o2, o3, o4, o5, pair_ok o1 o2 rfl o4 s o6⟩
    rw [hj, if_neg (by omega)]
  · refine ⟨v, u, .inr ⟨rfl, rfl⟩, ?_, s, by rw [Int.add_comm]; exact f, o2, o1, o3, o4, o5, pair_ok o2 o1 o4 o4.symm s (strU_symm o6)⟩
    rw [hj, if_pos c]
/-- The bunches of the dock. -/
structure DkB (k : Nat) (b : Bu) : Prop where
  ok : okU b = true
  ms : b.ms = [⟨2 * (k : Int), 0, b.cnt⟩] ∨ b.ms = [⟨2 * (k : Int), 0, 1⟩, ⟨2 * (k : Int) + 1, 1, b.cnt - 1⟩]
  sec : b.sec ≤ 13
  cnt : b.cnt ≤ 3
def DkQ (Q : List Bu) : Prop := Q.length ≤ 8 ∧ ∀ k b, Q[k]? = some b → DkB k b
theorem bns_dk {zs : List Int} {m : Nat} {L : List BM} (h : BnsOk zs m L) (hm : m ≤ 8) : DkQ (L.map BM.bu) := by
  refine ⟨by rw [List.length_map, h.1]; exact hm, fun k b hk => ?_⟩
  rw [List.getElem?_map] at hk
  cases hx : L[k]? with
  | none => rw [hx] at hk; cases hk
  | some x =>
    rw [hx] at hk
    injection hk with hk
    subst hk
    obtain ⟨z, A, _, rfl⟩ := h.2 k x hx
    have hs := rnd_hi (z / 16) 14 (by omega)
    have hc := bnC_bd z
    refine ⟨bn_valid z k A, ?_, ?_, ?_⟩
    · show bnM z k = _ ∨ bnM z k = _
      unfold bnM
      split
      · exact .inr rfl
      · exact .inl rfl
    · show rnd (z / 16) 14 ≤ 13; omega
    · show 1 + bnC z ≤ 3; omega
theorem DkB.id {k : Nat} {b : Bu} (h : DkB k b) {f : Mem} (hf : f ∈ b.ms) : f.id = 2 * (k : Int) ∨ f.id = 2 * (k : Int) + 1 := by
  rcases h.ms with e | e <;> rw [e] at hf <;> simp at hf
  · exact .inl (by rw [hf])
  · rcases hf with rfl | rfl
    · exact .inl rfl
    · exact .inr rfl
theorem DkB.head {k : Nat} {b : Bu} (h : DkB k b) : ∃ f l, b.ms = f :: l ∧ f.id = 2 * (k : Int) := by
  rcases h.ms with e | e <;> exact ⟨_, _, e, rfl⟩
end Go.Proofs.Ytpgjbocjhconoaa

/- Plain laws of a scheduler: what Add and Next do. -/
namespace Go.Proofs.Ytpgjbocjhconoaa
open Go.RowKit Go.Maps
set_option linter.unusedSimpArgs false

/-! ### flows -/
structure F4 (C V : Int) (fs : List (Int × Int)) : Prop where
  len : fs.length = 4
  v0 : 0 ≤ V
  v1 : V ≤ C
  fl : ∀ (k : Nat) (x y : Int), fs[k]? = some (x, y) → 1 ≤ x ∧ x ≤ 8 ∧ 0 ≤ y ∧ y ≤ C
theorem F4.fair {C V : Int} {fs : List (Int × Int)} (h : F4 C V fs) (hC : C ≤ 1125899906842624) : fairOk V fs = true := by
  have h0 := h.v0
  have h1 := h.v1
  unfold fairOk
  rw [h.len, timeB_iff.2 ⟨by omega, by omega⟩, Bool.and_eq_true, List.all_eq_true]
  refine ⟨rfl, ?_⟩
  rintro ⟨x, y⟩ hp
  obtain ⟨k, hk⟩ := List.getElem?_of_mem hp
  have := h.fl k x y hk
  exact flowOk_iff.2 (by omega)
theorem F4.get {C V : Int} {fs : List (Int × Int)} (h : F4 C V fs) {t : Nat} (ht : t < 4) : ∃ x y, fs[t]? = some (x, y) ∧ 1 ≤ x ∧ x ≤ 8 ∧ 0 ≤ y ∧ y ≤ C := by
  have hl : t < fs.length := by rw [h.len]; exact ht
  obtain ⟨⟨x, y⟩, hx⟩ : ∃ p, fs[t]? = some p := ⟨fs[t], List.getElem?_eq_getElem hl⟩
  exact ⟨x, y, hx, h.fl t x y hx⟩
theorem F4.mono {C C' V : Int} {fs : List (Int × Int)} (h : F4 C V fs) (hc : C ≤ C') : F4 C' V fs :=
  ⟨h.len, h.v0, Int.le_trans h.v1 hc, fun k x y hk => by have := h.fl k x y hk; omega⟩
theorem F4.adv {C V t c : Int} {fs : List (Int × Int)} (h : F4 C V fs) (t0 : 0 ≤ t) (t4 : t < 4) (c1 : 1 ≤ c) (c2 : c ≤ 3) (hC : C + 2520 ≤ 1125899906842624) (st : Int → Int → Int) (hst : ∀ x y, 0 ≤ y → y ≤ C → 0 ≤ st x y ∧ st x y ≤ C) :
    ∃ x y, fs[t.toNat]? = some (x, y) ∧ advB V fs t c st = (fs.set t.toNat (x, st x y + c * 840 / x), st x y, true) ∧ F4 (C + 2520) V (fs.set t.toNat (x, st x y + c * 840 / x)) := by
  obtain ⟨x, y, hx, x1, x2, y1, y2⟩ := h.get (t := t.toNat) (by omega)
  have ht := (List.getElem?_eq_some_iff.1 hx).1
  have hs := hst x y y1 y2
  have hd1 : 0 ≤ c * 840 / x := Int.ediv_nonneg (by omega) (by omega)
  have hd2 : c * 840 / x ≤ 2520 := Int.le_trans (Int.ediv_le_self _ (by omega)) (by omega)
  refine ⟨x, y, hx, ?_, ⟨by simpa using h.len, h.v0, by have := h.v1; omega, ?_⟩⟩
  · unfold advB
    have e1 : fs.getD t.toNat (0, 0) = (x, y) := by rw [List.getD_eq_getElem?_getD, hx]; rfl
    have hl := h.len
    rw [if_pos ⟨h.fair (by omega), by omega, by omega, by omega, by omega⟩, e1]
    simp only
    rw [if_pos (timeB_iff.2 ⟨by omega, by omega⟩)]
  · intro k a b hk
    by_cases e : t.toNat = k
    · subst e
      rw [List.getElem?_set_self ht] at hk
      cases hk
      omega
    · rw [List.getElem?_set_ne e] at hk
      have := h.fl k a b hk
      omega

/-! ### Add -/
/-- What an Add that succeeds leaves. -/
structure AddS (M B : Int) (E : El) (b : Bu) (E' : El) : Prop where
  knd : E'.knd = E.knd
  rd : E'.rdE = E.rdE
  wr : E'.wrE = E.wrE
  vt : E'.vt = E.vt
  bk : E'.bk = E.bk
  hd : E'.hd = E.hd
  en : (∃ i a x y d, E.en[i]? = some a ∧ JoinS M B a.u b x y ∧ ((E.en.drop (i + 1)).any (betw E.knd b)) = false ∧ E'.en = E.en.set i ⟨pairU a.u b x y, d, a.sta, a.tri⟩) ∨ (∃ d s, partP M B E.knd b E.en = none ∧ E'.en = E.en ++ [⟨b, d, s, 0⟩])
theorem addE_step {M B : Int} {E : El} {b : Bu} {C : Int} (hb : okU b = true) (t0 : 0 ≤ b.ten) (t4 : b.ten < 4) (hc : b.cnt ≤ 3) (hF : F4 C E.vt E.fl) (hC : C + 2520 ≤ 1125899906842624) :
    ∃ E', addE M B E b = (E', true) ∧ F4 (C + 2520) E'.vt E'.fl ∧ AddS M B E b E' := by
  have hr := okU_range hb
  have v0 := hF.v0
  have v1 := hF.v1
  unfold addE
  rw [if_pos ⟨hb, t0, t4⟩]
  cases hp : partP M B E.knd b E.en with
  | none =>
    obtain ⟨x, y, hx, e, hF2⟩ := hF.adv t0 t4 hr.2.2.1 hc hC (fun _ y => max E.vt y) (fun _ y h1 h2 => by omega)
    have e2 : stampB E.vt E.fl b.ten b.cnt = _ := e
    simp only [e2]
    exact ⟨_, rfl, hF2, rfl, rfl, rfl, rfl, rfl, rfl, .inr ⟨_, _, hp, rfl⟩⟩
  | some i =>
    obtain ⟨a, ha, hc2, hd⟩ := partP_find hp
    obtain ⟨x, y, hx, e, hF2⟩ := hF.adv t0 t4 hr.2.2.1 hc hC (fun _ y => y) (fun _ y h1 h2 => ⟨h1, h2⟩)
    have e2 : growB E.vt E.fl b.ten b.cnt = _ := e
    obtain ⟨p, q, hj⟩ := join_shape hc2
    simp only [e2, ha]
    refine ⟨_, rfl, hF2, rfl, rfl, rfl, rfl, rfl, rfl, .inl ⟨i, a, p, q, min a.due (dueU E.rdE E.wrE b), ha, hj, hd, ?_⟩⟩
    show E.en.set i _ = _
    rw [hj.eq]

/-! ### Next -/
theorem pickN_some {l : List Qd} {may : List Bool} : ∀ {n i : Nat}, i < n → may[i]? = some true → ∃ k, pickN l may n = some k
  | 0, i, h, _ => absurd h (by omega)
  | n + 1, i, h, hg => by
    unfold pickN
    by_cases hn : may[n]? = some true
    · rw [if_pos hn]
      split
      · exact ⟨n, rfl⟩
      · split
        · exact ⟨n, rfl⟩
        · exact ⟨_, rfl⟩
    · rw [if_neg hn]
      have : i < n := by
        by_cases e : i = n
        · subst e; exact absurd hg hn
        · omega
      exact pickN_some this hg
theorem firstT_some : ∀ {l : List Bool} {i : Nat}, l[i]? = some true → ∃ k, firstT l = some k
  | [], i, h => by cases h
  | true :: l, i, h => ⟨0, rfl⟩
  | false :: l, 0, h => by cases h
  | false :: l, i + 1, h => by
    obtain ⟨k, hk⟩ := firstT_some (l := l) (i := i) (by simpa using h)
    exact ⟨k + 1, by show (firstT l).map (· + 1) = _; rw [hk]; rfl⟩
theorem choE_some {E : El} {may : List Bool} {now : Int} {i : Nat} (hi : i < E.en.length) (hm : may[i]? = some true) : ∃ k, choE E may now = some k := by
  unfold choE
  split
  · exact pickD_some hi (by unfold mayAt; rw [hm]; rfl)
  · split
    · exact pickN_some hi hm
    · exact firstT_some hm
theorem choE_may {E : El} {may : List Bool} {now : Int} {k : Nat} (h : choE E may now = some k) : may[k]? = some true := by
  rw [← choE_L E (E.en.map Qu.qm) (qm_qu_map E.en)] at h
  exact choL_may h
theorem mayE_at {E : El} {now : Int} {busy : List Bu} {k : Nat} : (mayE E now busy)[k]? = some true ↔ ∃ x, E.en[k]? = some x ∧ (payE E x.u now).2 = true ∧ blkQ E.en k busy = false := by
  unfold mayE
  rw [List.getElem?_map]
  by_cases hk : k < E.en.length
  · rw [List.getElem?_range hk, List.getElem?_eq_getElem hk]
    constructor
    · intro h
      have h2 : ((payE E (E.en[k]).u now).2 && !blkQ E.en k busy) = true := by
        simp only [Option.map_some] at h
        rw [List.getElem?_eq_getElem hk] at h
        simpa using h
      rw [Bool.and_eq_true] at h2
      exact ⟨_, rfl, h2.1, by simpa using h2.2⟩
    · rintro ⟨x, hx, h1, h2⟩
      injection hx with hx
      subst hx
      simp only [Option.map_some]
      rw [List.getElem?_eq_getElem hk]
      simp [h1, h2]
  · rw [List.getElem?_eq_none (by simpa using hk), List.getElem?_eq_none (by omega)]
    constructor
    · intro h; cases h
    · rintro ⟨x, hx, _⟩; cases hx
/-- What a Next that sends leaves. -/
structure NextS (E : El) (now : Int) (busy : List Bu) (E' : El) (x : Qu) (k : Nat) : Prop where
  at_ : E.en[k]? = some x
  en : E'.en = E.en.eraseIdx k
  pay : (payE E x.u now).2 = true
  blk : blkQ E.en k busy = false
  cho : choE E (mayE E now busy) now = some k
  knd : E'.knd = E.knd
  rd : E'.rdE = E.rdE
  wr : E'.wrE = E.wrE
  vt : E'.vt = servV E.vt x.sta
  fl : E'.fl = E.fl
  bk : E'.bk = E.bk.set x.u.ten.toNat (payE E x.u now).1
  hd : E'.hd = x.u.sec + x.u.cnt
theorem nextE_some {E E' : El} {now : Int} {busy : List Bu} {x : Qu} (h : nextE E now busy = some (E', x)) : ∃ k, NextS E now busy E' x k := by
  unfold nextE at h
  cases hc : choE E (mayE E now busy) now with
  | none => rw [hc] at h; cases h
  | some k =>
    rw [hc] at h
    obtain ⟨y, hy, h1, h2⟩ := mayE_at.1 (choE_may hc)
    simp only [hy] at h
    injection h with h
    injection h with h3 h4
    subst h3 h4
    exact ⟨k, hy, rfl, h1, h2, hc, rfl, rfl, rfl, rfl, rfl, rfl, rfl⟩
theorem nextE_none {E : El} {now : Int} {busy : List Bu} (h : nextE E now busy = none) {k : Nat} {x : Qu} (hx : E.en[k]? = some x) (hp : (payE E x.u now).2 = true) : blkQ E.en k busy = true := by
  cases hb : blkQ E.en k busy
  · exfalso
    obtain ⟨j, hj⟩ := choE_some (E := E) (now := now) (List.getElem?_eq_some_iff.1 hx).1 (mayE_at.2 ⟨x, hx, hp, hb⟩)
    obtain ⟨y, hy, _⟩ := mayE_at.1 (choE_may hj)
    unfold nextE at h
    rw [hj] at h
    simp only [hy] at h
    cases h
  · rfl
theorem blkQ_no {P : List Qu} {k : Nat} {x : Qu} {busy : List Bu} (hx : P[k]? = some x) (h : blkQ P k busy = false) : (∀ j y, j < k → P[j]? = some y → confU y.u x.u = false) ∧ ∀ b ∈ busy, confU b x.u = false := by
  unfold blkQ at h
  rw [hx] at h
  simp only [Bool.or_eq_false_iff, List.any_eq_false] at h
  refine ⟨fun j y hj hy => ?_, fun b hb => by simpa using h.2 b hb⟩
  have hm : y ∈ P.take k := by
    obtain ⟨h1, h2⟩ := List.getElem?_eq_some_iff.1 hy
    rw [← h2]
    exact List.mem_take_iff_getElem.2 ⟨j, by omega, rfl⟩
  simpa using h.1 y hm
theorem blkQ_first {P : List Qu} (h : 0 < P.length) : blkQ P 0 [] = false := by
  unfold blkQ
  rw [List.getElem?_eq_getElem h]
  rfl
/-- Where nothing is busy and what may be paid, Next sends. -/
theorem nextE_go {E : El} {now : Int} {x : Qu} (hx : E.en[0]? = some x) (hp : (payE E x.u now).2 = true) : ∃ E' y k, nextE E now [] = some (E', y) ∧ NextS E now [] E' y k := by
  cases h : nextE E now [] with
  | none =>
    have := nextE_none h hx hp
    rw [blkQ_first (List.getElem?_eq_some_iff.1 hx).1] at this
    cases this
  | some p =>
    obtain ⟨E', y⟩ := p
    obtain ⟨k, hk⟩ := nextE_some h
    exact ⟨E', y, k, rfl, hk⟩
end Go.Proofs.Ytpgjbocjhconoaa

/- Members in a scheduler: none is lost or doubled, and those of bunches that conflict keep their order. -/
namespace Go.Proofs.Ytpgjbocjhconoaa
open Go.RowKit Go.Maps
set_option linter.unusedSimpArgs false

def idsU (b : Bu) : List Int := b.ms.map Mem.id
/-- The bunch b lies within y. -/
def Inn (b y : Bu) : Prop := y.sec ≤ b.sec ∧ b.sec + b.cnt ≤ y.sec + y.cnt ∧ b.knd = y.knd
theorem idsU_pair {u v x y : Bu} (h : (x = u ∧ y = v) ∨ (x = v ∧ y = u)) : (idsU (pairU u v x y)).Perm (idsU u ++ idsU v) := by
  have e : idsU (pairU u v x y) = idsU x ++ idsU y := by
    show (x.ms ++ shift x.cnt y.ms).map Mem.id = _
    rw [List.map_append, shift_ids]; rfl
  rw [e]
  rcases h with ⟨rfl, rfl⟩ | ⟨rfl, rfl⟩
  · exact List.Perm.refl _
  · exact List.perm_append_comm
theorem Inn.pair {M B : Int} {a b c x y : Bu} (hj : JoinS M B a b x y) (h : Inn c a ∨ Inn c b) : Inn c (pairU a b x y) := by
  have r1 := okU_range hj.okx
  have r2 := okU_range hj.oky
  have hs := hj.side
  have hk := hj.knd
  unfold Inn at *
  show x.sec ≤ c.sec ∧ c.sec + c.cnt ≤ x.sec + (x.cnt + y.cnt) ∧ c.knd = a.knd
  rcases hj.or with ⟨rfl, rfl⟩ | ⟨rfl, rfl⟩ <;> rcases h with h | h <;> omega
theorem Inn.refl (b : Bu) : Inn b b := ⟨Int.le_refl _, Int.le_refl _, rfl⟩
theorem conf_inn {b c x y : Bu} (h : confU b c = true) (hb : Inn b y) (hc : Inn c x) (hy : okU y = true) (hx : okU x = true) : confU y x = true := by
  unfold confU confB at h ⊢
  simp only [Bool.and_eq_true] at h ⊢
  refine ⟨⟨hy, hx⟩, ?_⟩
  have h2 := h.2
  unfold meetB at h2 ⊢
  rw [decide_eq_true_eq] at h2 ⊢
  obtain ⟨b1, b2, b3⟩ := hb
  obtain ⟨c1, c2, c3⟩ := hc
  have g1 : b.bm.b.knd = b.knd := rfl
  have g2 : c.bm.b.knd = c.knd := rfl
  have g3 : b.bm.b.sec = b.sec := rfl
  have g4 : c.bm.b.sec = c.sec := rfl
  have g5 : b.bm.b.cnt = b.cnt := rfl
  have g6 : c.bm.b.cnt = c.cnt := rfl
  rw [g1, g2, g3, g4, g5, g6] at h2
  show (y.knd = 2 ∨ x.knd = 2) ∧ y.sec < x.sec + x.cnt ∧ x.sec < y.sec + y.cnt
  omega

/-- Members of x and of y, of bunches that conflict: not the later one in x. -/
def Rk (Q : List Bu) (x y : Bu) : Prop := ∀ (k i : Nat) (b c : Bu), k < i → Q[k]? = some b → Q[i]? = some c → confU b c = true → 2 * (k : Int) ∈ idsU y → 2 * (i : Int) ∈ idsU x → False
structure InS1 (Q : List Bu) (m : Nat) (y : Bu) : Prop where
  ok : okU y = true
  ten : 0 ≤ y.ten ∧ y.ten < 4
  src : ∀ id ∈ idsU y, ∃ k b, k < m ∧ Q[k]? = some b ∧ id ∈ idsU b ∧ Inn b y
structure SchS (Q : List Bu) (m : Nat) (S : List Bu) : Prop where
  each : ∀ y ∈ S, InS1 Q m y
  perm : (S.flatMap idsU).Perm ((Q.take m).flatMap idsU)
  ord : S.Pairwise (Rk Q)
  len : S.length ≤ m
theorem DkQ.ids {Q : List Bu} (hq : DkQ Q) {k : Nat} {b : Bu} (hb : Q[k]? = some b) {id : Int} (h : id ∈ idsU b) : id = 2 * (k : Int) ∨ id = 2 * (k : Int) + 1 := by
  unfold idsU at h
  rw [List.mem_map] at h
  obtain ⟨f, hf, rfl⟩ := h
  exact (hq.2 k b hb).id hf
theorem DkQ.head {Q : List Bu} (hq : DkQ Q) {k : Nat} {b : Bu} (hb : Q[k]? = some b) : 2 * (k : Int) ∈ idsU b := by
  obtain ⟨f, l, h1, h2⟩ := (hq.2 k b hb).head
  unfold idsU
  rw [h1, List.map_cons, h2]
  exact List.mem_cons_self
/-- The bunch whose head an element holds lies in it. -/
theorem InS1.inn {Q : List Bu} (hq : DkQ Q) {m k : Nat} {y b : Bu} (h : InS1 Q m y) (hb : Q[k]? = some b) (hi : 2 * (k : Int) ∈ idsU y) : k < m ∧ Inn b y := by
  obtain ⟨k', b', h1, h2, h3, h4⟩ := h.src _ hi
  have := hq.ids h2 h3
  obtain rfl : k' = k := by omega
  rw [hb] at h2
  injection h2 with h2
  rw [h2]
  exact ⟨h1, h4⟩
theorem InS1.up {Q : List Bu} {m : Nat} {y : Bu} (h : InS1 Q m y) : InS1 Q (m + 1) y :=
  ⟨h.ok, h.ten, fun id hi => by obtain ⟨k, b, h1, h2⟩ := h.src id hi; exact ⟨k, b, by omega, h2⟩⟩
theorem SchS.nil (Q : List Bu) : SchS Q 0 [] := ⟨fun y h => (by cases h), by simp, List.Pairwise.nil, Nat.le_refl _⟩
theorem take_ids {Q : List Bu} {m : Nat} {b : Bu} (hb : Q[m]? = some b) : (Q.take (m + 1)).flatMap idsU = (Q.take m).flatMap idsU ++ idsU b := by
  rw [List.take_add_one, hb]
  simp
theorem SchS.snoc {Q : List Bu} (hq : DkQ Q) {m : Nat} {S : List Bu} {b : Bu} (h : SchS Q m S) (hb : Q[m]? = some b) (ht : 0 ≤ b.ten ∧ b.ten < 4) : SchS Q (m + 1) (S ++ [b]) := by
  refine ⟨fun y hy => ?_, ?_, ?_, by rw [List.length_append]; have := h.len; simp; omega⟩
  · rcases List.mem_append.1 hy with hy | hy
    · exact (h.each y hy).up
    · rw [List.mem_singleton] at hy
      subst hy
      exact ⟨(hq.2 m _ hb).ok, ht, fun id hi => ⟨m, _, by omega, hb, hi, Inn.refl _⟩⟩
  · rw [take_ids hb, List.flatMap_append]
    simp only [List.flatMap_cons, List.flatMap_nil, List.append_nil]
    exact h.perm.append_right _
  · rw [List.pairwise_append]
    refine ⟨h.ord, List.pairwise_singleton _ _, fun x hx y hy => ?_⟩
    rw [List.mem_singleton] at hy
    subst hy
    intro k i c d hki hc hd _ h1 h2
    have := hq.ids hb h1
    have := ((h.each x hx).inn hq hd h2).1
    omega
theorem SchS.join {Q : List Bu} (hq : DkQ Q) {m : Nat} {M B : Int} {S1 S2 : List Bu} {a b x y : Bu} (h : SchS Q m (S1 ++ a :: S2)) (hb : Q[m]? = some b) (hj : JoinS M B a b x y) (hd : ∀ z ∈ S2, confU z b = false) : SchS Q (m + 1) (S1 ++ pairU a b x y :: S2) := by
  have ha := h.each a (by simp)
  have hids : ∀ id ∈ idsU (pairU a b x y), id ∈ idsU a ∨ id ∈ idsU b := fun id hi => List.mem_append.1 ((idsU_pair hj.or).mem_iff.1 hi)
  refine ⟨fun z hz => ?_, ?_, ?_, ?_⟩
  · rw [List.mem_append, List.mem_cons] at hz
    rcases hz with hz | rfl | hz
    · exact (h.each z (by simp [hz])).up
    · refine ⟨hj.ok, ha.ten, fun id hi => ?_⟩
      rcases hids id hi with hi | hi
      · obtain ⟨k, c, h1, h2, h3, h4⟩ := ha.src id hi
        exact ⟨k, c, by omega, h2, h3, Inn.pair hj (.inl h4)⟩
      · exact ⟨m, b, by omega, hb, hi, Inn.pair hj (.inr (Inn.refl b))⟩
    · exact (h.each z (by simp [hz])).up
  · rw [take_ids hb]
    refine List.Perm.trans ?_ (h.perm.append_right _)
    simp only [List.flatMap_append, List.flatMap_cons, List.append_assoc]
    refine List.Perm.append_left _ ?_
    refine ((idsU_pair hj.or).append_right _).trans ?_
    rw [List.append_assoc]
    exact List.Perm.append_left _ List.perm_append_comm
  · have ho := h.ord
    rw [List.pairwise_append, List.pairwise_cons] at ho ⊢
    obtain ⟨o1, ⟨o2, o3⟩, o4⟩ := ho
    refine ⟨o1, ⟨fun z hz => ?_, o3⟩, fun z hz w hw => ?_⟩
    · intro k i c d hki hc hd2 hcf h1 h2
      rcases hids _ h2 with h2 | h2
      · exact o2 z hz k i c d hki hc hd2 hcf h1 h2
      · have := hq.ids hb h2
        obtain rfl : i = m := by omega
        rw [hb] at hd2
        injection hd2 with hd2
        subst hd2
        have hz2 := h.each z (by simp [hz])
        have := conf_inn hcf (hz2.inn hq hc h1).2 (Inn.refl b) hz2.ok (hq.2 _ _ hb).ok
        rw [hd z hz] at this
        cases this
    · rw [List.mem_cons] at hw
      rcases hw with rfl | hw
      · intro k i c d hki hc hd2 hcf h1 h2
        rcases hids _ h1 with h1 | h1
        · exact o4 z hz a (by simp) k i c d hki hc hd2 hcf h1 h2
        · have := hq.ids hb h1
          have := ((h.each z (by simp [hz])).inn hq hd2 h2).1
          omega
      · exact o4 z hz w (by simp [hw])
  · have := h.len
    simp only [List.length_append, List.length_cons] at this ⊢
    omega
theorem SchS.move {Q : List Bu} (hq : DkQ Q) {m : Nat} {S P1 P2 : List Bu} {x : Bu} (h : SchS Q m (S ++ (P1 ++ x :: P2))) (hc : ∀ z ∈ P1, confU z x = false) : SchS Q m (S ++ [x] ++ (P1 ++ P2)) := by
  have hp : (S ++ [x] ++ (P1 ++ P2)).Perm (S ++ (P1 ++ x :: P2)) := by
    rw [List.append_assoc]
    refine List.Perm.append_left _ ?_
    exact (List.perm_middle (a := x) (l₁ := P1) (l₂ := P2)).symm
  refine ⟨fun y hy => h.each y (hp.mem_iff.1 hy), (hp.flatMap_right _).trans h.perm, ?_, by rw [hp.length_eq]; exact h.len⟩
  have ho := h.ord
  rw [List.pairwise_append, List.pairwise_append, List.pairwise_cons] at ho
  obtain ⟨o1, ⟨o2, ⟨o3, o4⟩, o5⟩, o6⟩ := ho
  rw [List.pairwise_append, List.pairwise_append, List.pairwise_append]
  refine ⟨⟨o1, List.pairwise_singleton _ _, fun a ha b hb => ?_⟩, ⟨o2, o4, fun a ha b hb => o5 a ha b (by simp [hb])⟩, fun a ha b hb => ?_⟩
  · rw [List.mem_singleton] at hb
    subst hb
    exact o6 a ha b (by simp)
  · rw [List.mem_append] at ha hb
    rcases ha with ha | ha
    · exact o6 a ha b (by rcases hb with hb | hb <;> simp [hb])
    · rw [List.mem_singleton] at ha
      subst ha
      rcases hb with hb | hb
      · intro k i c d hki hcq hd2 hcf h1 h2
        have hb2 := h.each b (by simp [hb])
        have ha2 := h.each a (by simp)
        have := conf_inn hcf (hb2.inn hq hcq h1).2 (ha2.inn hq hd2 h2).2 hb2.ok ha2.ok
        rw [hc b hb] at this
        cases this
      · exact o3 b hb

/-- The bunches of a scheduler's entries. -/
def usE (E : El) : List Bu := E.en.map Qu.u
theorem sch_add {Q : List Bu} (hq : DkQ Q) {m : Nat} {M B : Int} {S : List Bu} {E E' : El} {b : Bu} (h : SchS Q m (S ++ usE E)) (hb : Q[m]? = some b) (ht : 0 ≤ b.ten ∧ b.ten < 4) (ha : AddS M B E b E') : SchS Q (m + 1) (S ++ usE E') := by
  rcases ha.en with ⟨i, a, x, y, d, h1, hj, h3, h4⟩ | ⟨d, s, _, h4⟩
  · have hi := (List.getElem?_eq_some_iff.1 h1).1
    have e1 : usE E = (E.en.take i).map Qu.u ++ a.u :: (E.en.drop (i + 1)).map Qu.u := by
      have : E.en = E.en.take i ++ a :: E.en.drop (i + 1) := by
        obtain ⟨_, h2⟩ := List.getElem?_eq_some_iff.1 h1
        rw [← h2, ← List.drop_eq_getElem_cons, List.take_append_drop]
      show E.en.map Qu.u = _
      conv => lhs; rw [this]
      rw [List.map_append, List.map_cons]
    have e2 : usE E' = (E.en.take i).map Qu.u ++ pairU a.u b x y :: (E.en.drop (i + 1)).map Qu.u := by
      show E'.en.map Qu.u = _
      rw [h4, List.set_eq_take_append_cons_drop, if_pos hi, List.map_append, List.map_cons]
    rw [e1, ← List.append_assoc] at h
    rw [e2, ← List.append_assoc]
    refine h.join hq hb hj (fun z hz => ?_)
    rw [List.mem_map] at hz
    obtain ⟨q, hq2, rfl⟩ := hz
    rw [List.any_eq_false] at h3
    have := h3 q hq2
    unfold betw at this
    simp only [Bool.or_eq_true, not_or] at this
    simpa using this.1
  · have e2 : usE E' = usE E ++ [b] := by
      show E'.en.map Qu.u = _
      rw [h4, List.map_append]; rfl
    rw [e2, ← List.append_assoc]
    exact h.snoc hq hb ht
theorem sch_next {Q : List Bu} (hq : DkQ Q) {m : Nat} {S : List Bu} {E E' : El} {now : Int} {busy : List Bu} {x : Qu} {k : Nat} (h : SchS Q m (S ++ usE E)) (hn : NextS E now busy E' x k) : SchS Q m (S ++ [x.u] ++ usE E') := by
  have h1 := hn.at_
  have hk := (List.getElem?_eq_some_iff.1 h1).1
  have e1 : usE E = (E.en.take k).map Qu.u ++ x.u :: (E.en.drop (k + 1)).map Qu.u := by
    have : E.en = E.en.take k ++ x :: E.en.drop (k + 1) := by
      obtain ⟨_, h2⟩ := List.getElem?_eq_some_iff.1 h1
      rw [← h2, ← List.drop_eq_getElem_cons, List.take_append_drop]
    show E.en.map Qu.u = _
    conv => lhs; rw [this]
    rw [List.map_append, List.map_cons]
  have e2 : usE E' = (E.en.take k).map Qu.u ++ (E.en.drop (k + 1)).map Qu.u := by
    show E'.en.map Qu.u = _
    rw [hn.en, List.eraseIdx_eq_take_drop_succ, List.map_append]
  rw [e1] at h
  rw [e2]
  refine h.move hq (fun z hz => ?_)
  rw [List.mem_map] at hz
  obtain ⟨q, hq2, rfl⟩ := hz
  obtain ⟨j, hj, hj2⟩ := List.mem_take_iff_getElem.1 hq2
  exact (blkQ_no h1 hn.blk).1 j q (by omega) (by rw [← hj2]; exact List.getElem?_eq_getElem (by omega))
theorem DkQ.nodup {Q : List Bu} (hq : DkQ Q) : ∀ m ≤ Q.length, ((Q.take m).flatMap idsU).Nodup
  | 0, _ => by simp
  | m + 1, hm => by
    have hb : Q[m]? = some (Q[m]'(by omega)) := List.getElem?_eq_getElem (by omega)
    rw [take_ids hb, List.nodup_append]
    refine ⟨hq.nodup m (by omega), ?_, fun a ha b hb2 e => ?_⟩
    · unfold idsU
      rcases (hq.2 m _ hb).ms with e | e <;> rw [e] <;> simp
      omega
    · subst e
      rw [List.mem_flatMap] at ha
      obtain ⟨c, hc, hac⟩ := ha
      obtain ⟨j, hj, rfl⟩ := List.mem_take_iff_getElem.1 hc
      have h1 := hq.ids (List.getElem?_eq_getElem (by omega)) hac
      have h2 := hq.ids hb hb2
      omega
end Go.Proofs.Ytpgjbocjhconoaa
