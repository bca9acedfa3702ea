/- dock.Bunch: a valid bunch that a number chooses. -/
import Derived.Test.YtbijfmpmgmfpgaaMems
import Derived.Test.YtbijfmpmgmfpgaaData
import Derived.Test.YtbijfmpmgmfpgaaSetRow
namespace Go.Proofs.Ytbijfmpmgmfpgaa
open Go.RowKit
set_option linter.unusedSimpArgs false

def bnC (n : Int) : Int := rnd (n / 256) 3
def bnK (n : Int) : Int := rnd (n / 4) 2
def bnTwo (n : Int) : Bool := decide (1 ≤ bnC n ∧ rnd (n / 262144) 3 = 0)
def bnM (n : Int) (id : Nat) : List Mem := if bnTwo n then [⟨2 * (id : Int), 0, 1⟩, ⟨2 * (id : Int) + 1, 1, 1 + bnC n - 1⟩] else [⟨2 * (id : Int), 0, 1 + bnC n⟩]
def bnD (n : Int) : ByteArray := if bnK n = 1 then dataB (n / 1048576) (bnC n + 1).toNat else ⟨#[]⟩
/-- The bunch, its members in block A. -/
def bnB (n : Int) (id : Nat) (A : Nat) : Bun := ⟨2 * (id : Int), rnd n 3, 1 + bnK n, rnd (n / 16) 14, 1 + bnC n, bnD n, rnd (n / 1024) 8 == 0, some ⟨A, 0, none⟩, (bnM n id).length, (bnM n id).length, rnd (n / 8192) 30⟩
theorem bnC_bd (n : Int) : 0 ≤ bnC n ∧ bnC n < 3 := ⟨rnd_lo _ _, rnd_hi _ _ (by omega)⟩
theorem bnK_bd (n : Int) : 0 ≤ bnK n ∧ bnK n < 2 := ⟨rnd_lo _ _, rnd_hi _ _ (by omega)⟩
theorem bn_valid (n : Int) (id A : Nat) : validB (bnB n id A) (bnM n id) = true := by
  have hc := bnC_bd n
  have hk := bnK_bd n
  have hs := rnd_lo (n / 16) 14
  have hs2 := rnd_hi (n / 16) 14 (by omega)
  unfold validB
  simp only [Bool.and_eq_true]
  refine ⟨⟨?_, ?_⟩, ?_⟩
  · exact decide_eq_true ⟨hs, show rnd (n / 16) 14 < 128 by omega, show 1 ≤ 1 + bnC n by omega, show 1 + bnC n ≤ 128 - rnd (n / 16) 14 by omega⟩
  · by_cases h : bnK n = 1
    · have hd : (bnD n).size = (bnC n + 1).toNat * 8 := by unfold bnD; rw [if_pos h, dataB_size]
      unfold dataOk
      rw [if_neg (show ¬ (bnB n id A).knd = 1 from fun e => by have : 1 + bnK n = 1 := e; omega), if_pos (show (bnB n id A).knd = 2 from by show 1 + bnK n = 2; omega)]
      exact decide_eq_true (by show ((bnD n).size : Int) = (1 + bnC n) * 8; omega)
    · have h0 : bnK n = 0 := by omega
      have hd : (bnD n).size = 0 := by unfold bnD; rw [if_neg h]; rfl
      unfold dataOk
      rw [if_pos (show (bnB n id A).knd = 1 from by show 1 + bnK n = 1; omega)]
      exact decide_eq_true hd
  · simp only [bnB, bnM]
    by_cases h : bnTwo n = true
    · have h1 : 1 ≤ bnC n := by simp only [bnTwo, decide_eq_true_eq] at h; exact h.1
      rw [if_pos h]
      simp [memOk]
      omega
    · rw [if_neg h]
      simp [memOk]
      omega
theorem bnM_ids (n : Int) (id : Nat) (hi : id ≤ 1000) : ∀ m ∈ bnM n id, IsInt m.id := by
  intro m hm
  unfold bnM at hm
  unfold IsInt
  split at hm
  · simp at hm
    rcases hm with rfl | rfl <;> simp <;> omega
  · simp at hm
    subst hm
    simp; omega
theorem bnD_size (n : Int) : (bnD n).size ≤ maxLen := by
  have hc := bnC_bd n
  unfold bnD maxLen
  split
  · rw [dataB_size]; omega
  · show (0 : Nat) ≤ _; omega
theorem bn_mems {n : Int} {id : Nat} {A : Nat} {w : World} (hi : id ≤ 1000) (h : Rd w (.slice (some ⟨A, 0, none⟩) (bnM n id).length (bnM n id).length) 3 (bnM n id).length (mcells (bnM n id))) : Mems w (bnB n id A) (bnM n id) :=
  ⟨rfl, h, bnM_ids n id hi, bnD_size n⟩

theorem rd_made {W : World} {g : Nat} (hg : g = W.heap.size) (t : TypeId) (cs : List Value) (size n : Nat) (h : cs.length = n * size) (hm : n ≤ maxLen) : Rd (W.alloc (.cells cs.toArray t)) (.slice (some ⟨g, 0, none⟩) n n) size n cs := by
  subst hg; exact Rd.new _ _ _ _ _ h hm

set_option maxRecDepth 100000 in
set_option maxHeartbeats 8000000 in
theorem bunchF_any (n : Int) (id : Nat) (w : World) (hi : id ≤ 1000) :
    Calls Try.prog 56 #[.int .i64 n, .int .i64 (id : Int)] w fun e w' => ∃ A, e = .returned (.agg (bnB n id A).arr) ∧ w.heap.size ≤ A ∧ (Mems w' (bnB n id A) (bnM n id) ∧ AtF w' A (mcells (bnM n id))) ∧ Bel w w' := by
  have hc := bnC_bd n
  have hk := bnK_bd n
  have HCON := Lib.hid (fun A w' => bn_mems (n := n) (A := A) (w := w') hi)
  have HDT := Lib.hid (fun w' => data_any (n / 1048576) (bnC n + 1).toNat w' (by omega) (by omega))
  have hC1 : (((bnC n + 1).toNat : Nat) : Int) = 1 + bnC n := by omega
  rw [hC1] at HDT
  have HB := Lib.hid (fun A => show bnB n id A = ⟨2 * (id : Int), rnd n 3, 1 + bnK n, rnd (n / 16) 14, 1 + bnC n, bnD n, rnd (n / 1024) 8 == 0, some ⟨A, 0, none⟩, (bnM n id).length, (bnM n id).length, rnd (n / 8192) 30⟩ from rfl)
  have HD := Lib.hid (show bnD n = if bnK n = 1 then dataB (n / 1048576) (bnC n + 1).toNat else ⟨#[]⟩ from rfl)
  have HM := Lib.hid (show bnM n id = if bnTwo n then [⟨2 * (id : Int), 0, 1⟩, ⟨2 * (id : Int) + 1, 1, 1 + bnC n - 1⟩] else [⟨2 * (id : Int), 0, 1 + bnC n⟩] from rfl)
  have HT := Lib.hid (show bnTwo n = decide (1 ≤ bnC n ∧ rnd (n / 262144) 3 = 0) from rfl)
  generalize bnM n id = ms at *
  generalize bnD n = dd at *
  generalize bnTwo n = two at *
  generalize dataB (n / 1048576) (bnC n + 1).toNat = db at *
  obtain ⟨c, Hc⟩ : ∃ c, Hid (c = bnC n) := ⟨_, rfl⟩
  obtain ⟨k, Hk⟩ : ∃ k, Hid (k = bnK n) := ⟨_, rfl⟩
  obtain ⟨a3, H3⟩ : ∃ a, Hid (a = rnd n 3) := ⟨_, rfl⟩
  obtain ⟨s, Hs⟩ : ∃ a, Hid (a = rnd (n / 16) 14) := ⟨_, rfl⟩
  obtain ⟨f, Hf⟩ : ∃ a, Hid (a = rnd (n / 1024) 8) := ⟨_, rfl⟩
  obtain ⟨t, Ht⟩ : ∃ a, Hid (a = rnd (n / 8192) 30) := ⟨_, rfl⟩
  obtain ⟨p, Hp⟩ : ∃ a, Hid (a = rnd (n / 262144) 3) := ⟨_, rfl⟩
  rw [← Hc.out] at hc HDT HB HM HT
  rw [← Hk.out] at hk HB HD
  rw [← H3.out, ← Hs.out, ← Hf.out, ← Ht.out] at HB
  rw [← Hp.out] at HT
  obtain ⟨c0, c3⟩ := hc
  obtain ⟨k0, k2⟩ := hk
  have e1 : rnd (n / 4) 2 = bnK n := rfl
  have e2 : rnd (n / 256) 3 = bnC n := rfl
  have E1 := Lib.hid e1
  have E2 := Lib.hid e2
  clear hC1 e1 e2
  by_cases hk1 : k = 1
  · subst hk1
    have HDD := Lib.hid (show dd = db from HD.out)
    by_cases hc1 : 1 ≤ c
    · by_cases hp0 : p = 0
      · subst hp0
        have HT2 := Lib.hid (show two = true by rw [HT.out]; simp [hc1])
        have HM2 := Lib.hid (show ms = [⟨2 * (id : Int), 0, 1⟩, ⟨2 * (id : Int) + 1, 1, 1 + c - 1⟩] by rw [HM.out, HT2.out]; rfl)
        go_enter Try.func56, Try.ntmps56
        go_wp2_with fail
        refine (round_any _ _ _ (by omega)).mono ?_; rw [← H3.out]; rintro e w' ⟨rfl, rfl⟩
        go_wp2_with fail
        refine (round_any _ _ _ (by omega)).mono ?_; rw [E1.out, ← Hk.out]; rintro e w' ⟨rfl, rfl⟩
        go_wp2_with fail
        refine (round_any _ _ _ (by omega)).mono ?_; rw [← Hs.out]; rintro e w' ⟨rfl, rfl⟩
        go_wp2_with fail
        refine (round_any _ _ _ (by omega)).mono ?_; rw [E2.out, ← Hc.out]; rintro e w' ⟨rfl, rfl⟩
        go_wp2_with fail
        refine (round_any _ _ _ (by omega)).mono ?_; rw [← Hf.out]; rintro e w' ⟨rfl, rfl⟩
        go_wp2_with fail
        refine (round_any _ _ _ (by omega)).mono ?_; rw [← Ht.out]; rintro e w' ⟨rfl, rfl⟩
        go_wp2_with fail
        refine (round_any _ _ _ (by omega)).mono ?_; rw [← Hp.out]; rintro e w' ⟨rfl, rfl⟩
        go_wp2_with fail
        refine (HDT.out _).mono ?_; rintro e w5 ⟨rfl, hb5⟩
        have hX : AtF w5 (w.heap.size + 1) [.int .i64 (2 * (id : Int)), .int .i64 a3, .int .i64 2, .int .i64 s, .int .i64 (1 + c), .string ⟨#[]⟩, .bool (f == 0), .slice (some ⟨w.heap.size + 1 + 1 + 1, 0, none⟩) 2 2, .int .i64 t] := by
          refine AtF.bel ?_ hb5
          first | exact (AtF.new_at (by simp) _ _).alloc _ | exact ((AtF.new_at (by simp) _ _).alloc _).alloc _
        have hR : AtF w5 w.heap.size [.int .i64 0, .int .i64 0, .int .i64 0, .int .i64 0, .int .i64 0, .string ⟨#[]⟩, .bool false, .slice none 0 0, .int .i64 0] := by
          refine AtF.bel ?_ hb5
          first | exact ((AtF.new_at rfl _ _).alloc _).alloc _ | exact (((AtF.new_at rfl _ _).alloc _).alloc _).alloc _
        have hM : Rd w5 (.slice (some ⟨w.heap.size + 1 + 1 + 1, 0, none⟩) 2 2) 3 2 (mcells ms) := by
          rw [HM2.out]
          refine Rd.bel ?_ hb5
          refine rd_made ?_ _ _ 3 2 ?_ (by unfold maxLen; omega)
          · simp
          · rfl
        have hMF : AtF w5 (w.heap.size + 1 + 1 + 1) (mcells ms) := by
          rw [HM2.out]
          refine AtF.bel ?_ hb5
          exact AtF.new_at (by simp) _ _
        have hbw : Bel w w5 := (by repeat (first | (with_reducible exact Bel.refl _) | (with_reducible assumption) | (with_reducible refine Bel.drewN ?_ _) | (with_reducible refine Bel.drew ?_) | (with_reducible refine Bel.alloc ?_ _) | (with_reducible refine Bel.setNew ?_ ?_ _) | (with_reducible refine Bel.trans ?_ (by assumption)) | (focus (simp; done)) | (focus (simp; omega))))
        clear hb5
        have q0 := (hX).1.2 0 _ rfl
        have q1 := (hX).1.2 1 _ rfl
        have q2 := (hX).1.2 2 _ rfl
        have q3 := (hX).1.2 3 _ rfl
        have q4 := (hX).1.2 4 _ rfl
        have q5 := (hX).1.2 5 _ rfl
        have q6 := (hX).1.2 6 _ rfl
        have q7 := (hX).1.2 7 _ rfl
        have q8 := (hX).1.2 8 _ rfl
        have r0 := (hR).1.2 0 _ rfl
        have r1 := (hR).1.2 1 _ rfl
        have r2 := (hR).1.2 2 _ rfl
        have r3 := (hR).1.2 3 _ rfl
        have r4 := (hR).1.2 4 _ rfl
        have r5 := (hR).1.2 5 _ rfl
        have r6 := (hR).1.2 6 _ rfl
        have r7 := (hR).1.2 7 _ rfl
        have r8 := (hR).1.2 8 _ rfl
        have qf := hX.2
        have ql := hX.1.1
        have rf := hR.2
        have rl := hR.1.1
        have hX2 := hX.set 5 (by simp) (.string db)
        have hM2 := hM.far (p := ⟨w.heap.size + 1, 5, none⟩) (by simp [Value.ownBlock]; try omega) (.string db)
        have hR2 := hR.other (C := w.heap.size + 1) (by omega) 5 (.string db)
        have hMF2 := hMF.other (C := w.heap.size + 1) (by omega) 5 (.string db)
        have hMF3 := AtF.setRow_other (B := w.heap.size) (i := 0) [.int .i64 (2 * (id : Int)), .int .i64 a3, .int .i64 2, .int .i64 s, .int .i64 (1 + c), .string db, .bool (f == 0), .slice (some ⟨w.heap.size + 1 + 1 + 1, 0, none⟩) 2 2, .int .i64 t] hMF2 (by omega)
        go_wp2
        have hR3 := hR2.setRow [.int .i64 (2 * (id : Int)), .int .i64 a3, .int .i64 2, .int .i64 s, .int .i64 (1 + c), .string db, .bool (f == 0), .slice (some ⟨w.heap.size + 1 + 1 + 1, 0, none⟩) 2 2, .int .i64 t] rfl
        have hM3 := Rd.setRow (B := w.heap.size) (i := 0) [.int .i64 (2 * (id : Int)), .int .i64 a3, .int .i64 2, .int .i64 s, .int .i64 (1 + c), .string db, .bool (f == 0), .slice (some ⟨w.heap.size + 1 + 1 + 1, 0, none⟩) 2 2, .int .i64 t] hM2 (by simp [Value.ownBlock]; try omega)
        clear q0 q1 q2 q3 q4 q5 q6 q7 q8 r0 r1 r2 r3 r4 r5 r6 r7 r8
        have r0 := (hR3).1.2 0 _ rfl
        have r1 := (hR3).1.2 1 _ rfl
        have r2 := (hR3).1.2 2 _ rfl
        have r3 := (hR3).1.2 3 _ rfl
        have r4 := (hR3).1.2 4 _ rfl
        have r5 := (hR3).1.2 5 _ rfl
        have r6 := (hR3).1.2 6 _ rfl
        have r7 := (hR3).1.2 7 _ rfl
        have r8 := (hR3).1.2 8 _ rfl
        exact bodyPost_ret (v := .agg #[.int .i64 (2 * (id : Int)), .int .i64 a3, .int .i64 2, .int .i64 s, .int .i64 (1 + c), .string db, .bool (f == 0), .slice (some ⟨w.heap.size + 1 + 1 + 1, 0, none⟩) 2 2, .int .i64 t]) (by simp only [setRow] at r0 r1 r2 r3 r4 r5 r6 r7 r8; simp [results, Try.results56, go_sem, r0, r1, r2, r3, r4, r5, r6, r7, r8]) rfl ⟨w.heap.size + 1 + 1 + 1, by rw [HB.out, HDD.out, HM2.out]; rfl, by omega, ⟨HCON.out _ _ (by rw [show ms.length = 2 by rw [HM2.out]; rfl]; exact hM3), hMF3⟩, Bel.setRow (B := w.heap.size) (i := 0) [.int .i64 (2 * (id : Int)), .int .i64 a3, .int .i64 2, .int .i64 s, .int .i64 (1 + c), .string db, .bool (f == 0), .slice (some ⟨w.heap.size + 1 + 1 + 1, 0, none⟩) 2 2, .int .i64 t] (hbw.setNew (by simp) _) (Nat.le_refl _)⟩
      · have hp1 : (p == 0) = false := by simpa using hp0
        have HT2 := Lib.hid (show two = false by rw [HT.out]; simp [hp0])
        have HM2 := Lib.hid (show ms = [⟨2 * (id : Int), 0, 1 + c⟩] by rw [HM.out, HT2.out]; rfl)
        clear hp0
        go_enter Try.func56, Try.ntmps56
        go_wp2_with fail
        refine (round_any _ _ _ (by omega)).mono ?_; rw [← H3.out]; rintro e w' ⟨rfl, rfl⟩
        go_wp2_with fail
        refine (round_any _ _ _ (by omega)).mono ?_; rw [E1.out, ← Hk.out]; rintro e w' ⟨rfl, rfl⟩
        go_wp2_with fail
        refine (round_any _ _ _ (by omega)).mono ?_; rw [← Hs.out]; rintro e w' ⟨rfl, rfl⟩
        go_wp2_with fail
        refine (round_any _ _ _ (by omega)).mono ?_; rw [E2.out, ← Hc.out]; rintro e w' ⟨rfl, rfl⟩
        go_wp2_with fail
        refine (round_any _ _ _ (by omega)).mono ?_; rw [← Hf.out]; rintro e w' ⟨rfl, rfl⟩
        go_wp2_with fail
        refine (round_any _ _ _ (by omega)).mono ?_; rw [← Ht.out]; rintro e w' ⟨rfl, rfl⟩
        go_wp2_with fail
        refine (round_any _ _ _ (by omega)).mono ?_; rw [← Hp.out]; rintro e w' ⟨rfl, rfl⟩
        go_wp2_with fail
        refine (HDT.out _).mono ?_; rintro e w5 ⟨rfl, hb5⟩
        have hX : AtF w5 (w.heap.size + 1) [.int .i64 (2 * (id : Int)), .int .i64 a3, .int .i64 2, .int .i64 s, .int .i64 (1 + c), .string ⟨#[]⟩, .bool (f == 0), .slice (some ⟨w.heap.size + 1 + 1, 0, none⟩) 1 1, .int .i64 t] := by
          refine AtF.bel ?_ hb5
          first | exact (AtF.new_at (by simp) _ _).alloc _ | exact ((AtF.new_at (by simp) _ _).alloc _).alloc _
        have hR : AtF w5 w.heap.size [.int .i64 0, .int .i64 0, .int .i64 0, .int .i64 0, .int .i64 0, .string ⟨#[]⟩, .bool false, .slice none 0 0, .int .i64 0] := by
          refine AtF.bel ?_ hb5
          first | exact ((AtF.new_at rfl _ _).alloc _).alloc _ | exact (((AtF.new_at rfl _ _).alloc _).alloc _).alloc _
        have hM : Rd w5 (.slice (some ⟨w.heap.size + 1 + 1, 0, none⟩) 1 1) 3 1 (mcells ms) := by
          rw [HM2.out]
          refine Rd.bel ?_ hb5
          refine rd_made ?_ _ _ 3 1 ?_ (by unfold maxLen; omega)
          · simp
          · rfl
        have hMF : AtF w5 (w.heap.size + 1 + 1) (mcells ms) := by
          rw [HM2.out]
          refine AtF.bel ?_ hb5
          exact AtF.new_at (by simp) _ _
        have hbw : Bel w w5 := (by repeat (first | (with_reducible exact Bel.refl _) | (with_reducible assumption) | (with_reducible refine Bel.drewN ?_ _) | (with_reducible refine Bel.drew ?_) | (with_reducible refine Bel.alloc ?_ _) | (with_reducible refine Bel.setNew ?_ ?_ _) | (with_reducible refine Bel.trans ?_ (by assumption)) | (focus (simp; done)) | (focus (simp; omega))))
        clear hb5
        have q0 := (hX).1.2 0 _ rfl
        have q1 := (hX).1.2 1 _ rfl
        have q2 := (hX).1.2 2 _ rfl
        have q3 := (hX).1.2 3 _ rfl
        have q4 := (hX).1.2 4 _ rfl
        have q5 := (hX).1.2 5 _ rfl
        have q6 := (hX).1.2 6 _ rfl
        have q7 := (hX).1.2 7 _ rfl
        have q8 := (hX).1.2 8 _ rfl
        have r0 := (hR).1.2 0 _ rfl
        have r1 := (hR).1.2 1 _ rfl
        have r2 := (hR).1.2 2 _ rfl
        have r3 := (hR).1.2 3 _ rfl
        have r4 := (hR).1.2 4 _ rfl
        have r5 := (hR).1.2 5 _ rfl
        have r6 := (hR).1.2 6 _ rfl
        have r7 := (hR).1.2 7 _ rfl
        have r8 := (hR).1.2 8 _ rfl
        have qf := hX.2
        have ql := hX.1.1
        have rf := hR.2
        have rl := hR.1.1
        have hX2 := hX.set 5 (by simp) (.string db)
        have hM2 := hM.far (p := ⟨w.heap.size + 1, 5, none⟩) (by simp [Value.ownBlock]; try omega) (.string db)
        have hR2 := hR.other (C := w.heap.size + 1) (by omega) 5 (.string db)
        have hMF2 := hMF.other (C := w.heap.size + 1) (by omega) 5 (.string db)
        have hMF3 := AtF.setRow_other (B := w.heap.size) (i := 0) [.int .i64 (2 * (id : Int)), .int .i64 a3, .int .i64 2, .int .i64 s, .int .i64 (1 + c), .string db, .bool (f == 0), .slice (some ⟨w.heap.size + 1 + 1, 0, none⟩) 1 1, .int .i64 t] hMF2 (by omega)
        go_wp2
        have hR3 := hR2.setRow [.int .i64 (2 * (id : Int)), .int .i64 a3, .int .i64 2, .int .i64 s, .int .i64 (1 + c), .string db, .bool (f == 0), .slice (some ⟨w.heap.size + 1 + 1, 0, none⟩) 1 1, .int .i64 t] rfl
        have hM3 := Rd.setRow (B := w.heap.size) (i := 0) [.int .i64 (2 * (id : Int)), .int .i64 a3, .int .i64 2, .int .i64 s, .int .i64 (1 + c), .string db, .bool (f == 0), .slice (some ⟨w.heap.size + 1 + 1, 0, none⟩) 1 1, .int .i64 t] hM2 (by simp [Value.ownBlock]; try omega)
        clear q0 q1 q2 q3 q4 q5 q6 q7 q8 r0 r1 r2 r3 r4 r5 r6 r7 r8
        have r0 := (hR3).1.2 0 _ rfl
        have r1 := (hR3).1.2 1 _ rfl
        have r2 := (hR3).1.2 2 _ rfl
        have r3 := (hR3).1.2 3 _ rfl
        have r4 := (hR3).1.2 4 _ rfl
        have r5 := (hR3).1.2 5 _ rfl
        have r6 := (hR3).1.2 6 _ rfl
        have r7 := (hR3).1.2 7 _ rfl
        have r8 := (hR3).1.2 8 _ rfl
        exact bodyPost_ret (v := .agg #[.int .i64 (2 * (id : Int)), .int .i64 a3, .int .i64 2, .int .i64 s, .int .i64 (1 + c), .string db, .bool (f == 0), .slice (some ⟨w.heap.size + 1 + 1, 0, none⟩) 1 1, .int .i64 t]) (by simp only [setRow] at r0 r1 r2 r3 r4 r5 r6 r7 r8; simp [results, Try.results56, go_sem, r0, r1, r2, r3, r4, r5, r6, r7, r8]) rfl ⟨w.heap.size + 1 + 1, by rw [HB.out, HDD.out, HM2.out]; rfl, by omega, ⟨HCON.out _ _ (by rw [show ms.length = 1 by rw [HM2.out]; rfl]; exact hM3), hMF3⟩, Bel.setRow (B := w.heap.size) (i := 0) [.int .i64 (2 * (id : Int)), .int .i64 a3, .int .i64 2, .int .i64 s, .int .i64 (1 + c), .string db, .bool (f == 0), .slice (some ⟨w.heap.size + 1 + 1, 0, none⟩) 1 1, .int .i64 t] (hbw.setNew (by simp) _) (Nat.le_refl _)⟩
    · obtain rfl : c = 0 := by omega
      have HT2 := Lib.hid (show two = false by rw [HT.out]; simp)
      have HM2 := Lib.hid (show ms = [⟨2 * (id : Int), 0, 1⟩] by rw [HM.out, HT2.out]; rfl)
      clear hc1
      go_enter Try.func56, Try.ntmps56
      go_wp2_with fail
      refine (round_any _ _ _ (by omega)).mono ?_; rw [← H3.out]; rintro e w' ⟨rfl, rfl⟩
      go_wp2_with fail
      refine (round_any _ _ _ (by omega)).mono ?_; rw [E1.out, ← Hk.out]; rintro e w' ⟨rfl, rfl⟩
      go_wp2_with fail
      refine (round_any _ _ _ (by omega)).mono ?_; rw [← Hs.out]; rintro e w' ⟨rfl, rfl⟩
      go_wp2_with fail
      refine (round_any _ _ _ (by omega)).mono ?_; rw [E2.out, ← Hc.out]; rintro e w' ⟨rfl, rfl⟩
      go_wp2_with fail
      refine (round_any _ _ _ (by omega)).mono ?_; rw [← Hf.out]; rintro e w' ⟨rfl, rfl⟩
      go_wp2_with fail
      refine (round_any _ _ _ (by omega)).mono ?_; rw [← Ht.out]; rintro e w' ⟨rfl, rfl⟩
      go_wp2_with fail
      refine (HDT.out _).mono ?_; rintro e w5 ⟨rfl, hb5⟩
      have hX : AtF w5 (w.heap.size + 1) [.int .i64 (2 * (id : Int)), .int .i64 a3, .int .i64 2, .int .i64 s, .int .i64 1, .string ⟨#[]⟩, .bool (f == 0), .slice (some ⟨w.heap.size + 1 + 1, 0, none⟩) 1 1, .int .i64 t] := by
        refine AtF.bel ?_ hb5
        first | exact (AtF.new_at (by simp) _ _).alloc _ | exact ((AtF.new_at (by simp) _ _).alloc _).alloc _
      have hR : AtF w5 w.heap.size [.int .i64 0, .int .i64 0, .int .i64 0, .int .i64 0, .int .i64 0, .string ⟨#[]⟩, .bool false, .slice none 0 0, .int .i64 0] := by
        refine AtF.bel ?_ hb5
        first | exact ((AtF.new_at rfl _ _).alloc _).alloc _ | exact (((AtF.new_at rfl _ _).alloc _).alloc _).alloc _
      have hM : Rd w5 (.slice (some ⟨w.heap.size + 1 + 1, 0, none⟩) 1 1) 3 1 (mcells ms) := by
        rw [HM2.out]
        refine Rd.bel ?_ hb5
        refine rd_made ?_ _ _ 3 1 ?_ (by unfold maxLen; omega)
        · simp
        · rfl
      have hMF : AtF w5 (w.heap.size + 1 + 1) (mcells ms) := by
        rw [HM2.out]
        refine AtF.bel ?_ hb5
        exact AtF.new_at (by simp) _ _
      have hbw : Bel w w5 := (by repeat (first | (with_reducible exact Bel.refl _) | (with_reducible assumption) | (with_reducible refine Bel.drewN ?_ _) | (with_reducible refine Bel.drew ?_) | (with_reducible refine Bel.alloc ?_ _) | (with_reducible refine Bel.setNew ?_ ?_ _) | (with_reducible refine Bel.trans ?_ (by assumption)) | (focus (simp; done)) | (focus (simp; omega))))
      clear hb5
      have q0 := (hX).1.2 0 _ rfl
      have q1 := (hX).1.2 1 _ rfl
      have q2 := (hX).1.2 2 _ rfl
      have q3 := (hX).1.2 3 _ rfl
      have q4 := (hX).1.2 4 _ rfl
      have q5 := (hX).1.2 5 _ rfl
      have q6 := (hX).1.2 6 _ rfl
      have q7 := (hX).1.2 7 _ rfl
      have q8 := (hX).1.2 8 _ rfl
      have r0 := (hR).1.2 0 _ rfl
      have r1 := (hR).1.2 1 _ rfl
      have r2 := (hR).1.2 2 _ rfl
      have r3 := (hR).1.2 3 _ rfl
      have r4 := (hR).1.2 4 _ rfl
      have r5 := (hR).1.2 5 _ rfl
      have r6 := (hR).1.2 6 _ rfl
      have r7 := (hR).1.2 7 _ rfl
      have r8 := (hR).1.2 8 _ rfl
      have qf := hX.2
      have ql := hX.1.1
      have rf := hR.2
      have rl := hR.1.1
      have hX2 := hX.set 5 (by simp) (.string db)
      have hM2 := hM.far (p := ⟨w.heap.size + 1, 5, none⟩) (by simp [Value.ownBlock]; try omega) (.string db)
      have hR2 := hR.other (C := w.heap.size + 1) (by omega) 5 (.string db)
      have hMF2 := hMF.other (C := w.heap.size + 1) (by omega) 5 (.string db)
      have hMF3 := AtF.setRow_other (B := w.heap.size) (i := 0) [.int .i64 (2 * (id : Int)), .int .i64 a3, .int .i64 2, .int .i64 s, .int .i64 1, .string db, .bool (f == 0), .slice (some ⟨w.heap.size + 1 + 1, 0, none⟩) 1 1, .int .i64 t] hMF2 (by omega)
      go_wp2
      have hR3 := hR2.setRow [.int .i64 (2 * (id : Int)), .int .i64 a3, .int .i64 2, .int .i64 s, .int .i64 1, .string db, .bool (f == 0), .slice (some ⟨w.heap.size + 1 + 1, 0, none⟩) 1 1, .int .i64 t] rfl
      have hM3 := Rd.setRow (B := w.heap.size) (i := 0) [.int .i64 (2 * (id : Int)), .int .i64 a3, .int .i64 2, .int .i64 s, .int .i64 1, .string db, .bool (f == 0), .slice (some ⟨w.heap.size + 1 + 1, 0, none⟩) 1 1, .int .i64 t] hM2 (by simp [Value.ownBlock]; try omega)
      clear q0 q1 q2 q3 q4 q5 q6 q7 q8 r0 r1 r2 r3 r4 r5 r6 r7 r8
      have r0 := (hR3).1.2 0 _ rfl
      have r1 := (hR3).1.2 1 _ rfl
      have r2 := (hR3).1.2 2 _ rfl
      have r3 := (hR3).1.2 3 _ rfl
      have r4 := (hR3).1.2 4 _ rfl
      have r5 := (hR3).1.2 5 _ rfl
      have r6 := (hR3).1.2 6 _ rfl
      have r7 := (hR3).1.2 7 _ rfl
      have r8 := (hR3).1.2 8 _ rfl
      exact bodyPost_ret (v := .agg #[.int .i64 (2 * (id : Int)), .int .i64 a3, .int .i64 2, .int .i64 s, .int .i64 1, .string db, .bool (f == 0), .slice (some ⟨w.heap.size + 1 + 1, 0, none⟩) 1 1, .int .i64 t]) (by simp only [setRow] at r0 r1 r2 r3 r4 r5 r6 r7 r8; simp [results, Try.results56, go_sem, r0, r1, r2, r3, r4, r5, r6, r7, r8]) rfl ⟨w.heap.size + 1 + 1, by rw [HB.out, HDD.out, HM2.out]; rfl, by omega, ⟨HCON.out _ _ (by rw [show ms.length = 1 by rw [HM2.out]; rfl]; exact hM3), hMF3⟩, Bel.setRow (B := w.heap.size) (i := 0) [.int .i64 (2 * (id : Int)), .int .i64 a3, .int .i64 2, .int .i64 s, .int .i64 1, .string db, .bool (f == 0), .slice (some ⟨w.heap.size + 1 + 1, 0, none⟩) 1 1, .int .i64 t] (hbw.setNew (by simp) _) (Nat.le_refl _)⟩
  · obtain rfl : k = 0 := by omega
    have HDD := Lib.hid (show dd = ⟨#[]⟩ from HD.out)
    by_cases hc1 : 1 ≤ c
    · by_cases hp0 : p = 0
      · subst hp0
        have HT2 := Lib.hid (show two = true by rw [HT.out]; simp [hc1])
        have HM2 := Lib.hid (show ms = [⟨2 * (id : Int), 0, 1⟩, ⟨2 * (id : Int) + 1, 1, 1 + c - 1⟩] by rw [HM.out, HT2.out]; rfl)
        go_enter Try.func56, Try.ntmps56
        go_wp2_with fail
        refine (round_any _ _ _ (by omega)).mono ?_; rw [← H3.out]; rintro e w' ⟨rfl, rfl⟩
        go_wp2_with fail
        refine (round_any _ _ _ (by omega)).mono ?_; rw [E1.out, ← Hk.out]; rintro e w' ⟨rfl, rfl⟩
        go_wp2_with fail
        refine (round_any _ _ _ (by omega)).mono ?_; rw [← Hs.out]; rintro e w' ⟨rfl, rfl⟩
        go_wp2_with fail
        refine (round_any _ _ _ (by omega)).mono ?_; rw [E2.out, ← Hc.out]; rintro e w' ⟨rfl, rfl⟩
        go_wp2_with fail
        refine (round_any _ _ _ (by omega)).mono ?_; rw [← Hf.out]; rintro e w' ⟨rfl, rfl⟩
        go_wp2_with fail
        refine (round_any _ _ _ (by omega)).mono ?_; rw [← Ht.out]; rintro e w' ⟨rfl, rfl⟩
        go_wp2_with fail
        refine (round_any _ _ _ (by omega)).mono ?_; rw [← Hp.out]; rintro e w' ⟨rfl, rfl⟩
        go_wp2
        exact bodyPost_ret (v := .agg #[.int .i64 (2 * (id : Int)), .int .i64 a3, .int .i64 1, .int .i64 s, .int .i64 (1 + c), .string ⟨#[]⟩, .bool (f == 0), .slice (some ⟨w.heap.size + 1 + 1 + 1, 0, none⟩) 2 2, .int .i64 t]) (by simp [results, Try.results56, go_sem]) rfl ⟨w.heap.size + 1 + 1 + 1, by rw [HB.out, HDD.out, HM2.out]; rfl, by omega, ⟨HCON.out _ _ (by rw [HM2.out]; refine rd_made ?_ _ _ 3 2 ?_ (by unfold maxLen; omega); (focus simp); rfl), by rw [HM2.out]; exact AtF.new_at (by simp) _ _⟩, (by repeat (first | (with_reducible exact Bel.refl _) | (with_reducible assumption) | (with_reducible refine Bel.drewN ?_ _) | (with_reducible refine Bel.drew ?_) | (with_reducible refine Bel.alloc ?_ _) | (with_reducible refine Bel.setNew ?_ ?_ _) | (with_reducible refine Bel.trans ?_ (by assumption)) | (focus (simp; done)) | (focus (simp; omega))))⟩
      · have hp1 : (p == 0) = false := by simpa using hp0
        have HT2 := Lib.hid (show two = false by rw [HT.out]; simp [hp0])
        have HM2 := Lib.hid (show ms = [⟨2 * (id : Int), 0, 1 + c⟩] by rw [HM.out, HT2.out]; rfl)
        clear hp0
        go_enter Try.func56, Try.ntmps56
        go_wp2_with fail
        refine (round_any _ _ _ (by omega)).mono ?_; rw [← H3.out]; rintro e w' ⟨rfl, rfl⟩
        go_wp2_with fail
        refine (round_any _ _ _ (by omega)).mono ?_; rw [E1.out, ← Hk.out]; rintro e w' ⟨rfl, rfl⟩
        go_wp2_with fail
        refine (round_any _ _ _ (by omega)).mono ?_; rw [← Hs.out]; rintro e w' ⟨rfl, rfl⟩
        go_wp2_with fail
        refine (round_any _ _ _ (by omega)).mono ?_; rw [E2.out, ← Hc.out]; rintro e w' ⟨rfl, rfl⟩
        go_wp2_with fail
        refine (round_any _ _ _ (by omega)).mono ?_; rw [← Hf.out]; rintro e w' ⟨rfl, rfl⟩
        go_wp2_with fail
        refine (round_any _ _ _ (by omega)).mono ?_; rw [← Ht.out]; rintro e w' ⟨rfl, rfl⟩
        go_wp2_with fail
        refine (round_any _ _ _ (by omega)).mono ?_; rw [← Hp.out]; rintro e w' ⟨rfl, rfl⟩
        go_wp2
        exact bodyPost_ret (v := .agg #[.int .i64 (2 * (id : Int)), .int .i64 a3, .int .i64 1, .int .i64 s, .int .i64 (1 + c), .string ⟨#[]⟩, .bool (f == 0), .slice (some ⟨w.heap.size + 1 + 1, 0, none⟩) 1 1, .int .i64 t]) (by simp [results, Try.results56, go_sem]) rfl ⟨w.heap.size + 1 + 1, by rw [HB.out, HDD.out, HM2.out]; rfl, by omega, ⟨HCON.out _ _ (by rw [HM2.out]; refine rd_made ?_ _ _ 3 1 ?_ (by unfold maxLen; omega); (focus simp); rfl), by rw [HM2.out]; exact AtF.new_at (by simp) _ _⟩, (by repeat (first | (with_reducible exact Bel.refl _) | (with_reducible assumption) | (with_reducible refine Bel.drewN ?_ _) | (with_reducible refine Bel.drew ?_) | (with_reducible refine Bel.alloc ?_ _) | (with_reducible refine Bel.setNew ?_ ?_ _) | (with_reducible refine Bel.trans ?_ (by assumption)) | (focus (simp; done)) | (focus (simp; omega))))⟩
    · obtain rfl : c = 0 := by omega
      have HT2 := Lib.hid (show two = false by rw [HT.out]; simp)
      have HM2 := Lib.hid (show ms = [⟨2 * (id : Int), 0, 1⟩] by rw [HM.out, HT2.out]; rfl)
      clear hc1
      go_enter Try.func56, Try.ntmps56
      go_wp2_with fail
      refine (round_any _ _ _ (by omega)).mono ?_; rw [← H3.out]; rintro e w' ⟨rfl, rfl⟩
      go_wp2_with fail
      refine (round_any _ _ _ (by omega)).mono ?_; rw [E1.out, ← Hk.out]; rintro e w' ⟨rfl, rfl⟩
      go_wp2_with fail
      refine (round_any _ _ _ (by omega)).mono ?_; rw [← Hs.out]; rintro e w' ⟨rfl, rfl⟩
      go_wp2_with fail
      refine (round_any _ _ _ (by omega)).mono ?_; rw [E2.out, ← Hc.out]; rintro e w' ⟨rfl, rfl⟩
      go_wp2_with fail
      refine (round_any _ _ _ (by omega)).mono ?_; rw [← Hf.out]; rintro e w' ⟨rfl, rfl⟩
      go_wp2_with fail
      refine (round_any _ _ _ (by omega)).mono ?_; rw [← Ht.out]; rintro e w' ⟨rfl, rfl⟩
      go_wp2
      exact bodyPost_ret (v := .agg #[.int .i64 (2 * (id : Int)), .int .i64 a3, .int .i64 1, .int .i64 s, .int .i64 1, .string ⟨#[]⟩, .bool (f == 0), .slice (some ⟨w.heap.size + 1 + 1, 0, none⟩) 1 1, .int .i64 t]) (by simp [results, Try.results56, go_sem]) rfl ⟨w.heap.size + 1 + 1, by rw [HB.out, HDD.out, HM2.out]; rfl, by omega, ⟨HCON.out _ _ (by rw [HM2.out]; refine rd_made ?_ _ _ 3 1 ?_ (by unfold maxLen; omega); (focus simp); rfl), by rw [HM2.out]; exact AtF.new_at (by simp) _ _⟩, (by repeat (first | (with_reducible exact Bel.refl _) | (with_reducible assumption) | (with_reducible refine Bel.drewN ?_ _) | (with_reducible refine Bel.drew ?_) | (with_reducible refine Bel.alloc ?_ _) | (with_reducible refine Bel.setNew ?_ ?_ _) | (with_reducible refine Bel.trans ?_ (by assumption)) | (focus (simp; done)) | (focus (simp; omega))))⟩
theorem bunch_any (n : Int) (id : Nat) (w : World) (hi : id ≤ 1000) :
    Calls Try.prog 56 #[.int .i64 n, .int .i64 (id : Int)] w fun e w' => ∃ A, e = .returned (.agg (bnB n id A).arr) ∧ w.heap.size ≤ A ∧ Mems w' (bnB n id A) (bnM n id) ∧ Bel w w' :=
  (bunchF_any n id w hi).mono fun _ _ ⟨A, h1, h2, h3, h4⟩ => ⟨A, h1, h2, h3.1, h4⟩
end Go.Proofs.Ytbijfmpmgmfpgaa
