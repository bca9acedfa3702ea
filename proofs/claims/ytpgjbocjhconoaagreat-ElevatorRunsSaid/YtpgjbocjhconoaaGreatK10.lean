/- Lemmas and walks that the statements share, part K10. -/
import Derived.Test.YtpgjbocjhconoaaGreatK1
import Derived.Laws.OwnMore
import Derived.Laws.IdiomStrings
import Derived.Test.YtpgjbocjhconoaaGreatK2
import Derived.Test.YtpgjbocjhconoaaGreatK3
import Derived.Test.YtpgjbocjhconoaaGreatK8
/- dock.Data: letters that a number chooses. -/
namespace Go.Proofs.YtpgjbocjhconoaaGreat
open Go.RowKit
set_option linter.unusedSimpArgs false

def dataN (n : Int) (i : Nat) : Int := rnd (wrap64 (wrap64 (n + (i : Int) / 4 * 7) + (i : Int) / 8 * 3)) 26
def dataL (n : Int) (m : Nat) : List UInt8 := (List.range m).map fun i => UInt8.ofNat (97 + (dataN n i).toNat)
def dataB (n : Int) (k : Nat) : ByteArray := ⟨(dataL n (k * 8)).toArray⟩
theorem dataN_bd (n : Int) (i : Nat) : 0 ≤ dataN n i ∧ dataN n i < 26 := ⟨rnd_lo _ _, rnd_hi _ _ (by omega)⟩
theorem dataL_len (n : Int) (m : Nat) : (dataL n m).length = m := by simp [dataL]
theorem dataB_size (n : Int) (k : Nat) : (dataB n k).size = k * 8 := by
  have : (dataB n k).size = (dataB n k).data.size := rfl
  rw [this]; simp [dataB, dataL_len]
theorem dataL_at {n : Int} {m j : Nat} (h : j < (dataL n m).length) : ((dataL n m)[j].toNat : Int) = 97 + dataN n j := by
  have hb := dataN_bd n j
  simp only [dataL, List.getElem_map, List.getElem_range]
  rw [UInt8.toNat_ofNat']
  omega
theorem Tryz.infoByte : (Tryz.prog.info? 5).map (fun i => (i.zero, i.size, i.bytes)) = some (some (.int .u8 0), 1, 1) := by kernel_rfl

set_option maxHeartbeats 4000000 in
theorem data_any (n : Int) (k : Nat) (w : World) (hk : k ≤ 1000) (hk0 : 0 < k) :
    Calls Tryz.prog 58 #[.int .i64 n, .int .i64 (k : Int)] w fun e w' => e = .returned (.string (dataB n k)) ∧ Bel w w' := by
  obtain ⟨i0, hi0, hz0, hz1, hz2⟩ := info_parts Tryz.infoByte
  obtain ⟨N, hN⟩ : ∃ N, N = k * 8 := ⟨_, rfl⟩
  obtain ⟨wm, hmk, hown, hgr⟩ := run_makeSlice_full (P := Tryz.prog) (w := w) w.heap.size 121 5 i0 (.int .u8 0) 1 Tryz.underlying121 hi0 hz0 hz1 .i64 .i64 N (by omega) (by rw [hz2]; omega) (by unfold maxLen; omega) (Nat.le_refl _)
  have hbm : Bel w wm := Below.grown (Below.refl _ w) hgr (Nat.le_refl _) (fun _ h => by cases h)
  have hm9 : (if (0 : Int) < (k : Int) then (k : Int) else 0) = (k : Int) := by split <;> omega
  have hN2 : (k : Int) * 8 = (N : Int) := by omega
  obtain ⟨R, HR⟩ : ∃ R, Hid (R = dataB n k) := ⟨_, rfl⟩
  rw [← HR.out]
  have HN := Lib.hid hN
  have HN2 : N ≤ 8000 := by omega
  clear hN
  go_enter Tryz.func58, Tryz.ntmps58
  go_wp2
  have hxs : Hid (∀ j, j < 0 → (madeCells (Value.int IntKind.u8 0).cells (N * 1)).toList[j]? = some (.int .u8 (97 + dataN n j))) := fun j hj => absurd hj (by omega)
  generalize (madeCells (Value.int IntKind.u8 0).cells (N * 1)).toList = xs0 at *
  clear hmk hm9 hN2 hgr
  go_loopw [6] (fun iv wr => ∃ (i : Nat) (xs : List Value), iv = .int .i64 i ∧ i ≤ N ∧ Hid (∀ j, j < i → xs[j]? = some (.int .u8 (97 + dataN n j))) ∧ wr.ownsRow w.heap.size 5 1 (.slice (some ⟨w.heap.size, 0, none⟩) N N) N xs ∧ Bel w wr) (fun iv _ => N - (intOf iv).toNat)
  case atStart => exact ⟨0, xs0, rfl, by omega, hxs, hown, hbm⟩
  case round =>
    obtain ⟨i, xs, rfl, p1, HX, hown, hbr⟩ := hrel
    clear hxs hbm
    by_cases hlt : i < N
    · have i1 : (i : Int) < (N : Int) := by omega
      have hlen := hown.1
      obtain ⟨u, hu⟩ : ∃ u, xs[i]? = some u := ⟨xs[i]'(by omega), List.getElem?_eq_getElem _⟩
      have c0 := (hown.cellAt i (by omega)).trans hu
      have cf := hown.frozenAt i
      obtain ⟨D, HD⟩ : ∃ D, Hid (D = dataN n i) := ⟨_, rfl⟩
      have hD := dataN_bd n i
      rw [← HD.out] at hD
      obtain ⟨hD1, hD2⟩ := hD
      have hst := hown.stored i (.int .u8 (97 + D))
      have HS := Lib.hid hst
      have HX2 : Hid (∀ j, j < i + 1 → (xs.set i (.int .u8 (97 + D)))[j]? = some (.int .u8 (97 + dataN n j))) := by
        intro j hj
        by_cases e : j = i
        · subst e; rw [List.getElem?_set_self (by omega), HD.out]
        · rw [List.getElem?_set_ne (Ne.symm e)]; exact HX.out j (by omega)
      have HU := Lib.hid hu
      have hwl := (hown.lt w.heap.size rfl).2
      clear hst hu hlen
      go_wp2_with fail
      refine (round_any _ 26 _ (by omega)).mono ?_; rw [show rnd (wrap64 (wrap64 (n + (i : Int) / 4 * 7) + (i : Int) / 8 * 3)) 26 = D from HD.out.symm]; rintro e w1 ⟨rfl, rfl⟩
      go_wp2
      go_roundw
      case rel => exact ⟨i + 1, xs.set i (.int .u8 (97 + D)), by go_num, by omega, HX2, HS.out.1, hbr.setNew (Nat.le_refl _) _⟩
      case measure => simp [intOf]; omega
    · obtain rfl : i = N := by omega
      have i1 : decide ((i : Int) < (i : Int)) = false := by simp
      have hcv := run_convert_bytes_back (P := Tryz.prog) wr 121 9 5 ⟨w.heap.size, 0, none⟩ i (dataL n i) Tryz.underlying121 Tryz.underlying5 Tryz.underlying9 (fun j hj => by
        rw [add_zero_off]
        have hj2 : j < i := by rw [dataL_len] at hj; exact hj
        rw [dataL_at hj]
        exact (hown.cellAt j (by omega)).trans (HX.out j hj2))
      rw [dataL_len] at hcv
      have HF : Hid (R = ⟨(dataL n i).toArray⟩) := by show _ = _; rw [HR.out, dataB, HN.out]
      generalize (dataL n i) = dl at *
      go_wp2
      go_ret
      exact ⟨by rw [HF.out]; rfl, bI⟩
end Go.Proofs.YtpgjbocjhconoaaGreat

/- dock.Bunch: a valid bunch that a number chooses. -/
namespace Go.Proofs.YtpgjbocjhconoaaGreat
open Go.RowKit
set_option linter.unusedSimpArgs false

def bnC (n : Int) : Int := rnd (n / 256) 3
def bnK (n : Int) : Int := rnd (n / 4) 2
def bnTwo (n : Int) : Bool := decide (1 ≤ bnC n ∧ rnd (n / 262144) 3 = 0)
def bnM (n : Int) (id : Nat) : List Mem := if bnTwo n then [⟨2 * (id : Int), 0, 1⟩, ⟨2 * (id : Int) + 1, 1, 1 + bnC n - 1⟩] else [⟨2 * (id : Int), 0, 1 + bnC n⟩]
def bnD (n : Int) : ByteArray := if bnK n = 1 then dataB (n / 1048576) (bnC n + 1).toNat else ⟨#[]⟩
/-- The bunch, its members in block A. -/
def bnB (n : Int) (id : Nat) (A : Nat) : Bun := ⟨2 * (id : Int), rnd n 3, 1 + bnK n, rnd (n / 16) 14, 1 + bnC n, bnD n, rnd (n / 1024) 8 == 0, some ⟨A, 0, none⟩, (bnM n id).length, (bnM n id).length, rnd (n / 8192) 30⟩
theorem bnC_bd (n : Int) : 0 ≤ bnC n ∧ bnC n < 3 := ⟨rnd_lo _ _, rnd_hi _ _ (by omega)⟩
theorem bnK_bd (n : Int) : 0 ≤ bnK n ∧ bnK n < 2 := ⟨rnd_lo _ _, rnd_hi _ _ (by omega)⟩
theorem bnM_ids (n : Int) (id : Nat) (hi : id ≤ 1000) : ∀ m ∈ bnM n id, IsInt m.id := by
  intro m hm
  unfold bnM at hm
  unfold IsInt
  split at hm
  · simp at hm
    rcases hm with rfl | rfl <;> simp <;> omega
  · simp at hm
    subst hm
    simp; omega
theorem bnD_size (n : Int) : (bnD n).size ≤ maxLen := by
  have hc := bnC_bd n
  unfold bnD maxLen
  split
  · rw [dataB_size]; omega
  · show (0 : Nat) ≤ _; omega
theorem bn_mems {n : Int} {id : Nat} {A : Nat} {w : World} (hi : id ≤ 1000) (h : Rd w (.slice (some ⟨A, 0, none⟩) (bnM n id).length (bnM n id).length) 3 (bnM n id).length (mcells (bnM n id))) : Mems w (bnB n id A) (bnM n id) :=
  ⟨rfl, h, bnM_ids n id hi, bnD_size n⟩

theorem rd_made {W : World} {g : Nat} (hg : g = W.heap.size) (t : TypeId) (cs : List Value) (size n : Nat) (h : cs.length = n * size) (hm : n ≤ maxLen) : Rd (W.alloc (.cells cs.toArray t)) (.slice (some ⟨g, 0, none⟩) n n) size n cs := by
  subst hg; exact Rd.new _ _ _ _ _ h hm

set_option maxRecDepth 100000 in
set_option maxHeartbeats 8000000 in
theorem bunchF_any (n : Int) (id : Nat) (w : World) (hi : id ≤ 1000) :
    Calls Tryz.prog 18 #[.int .i64 n, .int .i64 (id : Int)] w fun e w' => ∃ A, e = .returned (.agg (bnB n id A).arr) ∧ w.heap.size ≤ A ∧ (Mems w' (bnB n id A) (bnM n id) ∧ AtF w' A (mcells (bnM n id))) ∧ Bel w w' := by
  have hc := bnC_bd n
  have hk := bnK_bd n
  have HCON := Lib.hid (fun A w' => bn_mems (n := n) (A := A) (w := w') hi)
  have HDT := Lib.hid (fun w' => data_any (n / 1048576) (bnC n + 1).toNat w' (by omega) (by omega))
  have hC1 : (((bnC n + 1).toNat : Nat) : Int) = 1 + bnC n := by omega
  rw [hC1] at HDT
  have HB := Lib.hid (fun A => show bnB n id A = ⟨2 * (id : Int), rnd n 3, 1 + bnK n, rnd (n / 16) 14, 1 + bnC n, bnD n, rnd (n / 1024) 8 == 0, some ⟨A, 0, none⟩, (bnM n id).length, (bnM n id).length, rnd (n / 8192) 30⟩ from rfl)
  have HD := Lib.hid (show bnD n = if bnK n = 1 then dataB (n / 1048576) (bnC n + 1).toNat else ⟨#[]⟩ from rfl)
  have HM := Lib.hid (show bnM n id = if bnTwo n then [⟨2 * (id : Int), 0, 1⟩, ⟨2 * (id : Int) + 1, 1, 1 + bnC n - 1⟩] else [⟨2 * (id : Int), 0, 1 + bnC n⟩] from rfl)
  have HT := Lib.hid (show bnTwo n = decide (1 ≤ bnC n ∧ rnd (n / 262144) 3 = 0) from rfl)
  generalize bnM n id = ms at *
  generalize bnD n = dd at *
  generalize bnTwo n = two at *
  generalize dataB (n / 1048576) (bnC n + 1).toNat = db at *
  obtain ⟨c, Hc⟩ : ∃ c, Hid (c = bnC n) := ⟨_, rfl⟩
  obtain ⟨k, Hk⟩ : ∃ k, Hid (k = bnK n) := ⟨_, rfl⟩
  obtain ⟨a3, H3⟩ : ∃ a, Hid (a = rnd n 3) := ⟨_, rfl⟩
  obtain ⟨s, Hs⟩ : ∃ a, Hid (a = rnd (n / 16) 14) := ⟨_, rfl⟩
  obtain ⟨f, Hf⟩ : ∃ a, Hid (a = rnd (n / 1024) 8) := ⟨_, rfl⟩
  obtain ⟨t, Ht⟩ : ∃ a, Hid (a = rnd (n / 8192) 30) := ⟨_, rfl⟩
  obtain ⟨p, Hp⟩ : ∃ a, Hid (a = rnd (n / 262144) 3) := ⟨_, rfl⟩
  rw [← Hc.out] at hc HDT HB HM HT
  rw [← Hk.out] at hk HB HD
  rw [← H3.out, ← Hs.out, ← Hf.out, ← Ht.out] at HB
  rw [← Hp.out] at HT
  obtain ⟨c0, c3⟩ := hc
  obtain ⟨k0, k2⟩ := hk
  have e1 : rnd (n / 4) 2 = bnK n := rfl
  have e2 : rnd (n / 256) 3 = bnC n := rfl
  have E1 := Lib.hid e1
  have E2 := Lib.hid e2
  clear hC1 e1 e2
  by_cases hk1 : k = 1
  · subst hk1
    have HDD := Lib.hid (show dd = db from HD.out)
    by_cases hc1 : 1 ≤ c
    · by_cases hp0 : p = 0
      · subst hp0
        have HT2 := Lib.hid (show two = true by rw [HT.out]; simp [hc1])
        have HM2 := Lib.hid (show ms = [⟨2 * (id : Int), 0, 1⟩, ⟨2 * (id : Int) + 1, 1, 1 + c - 1⟩] by rw [HM.out, HT2.out]; rfl)
        go_enter Tryz.func18, Tryz.ntmps18
        go_wp2_with fail
        refine (round_any _ _ _ (by omega)).mono ?_; rw [← H3.out]; rintro e w' ⟨rfl, rfl⟩
        go_wp2_with fail
        refine (round_any _ _ _ (by omega)).mono ?_; rw [E1.out, ← Hk.out]; rintro e w' ⟨rfl, rfl⟩
        go_wp2_with fail
        refine (round_any _ _ _ (by omega)).mono ?_; rw [← Hs.out]; rintro e w' ⟨rfl, rfl⟩
        go_wp2_with fail
        refine (round_any _ _ _ (by omega)).mono ?_; rw [E2.out, ← Hc.out]; rintro e w' ⟨rfl, rfl⟩
        go_wp2_with fail
        refine (round_any _ _ _ (by omega)).mono ?_; rw [← Hf.out]; rintro e w' ⟨rfl, rfl⟩
        go_wp2_with fail
        refine (round_any _ _ _ (by omega)).mono ?_; rw [← Ht.out]; rintro e w' ⟨rfl, rfl⟩
        go_wp2_with fail
        refine (round_any _ _ _ (by omega)).mono ?_; rw [← Hp.out]; rintro e w' ⟨rfl, rfl⟩
        go_wp2_with fail
        refine (HDT.out _).mono ?_; rintro e w5 ⟨rfl, hb5⟩
        have hX : AtF w5 (w.heap.size + 1) [.int .i64 (2 * (id : Int)), .int .i64 a3, .int .i64 2, .int .i64 s, .int .i64 (1 + c), .string ⟨#[]⟩, .bool (f == 0), .slice (some ⟨w.heap.size + 1 + 1 + 1, 0, none⟩) 2 2, .int .i64 t] := by
          refine AtF.bel ?_ hb5
          first | exact (AtF.new_at (by simp) _ _).alloc _ | exact ((AtF.new_at (by simp) _ _).alloc _).alloc _
        have hR : AtF w5 w.heap.size [.int .i64 0, .int .i64 0, .int .i64 0, .int .i64 0, .int .i64 0, .string ⟨#[]⟩, .bool false, .slice none 0 0, .int .i64 0] := by
          refine AtF.bel ?_ hb5
          first | exact ((AtF.new_at rfl _ _).alloc _).alloc _ | exact (((AtF.new_at rfl _ _).alloc _).alloc _).alloc _
        have hM : Rd w5 (.slice (some ⟨w.heap.size + 1 + 1 + 1, 0, none⟩) 2 2) 3 2 (mcells ms) := by
          rw [HM2.out]
          refine Rd.bel ?_ hb5
          refine rd_made ?_ _ _ 3 2 ?_ (by unfold maxLen; omega)
          · simp
          · rfl
        have hMF : AtF w5 (w.heap.size + 1 + 1 + 1) (mcells ms) := by
          rw [HM2.out]
          refine AtF.bel ?_ hb5
          exact AtF.new_at (by simp) _ _
        have hbw : Bel w w5 := bI
        clear hb5
        have q0 := (hX).1.2 0 _ rfl
        have q1 := (hX).1.2 1 _ rfl
        have q2 := (hX).1.2 2 _ rfl
        have q3 := (hX).1.2 3 _ rfl
        have q4 := (hX).1.2 4 _ rfl
        have q5 := (hX).1.2 5 _ rfl
        have q6 := (hX).1.2 6 _ rfl
        have q7 := (hX).1.2 7 _ rfl
        have q8 := (hX).1.2 8 _ rfl
        have r0 := (hR).1.2 0 _ rfl
        have r1 := (hR).1.2 1 _ rfl
        have r2 := (hR).1.2 2 _ rfl
        have r3 := (hR).1.2 3 _ rfl
        have r4 := (hR).1.2 4 _ rfl
        have r5 := (hR).1.2 5 _ rfl
        have r6 := (hR).1.2 6 _ rfl
        have r7 := (hR).1.2 7 _ rfl
        have r8 := (hR).1.2 8 _ rfl
        have qf := hX.2
        have ql := hX.1.1
        have rf := hR.2
        have rl := hR.1.1
        have hX2 := hX.set 5 (by simp) (.string db)
        have hM2 := hM.far (p := ⟨w.heap.size + 1, 5, none⟩) (by simp [Value.ownBlock]; try omega) (.string db)
        have hR2 := hR.other (C := w.heap.size + 1) (by omega) 5 (.string db)
        have hMF2 := hMF.other (C := w.heap.size + 1) (by omega) 5 (.string db)
        have hMF3 := AtF.setRow_other (B := w.heap.size) (i := 0) [.int .i64 (2 * (id : Int)), .int .i64 a3, .int .i64 2, .int .i64 s, .int .i64 (1 + c), .string db, .bool (f == 0), .slice (some ⟨w.heap.size + 1 + 1 + 1, 0, none⟩) 2 2, .int .i64 t] hMF2 (by omega)
        go_wp2
        have hR3 := hR2.setRow [.int .i64 (2 * (id : Int)), .int .i64 a3, .int .i64 2, .int .i64 s, .int .i64 (1 + c), .string db, .bool (f == 0), .slice (some ⟨w.heap.size + 1 + 1 + 1, 0, none⟩) 2 2, .int .i64 t] rfl
        have hM3 := Rd.setRow (B := w.heap.size) (i := 0) [.int .i64 (2 * (id : Int)), .int .i64 a3, .int .i64 2, .int .i64 s, .int .i64 (1 + c), .string db, .bool (f == 0), .slice (some ⟨w.heap.size + 1 + 1 + 1, 0, none⟩) 2 2, .int .i64 t] hM2 (by simp [Value.ownBlock]; try omega)
        clear q0 q1 q2 q3 q4 q5 q6 q7 q8 r0 r1 r2 r3 r4 r5 r6 r7 r8
        have r0 := (hR3).1.2 0 _ rfl
        have r1 := (hR3).1.2 1 _ rfl
        have r2 := (hR3).1.2 2 _ rfl
        have r3 := (hR3).1.2 3 _ rfl
        have r4 := (hR3).1.2 4 _ rfl
        have r5 := (hR3).1.2 5 _ rfl
        have r6 := (hR3).1.2 6 _ rfl
        have r7 := (hR3).1.2 7 _ rfl
        have r8 := (hR3).1.2 8 _ rfl
        exact bodyPost_ret (v := .agg #[.int .i64 (2 * (id : Int)), .int .i64 a3, .int .i64 2, .int .i64 s, .int .i64 (1 + c), .string db, .bool (f == 0), .slice (some ⟨w.heap.size + 1 + 1 + 1, 0, none⟩) 2 2, .int .i64 t]) (by simp only [setRow] at r0 r1 r2 r3 r4 r5 r6 r7 r8; simp [results, Tryz.results18, go_sem, r0, r1, r2, r3, r4, r5, r6, r7, r8]) rfl ⟨w.heap.size + 1 + 1 + 1, by rw [HB.out, HDD.out, HM2.out]; rfl, by omega, ⟨HCON.out _ _ (by rw [show ms.length = 2 by rw [HM2.out]; rfl]; exact hM3), hMF3⟩, Bel.setRow (B := w.heap.size) (i := 0) [.int .i64 (2 * (id : Int)), .int .i64 a3, .int .i64 2, .int .i64 s, .int .i64 (1 + c), .string db, .bool (f == 0), .slice (some ⟨w.heap.size + 1 + 1 + 1, 0, none⟩) 2 2, .int .i64 t] (hbw.setNew (by simp) _) (Nat.le_refl _)⟩
      · have hp1 : (p == 0) = false := by simpa using hp0
        have HT2 := Lib.hid (show two = false by rw [HT.out]; simp [hp0])
        have HM2 := Lib.hid (show ms = [⟨2 * (id : Int), 0, 1 + c⟩] by rw [HM.out, HT2.out]; rfl)
        clear hp0
        go_enter Tryz.func18, Tryz.ntmps18
        go_wp2_with fail
        refine (round_any _ _ _ (by omega)).mono ?_; rw [← H3.out]; rintro e w' ⟨rfl, rfl⟩
        go_wp2_with fail
        refine (round_any _ _ _ (by omega)).mono ?_; rw [E1.out, ← Hk.out]; rintro e w' ⟨rfl, rfl⟩
        go_wp2_with fail
        refine (round_any _ _ _ (by omega)).mono ?_; rw [← Hs.out]; rintro e w' ⟨rfl, rfl⟩
        go_wp2_with fail
        refine (round_any _ _ _ (by omega)).mono ?_; rw [E2.out, ← Hc.out]; rintro e w' ⟨rfl, rfl⟩
        go_wp2_with fail
        refine (round_any _ _ _ (by omega)).mono ?_; rw [← Hf.out]; rintro e w' ⟨rfl, rfl⟩
        go_wp2_with fail
        refine (round_any _ _ _ (by omega)).mono ?_; rw [← Ht.out]; rintro e w' ⟨rfl, rfl⟩
        go_wp2_with fail
        refine (round_any _ _ _ (by omega)).mono ?_; rw [← Hp.out]; rintro e w' ⟨rfl, rfl⟩
        go_wp2_with fail
        refine (HDT.out _).mono ?_; rintro e w5 ⟨rfl, hb5⟩
        have hX : AtF w5 (w.heap.size + 1) [.int .i64 (2 * (id : Int)), .int .i64 a3, .int .i64 2, .int .i64 s, .int .i64 (1 + c), .string ⟨#[]⟩, .bool (f == 0), .slice (some ⟨w.heap.size + 1 + 1, 0, none⟩) 1 1, .int .i64 t] := by
          refine AtF.bel ?_ hb5
          first | exact (AtF.new_at (by simp) _ _).alloc _ | exact ((AtF.new_at (by simp) _ _).alloc _).alloc _
        have hR : AtF w5 w.heap.size [.int .i64 0, .int .i64 0, .int .i64 0, .int .i64 0, .int .i64 0, .string ⟨#[]⟩, .bool false, .slice none 0 0, .int .i64 0] := by
          refine AtF.bel ?_ hb5
          first | exact ((AtF.new_at rfl _ _).alloc _).alloc _ | exact (((AtF.new_at rfl _ _).alloc _).alloc _).alloc _
        have hM : Rd w5 (.slice (some ⟨w.heap.size + 1 + 1, 0, none⟩) 1 1) 3 1 (mcells ms) := by
          rw [HM2.out]
          refine Rd.bel ?_ hb5
          refine rd_made ?_ _ _ 3 1 ?_ (by unfold maxLen; omega)
          · simp
          · rfl
        have hMF : AtF w5 (w.heap.size + 1 + 1) (mcells ms) := by
          rw [HM2.out]
          refine AtF.bel ?_ hb5
          exact AtF.new_at (by simp) _ _
        have hbw : Bel w w5 := bI
        clear hb5
        have q0 := (hX).1.2 0 _ rfl
        have q1 := (hX).1.2 1 _ rfl
        have q2 := (hX).1.2 2 _ rfl
        have q3 := (hX).1.2 3 _ rfl
        have q4 := (hX).1.2 4 _ rfl
        have q5 := (hX).1.2 5 _ rfl
        have q6 := (hX).1.2 6 _ rfl
        have q7 := (hX).1.2 7 _ rfl
        have q8 := (hX).1.2 8 _ rfl
        have r0 := (hR).1.2 0 _ rfl
        have r1 := (hR).1.2 1 _ rfl
        have r2 := (hR).1.2 2 _ rfl
        have r3 := (hR).1.2 3 _ rfl
        have r4 := (hR).1.2 4 _ rfl
        have r5 := (hR).1.2 5 _ rfl
        have r6 := (hR).1.2 6 _ rfl
        have r7 := (hR).1.2 7 _ rfl
        have r8 := (hR).1.2 8 _ rfl
        have qf := hX.2
        have ql := hX.1.1
        have rf := hR.2
        have rl := hR.1.1
        have hX2 := hX.set 5 (by simp) (.string db)
        have hM2 := hM.far (p := ⟨w.heap.size + 1, 5, none⟩) (by simp [Value.ownBlock]; try omega) (.string db)
        have hR2 := hR.other (C := w.heap.size + 1) (by omega) 5 (.string db)
        have hMF2 := hMF.other (C := w.heap.size + 1) (by omega) 5 (.string db)
        have hMF3 := AtF.setRow_other (B := w.heap.size) (i := 0) [.int .i64 (2 * (id : Int)), .int .i64 a3, .int .i64 2, .int .i64 s, .int .i64 (1 + c), .string db, .bool (f == 0), .slice (some ⟨w.heap.size + 1 + 1, 0, none⟩) 1 1, .int .i64 t] hMF2 (by omega)
        go_wp2
        have hR3 := hR2.setRow [.int .i64 (2 * (id : Int)), .int .i64 a3, .int .i64 2, .int .i64 s, .int .i64 (1 + c), .string db, .bool (f == 0), .slice (some ⟨w.heap.size + 1 + 1, 0, none⟩) 1 1, .int .i64 t] rfl
        have hM3 := Rd.setRow (B := w.heap.size) (i := 0) [.int .i64 (2 * (id : Int)), .int .i64 a3, .int .i64 2, .int .i64 s, .int .i64 (1 + c), .string db, .bool (f == 0), .slice (some ⟨w.heap.size + 1 + 1, 0, none⟩) 1 1, .int .i64 t] hM2 (by simp [Value.ownBlock]; try omega)
        clear q0 q1 q2 q3 q4 q5 q6 q7 q8 r0 r1 r2 r3 r4 r5 r6 r7 r8
        have r0 := (hR3).1.2 0 _ rfl
        have r1 := (hR3).1.2 1 _ rfl
        have r2 := (hR3).1.2 2 _ rfl
        have r3 := (hR3).1.2 3 _ rfl
        have r4 := (hR3).1.2 4 _ rfl
        have r5 := (hR3).1.2 5 _ rfl
        have r6 := (hR3).1.2 6 _ rfl
        have r7 := (hR3).1.2 7 _ rfl
        have r8 := (hR3).1.2 8 _ rfl
        exact bodyPost_ret (v := .agg #[.int .i64 (2 * (id : Int)), .int .i64 a3, .int .i64 2, .int .i64 s, .int .i64 (1 + c), .string db, .bool (f == 0), .slice (some ⟨w.heap.size + 1 + 1, 0, none⟩) 1 1, .int .i64 t]) (by simp only [setRow] at r0 r1 r2 r3 r4 r5 r6 r7 r8; simp [results, Tryz.results18, go_sem, r0, r1, r2, r3, r4, r5, r6, r7, r8]) rfl ⟨w.heap.size + 1 + 1, by rw [HB.out, HDD.out, HM2.out]; rfl, by omega, ⟨HCON.out _ _ (by rw [show ms.length = 1 by rw [HM2.out]; rfl]; exact hM3), hMF3⟩, Bel.setRow (B := w.heap.size) (i := 0) [.int .i64 (2 * (id : Int)), .int .i64 a3, .int .i64 2, .int .i64 s, .int .i64 (1 + c), .string db, .bool (f == 0), .slice (some ⟨w.heap.size + 1 + 1, 0, none⟩) 1 1, .int .i64 t] (hbw.setNew (by simp) _) (Nat.le_refl _)⟩
    · obtain rfl : c = 0 := by omega
      have HT2 := Lib.hid (show two = false by rw [HT.out]; simp)
      have HM2 := Lib.hid (show ms = [⟨2 * (id : Int), 0, 1⟩] by rw [HM.out, HT2.out]; rfl)
      clear hc1
      go_enter Tryz.func18, Tryz.ntmps18
      go_wp2_with fail
      refine (round_any _ _ _ (by omega)).mono ?_; rw [← H3.out]; rintro e w' ⟨rfl, rfl⟩
      go_wp2_with fail
      refine (round_any _ _ _ (by omega)).mono ?_; rw [E1.out, ← Hk.out]; rintro e w' ⟨rfl, rfl⟩
      go_wp2_with fail
      refine (round_any _ _ _ (by omega)).mono ?_; rw [← Hs.out]; rintro e w' ⟨rfl, rfl⟩
      go_wp2_with fail
      refine (round_any _ _ _ (by omega)).mono ?_; rw [E2.out, ← Hc.out]; rintro e w' ⟨rfl, rfl⟩
      go_wp2_with fail
      refine (round_any _ _ _ (by omega)).mono ?_; rw [← Hf.out]; rintro e w' ⟨rfl, rfl⟩
      go_wp2_with fail
      refine (round_any _ _ _ (by omega)).mono ?_; rw [← Ht.out]; rintro e w' ⟨rfl, rfl⟩
      go_wp2_with fail
      refine (HDT.out _).mono ?_; rintro e w5 ⟨rfl, hb5⟩
      have hX : AtF w5 (w.heap.size + 1) [.int .i64 (2 * (id : Int)), .int .i64 a3, .int .i64 2, .int .i64 s, .int .i64 1, .string ⟨#[]⟩, .bool (f == 0), .slice (some ⟨w.heap.size + 1 + 1, 0, none⟩) 1 1, .int .i64 t] := by
        refine AtF.bel ?_ hb5
        first | exact (AtF.new_at (by simp) _ _).alloc _ | exact ((AtF.new_at (by simp) _ _).alloc _).alloc _
      have hR : AtF w5 w.heap.size [.int .i64 0, .int .i64 0, .int .i64 0, .int .i64 0, .int .i64 0, .string ⟨#[]⟩, .bool false, .slice none 0 0, .int .i64 0] := by
        refine AtF.bel ?_ hb5
        first | exact ((AtF.new_at rfl _ _).alloc _).alloc _ | exact (((AtF.new_at rfl _ _).alloc _).alloc _).alloc _
      have hM : Rd w5 (.slice (some ⟨w.heap.size + 1 + 1, 0, none⟩) 1 1) 3 1 (mcells ms) := by
        rw [HM2.out]
        refine Rd.bel ?_ hb5
        refine rd_made ?_ _ _ 3 1 ?_ (by unfold maxLen; omega)
        · simp
        · rfl
      have hMF : AtF w5 (w.heap.size + 1 + 1) (mcells ms) := by
        rw [HM2.out]
        refine AtF.bel ?_ hb5
        exact AtF.new_at (by simp) _ _
      have hbw : Bel w w5 := bI
      clear hb5
      have q0 := (hX).1.2 0 _ rfl
      have q1 := (hX).1.2 1 _ rfl
      have q2 := (hX).1.2 2 _ rfl
      have q3 := (hX).1.2 3 _ rfl
      have q4 := (hX).1.2 4 _ rfl
      have q5 := (hX).1.2 5 _ rfl
      have q6 := (hX).1.2 6 _ rfl
      have q7 := (hX).1.2 7 _ rfl
      have q8 := (hX).1.2 8 _ rfl
      have r0 := (hR).1.2 0 _ rfl
      have r1 := (hR).1.2 1 _ rfl
      have r2 := (hR).1.2 2 _ rfl
      have r3 := (hR).1.2 3 _ rfl
      have r4 := (hR).1.2 4 _ rfl
      have r5 := (hR).1.2 5 _ rfl
      have r6 := (hR).1.2 6 _ rfl
      have r7 := (hR).1.2 7 _ rfl
      have r8 := (hR).1.2 8 _ rfl
      have qf := hX.2
      have ql := hX.1.1
      have rf := hR.2
      have rl := hR.1.1
      have hX2 := hX.set 5 (by simp) (.string db)
      have hM2 := hM.far (p := ⟨w.heap.size + 1, 5, none⟩) (by simp [Value.ownBlock]; try omega) (.string db)
      have hR2 := hR.other (C := w.heap.size + 1) (by omega) 5 (.string db)
      have hMF2 := hMF.other (C := w.heap.size + 1) (by omega) 5 (.string db)
      have hMF3 := AtF.setRow_other (B := w.heap.size) (i := 0) [.int .i64 (2 * (id : Int)), .int .i64 a3, .int .i64 2, .int .i64 s, .int .i64 1, .string db, .bool (f == 0), .slice (some ⟨w.heap.size + 1 + 1, 0, none⟩) 1 1, .int .i64 t] hMF2 (by omega)
      go_wp2
      have hR3 := hR2.setRow [.int .i64 (2 * (id : Int)), .int .i64 a3, .int .i64 2, .int .i64 s, .int .i64 1, .string db, .bool (f == 0), .slice (some ⟨w.heap.size + 1 + 1, 0, none⟩) 1 1, .int .i64 t] rfl
      have hM3 := Rd.setRow (B := w.heap.size) (i := 0) [.int .i64 (2 * (id : Int)), .int .i64 a3, .int .i64 2, .int .i64 s, .int .i64 1, .string db, .bool (f == 0), .slice (some ⟨w.heap.size + 1 + 1, 0, none⟩) 1 1, .int .i64 t] hM2 (by simp [Value.ownBlock]; try omega)
      clear q0 q1 q2 q3 q4 q5 q6 q7 q8 r0 r1 r2 r3 r4 r5 r6 r7 r8
      have r0 := (hR3).1.2 0 _ rfl
      have r1 := (hR3).1.2 1 _ rfl
      have r2 := (hR3).1.2 2 _ rfl
      have r3 := (hR3).1.2 3 _ rfl
      have r4 := (hR3).1.2 4 _ rfl
      have r5 := (hR3).1.2 5 _ rfl
      have r6 := (hR3).1.2 6 _ rfl
      have r7 := (hR3).1.2 7 _ rfl
      have r8 := (hR3).1.2 8 _ rfl
      exact bodyPost_ret (v := .agg #[.int .i64 (2 * (id : Int)), .int .i64 a3, .int .i64 2, .int .i64 s, .int .i64 1, .string db, .bool (f == 0), .slice (some ⟨w.heap.size + 1 + 1, 0, none⟩) 1 1, .int .i64 t]) (by simp only [setRow] at r0 r1 r2 r3 r4 r5 r6 r7 r8; simp [results, Tryz.results18, go_sem, r0, r1, r2, r3, r4, r5, r6, r7, r8]) rfl ⟨w.heap.size + 1 + 1, by rw [HB.out, HDD.out, HM2.out]; rfl, by omega, ⟨HCON.out _ _ (by rw [show ms.length = 1 by rw [HM2.out]; rfl]; exact hM3), hMF3⟩, Bel.setRow (B := w.heap.size) (i := 0) [.int .i64 (2 * (id : Int)), .int .i64 a3, .int .i64 2, .int .i64 s, .int .i64 1, .string db, .bool (f == 0), .slice (some ⟨w.heap.size + 1 + 1, 0, none⟩) 1 1, .int .i64 t] (hbw.setNew (by simp) _) (Nat.le_refl _)⟩
  · obtain rfl : k = 0 := by omega
    have HDD := Lib.hid (show dd = ⟨#[]⟩ from HD.out)
    by_cases hc1 : 1 ≤ c
    · by_cases hp0 : p = 0
      · subst hp0
        have HT2 := Lib.hid (show two = true by rw [HT.out]; simp [hc1])
        have HM2 := Lib.hid (show ms = [⟨2 * (id : Int), 0, 1⟩, ⟨2 * (id : Int) + 1, 1, 1 + c - 1⟩] by rw [HM.out, HT2.out]; rfl)
        go_enter Tryz.func18, Tryz.ntmps18
        go_wp2_with fail
        refine (round_any _ _ _ (by omega)).mono ?_; rw [← H3.out]; rintro e w' ⟨rfl, rfl⟩
        go_wp2_with fail
        refine (round_any _ _ _ (by omega)).mono ?_; rw [E1.out, ← Hk.out]; rintro e w' ⟨rfl, rfl⟩
        go_wp2_with fail
        refine (round_any _ _ _ (by omega)).mono ?_; rw [← Hs.out]; rintro e w' ⟨rfl, rfl⟩
        go_wp2_with fail
        refine (round_any _ _ _ (by omega)).mono ?_; rw [E2.out, ← Hc.out]; rintro e w' ⟨rfl, rfl⟩
        go_wp2_with fail
        refine (round_any _ _ _ (by omega)).mono ?_; rw [← Hf.out]; rintro e w' ⟨rfl, rfl⟩
        go_wp2_with fail
        refine (round_any _ _ _ (by omega)).mono ?_; rw [← Ht.out]; rintro e w' ⟨rfl, rfl⟩
        go_wp2_with fail
        refine (round_any _ _ _ (by omega)).mono ?_; rw [← Hp.out]; rintro e w' ⟨rfl, rfl⟩
        go_wp2
        exact bodyPost_ret (v := .agg #[.int .i64 (2 * (id : Int)), .int .i64 a3, .int .i64 1, .int .i64 s, .int .i64 (1 + c), .string ⟨#[]⟩, .bool (f == 0), .slice (some ⟨w.heap.size + 1 + 1 + 1, 0, none⟩) 2 2, .int .i64 t]) (by simp [results, Tryz.results18, go_sem]) rfl ⟨w.heap.size + 1 + 1 + 1, by rw [HB.out, HDD.out, HM2.out]; rfl, by omega, ⟨HCON.out _ _ (by rw [HM2.out]; refine rd_made ?_ _ _ 3 2 ?_ (by unfold maxLen; omega); (focus simp); rfl), by rw [HM2.out]; exact AtF.new_at (by simp) _ _⟩, bI⟩
      · have hp1 : (p == 0) = false := by simpa using hp0
        have HT2 := Lib.hid (show two = false by rw [HT.out]; simp [hp0])
        have HM2 := Lib.hid (show ms = [⟨2 * (id : Int), 0, 1 + c⟩] by rw [HM.out, HT2.out]; rfl)
        clear hp0
        go_enter Tryz.func18, Tryz.ntmps18
        go_wp2_with fail
        refine (round_any _ _ _ (by omega)).mono ?_; rw [← H3.out]; rintro e w' ⟨rfl, rfl⟩
        go_wp2_with fail
        refine (round_any _ _ _ (by omega)).mono ?_; rw [E1.out, ← Hk.out]; rintro e w' ⟨rfl, rfl⟩
        go_wp2_with fail
        refine (round_any _ _ _ (by omega)).mono ?_; rw [← Hs.out]; rintro e w' ⟨rfl, rfl⟩
        go_wp2_with fail
        refine (round_any _ _ _ (by omega)).mono ?_; rw [E2.out, ← Hc.out]; rintro e w' ⟨rfl, rfl⟩
        go_wp2_with fail
        refine (round_any _ _ _ (by omega)).mono ?_; rw [← Hf.out]; rintro e w' ⟨rfl, rfl⟩
        go_wp2_with fail
        refine (round_any _ _ _ (by omega)).mono ?_; rw [← Ht.out]; rintro e w' ⟨rfl, rfl⟩
        go_wp2_with fail
        refine (round_any _ _ _ (by omega)).mono ?_; rw [← Hp.out]; rintro e w' ⟨rfl, rfl⟩
        go_wp2
        exact bodyPost_ret (v := .agg #[.int .i64 (2 * (id : Int)), .int .i64 a3, .int .i64 1, .int .i64 s, .int .i64 (1 + c), .string ⟨#[]⟩, .bool (f == 0), .slice (some ⟨w.heap.size + 1 + 1, 0, none⟩) 1 1, .int .i64 t]) (by simp [results, Tryz.results18, go_sem]) rfl ⟨w.heap.size + 1 + 1, by rw [HB.out, HDD.out, HM2.out]; rfl, by omega, ⟨HCON.out _ _ (by rw [HM2.out]; refine rd_made ?_ _ _ 3 1 ?_ (by unfold maxLen; omega); (focus simp); rfl), by rw [HM2.out]; exact AtF.new_at (by simp) _ _⟩, bI⟩
    · obtain rfl : c = 0 := by omega
      have HT2 := Lib.hid (show two = false by rw [HT.out]; simp)
      have HM2 := Lib.hid (show ms = [⟨2 * (id : Int), 0, 1⟩] by rw [HM.out, HT2.out]; rfl)
      clear hc1
      go_enter Tryz.func18, Tryz.ntmps18
      go_wp2_with fail
      refine (round_any _ _ _ (by omega)).mono ?_; rw [← H3.out]; rintro e w' ⟨rfl, rfl⟩
      go_wp2_with fail
      refine (round_any _ _ _ (by omega)).mono ?_; rw [E1.out, ← Hk.out]; rintro e w' ⟨rfl, rfl⟩
      go_wp2_with fail
      refine (round_any _ _ _ (by omega)).mono ?_; rw [← Hs.out]; rintro e w' ⟨rfl, rfl⟩
      go_wp2_with fail
      refine (round_any _ _ _ (by omega)).mono ?_; rw [E2.out, ← Hc.out]; rintro e w' ⟨rfl, rfl⟩
      go_wp2_with fail
      refine (round_any _ _ _ (by omega)).mono ?_; rw [← Hf.out]; rintro e w' ⟨rfl, rfl⟩
      go_wp2_with fail
      refine (round_any _ _ _ (by omega)).mono ?_; rw [← Ht.out]; rintro e w' ⟨rfl, rfl⟩
      go_wp2
      exact bodyPost_ret (v := .agg #[.int .i64 (2 * (id : Int)), .int .i64 a3, .int .i64 1, .int .i64 s, .int .i64 1, .string ⟨#[]⟩, .bool (f == 0), .slice (some ⟨w.heap.size + 1 + 1, 0, none⟩) 1 1, .int .i64 t]) (by simp [results, Tryz.results18, go_sem]) rfl ⟨w.heap.size + 1 + 1, by rw [HB.out, HDD.out, HM2.out]; rfl, by omega, ⟨HCON.out _ _ (by rw [HM2.out]; refine rd_made ?_ _ _ 3 1 ?_ (by unfold maxLen; omega); (focus simp); rfl), by rw [HM2.out]; exact AtF.new_at (by simp) _ _⟩, bI⟩
theorem bunch_any (n : Int) (id : Nat) (w : World) (hi : id ≤ 1000) :
    Calls Tryz.prog 18 #[.int .i64 n, .int .i64 (id : Int)] w fun e w' => ∃ A, e = .returned (.agg (bnB n id A).arr) ∧ w.heap.size ≤ A ∧ Mems w' (bnB n id A) (bnM n id) ∧ Bel w w' :=
  (bunchF_any n id w hi).mono fun _ _ ⟨A, h1, h2, h3, h4⟩ => ⟨A, h1, h2, h3.1, h4⟩
end Go.Proofs.YtpgjbocjhconoaaGreat

/- dock.Bunches; the law's queued. -/
namespace Go.Proofs.YtpgjbocjhconoaaGreat
open Go.RowKit
set_option linter.unusedSimpArgs false

/-- Bunch k of a list is the one that its number chooses. -/
def BnsOk (zs : List Int) (m : Nat) (L : List BM) : Prop := L.length = m ∧ ∀ k x, L[k]? = some x → ∃ z A, zs[k]? = some z ∧ x = BM.mk (bnB z k A) (bnM z k)
theorem BnsOk.snoc {zs : List Int} {m : Nat} {L : List BM} {z : Int} {A : Nat} (h : BnsOk zs m L) (hz : zs[m]? = some z) : BnsOk zs (m + 1) (L ++ [BM.mk (bnB z m A) (bnM z m)]) := by
  refine ⟨by rw [List.length_append, h.1]; rfl, fun k x hk => ?_⟩
  by_cases e : k < L.length
  · rw [List.getElem?_append_left e] at hk
    exact h.2 k x hk
  · rw [List.getElem?_append_right (by omega)] at hk
    have hkm : k - L.length = 0 := by
      have := (List.getElem?_eq_some_iff.1 hk).1
      simp at this; omega
    rw [hkm] at hk
    simp at hk
    subst hk
    have : k = m := by rw [← h.1]; omega
    subst this
    exact ⟨z, A, hz, rfl⟩
/-- A slice of bunches of the call's own. -/
structure BOwn (w : World) (base : Nat) (v : Value) (L : List BM) : Prop where
  own : w.ownsRow base 44 9 v L.length (bmc L)
  mem : ∀ x ∈ L, Mems w x.b x.ms ∧ ∃ k, k < w.heap.size ∧ (Value.slice x.b.mA x.b.mL x.b.mC).ownBlock = some k ∧ v.ownBlock ≠ some k
theorem bmc_snoc (L : List BM) (x : BM) : bmc (L ++ [x]) = bmc L ++ x.b.cells := by simp [bmc]
theorem Tryz.infoBunch : (Tryz.prog.info? 44).map (fun i => (i.zero, i.size, i.bytes)) = some (some (.agg #[.int .i64 0, .int .i64 0, .int .i64 0, .int .i64 0, .int .i64 0, .string ⟨#[]⟩, .bool false, .slice none 0 0, .int .i64 0]), 9, 96) := by kernel_rfl
theorem bcells_one (b : Bun) : ∀ u ∈ b.cells, u.oneCell' = true := fun u hu => by
  simp only [Bun.cells, List.mem_cons, List.not_mem_nil, or_false] at hu
  rcases hu with rfl | rfl | rfl | rfl | rfl | rfl | rfl | rfl | rfl <;> rfl

/-- Behind an append of one bunch. -/
theorem BOwn.snoc {w w1 w3 : World} {base : Nat} {v v' : Value} {L : List BM} {x : BM} {k : Nat} (h : BOwn w base v L) (hb : Bel w w1) (hm : Mems w1 x.b x.ms) (hx : (Value.slice x.b.mA x.b.mL x.b.mC).ownBlock = some k) (hk : w.heap.size ≤ k) (hk2 : k < w1.heap.size)
    (hown : w3.ownsRow base 44 9 v' (L.length + 1) (bmc L ++ x.b.cells)) (hg : (w1.alloc (.cells x.b.cells.toArray 44)).grownBy w3 v.ownBlock) (hl : v'.ownBlock = v.ownBlock ∨ v'.ownBlock = some (w1.alloc (.cells x.b.cells.toArray 44)).heap.size) : BOwn w3 base v' (L ++ [x]) := by
  have hvk : v.ownBlock ≠ some k := fun e => by have := h.own.lt k e; omega
  have hsz : w1.heap.size < w3.heap.size := by have := hg.size; simp at this; omega
  have hsw := hb.size
  refine ⟨by rw [List.length_append, bmc_snoc]; exact hown, fun y hy => ?_⟩
  rw [List.mem_append] at hy
  rcases hy with hy | hy
  · obtain ⟨h1, k', h2, h3, h4⟩ := h.mem y hy
    refine ⟨⟨h1.len, ((h1.rd.bel hb).alloc _).grown hg (fun b hb' => by rw [h3] at hb'; cases hb'; exact h4), h1.ids, h1.dl⟩, k', by omega, h3, ?_⟩
    rcases hl with e | e
    · rw [e]; exact h4
    · rw [e]; intro e2; simp at e2; omega
  · rw [List.mem_singleton] at hy
    subst hy
    refine ⟨⟨hm.len, (hm.rd.alloc _).grown hg (fun b hb' => by rw [hx] at hb'; cases hb'; exact hvk), hm.ids, hm.dl⟩, k, by omega, hx, ?_⟩
    rcases hl with e | e
    · rw [e]; exact hvk
    · rw [e]; intro e2; simp at e2; omega
theorem bunch_any2 (n : Int) (id : Nat) (w : World) (hi : id ≤ 1000) :
    Calls Tryz.prog 18 #[.int .i64 n, .int .i64 (id : Int)] w fun e w' => ∃ (B : Bun) (A : Nat), e = .returned (.agg #[.int .i64 (B).id, .int .i64 (B).ten, .int .i64 (B).knd, .int .i64 (B).sec, .int .i64 (B).cnt, .string (B).dat, .bool (B).fua, .slice (B).mA (B).mL (B).mC, .int .i64 (B).tim]) ∧ Hid (B = bnB n id A) ∧ w.heap.size ≤ A ∧ Mems w' B (bnM n id) ∧ Bel w w' :=
  (bunch_any n id w hi).mono fun _ _ ⟨A, h1, h0, h2, h3⟩ => ⟨bnB n id A, A, h1, rfl, h0, h2, h3⟩

end Go.Proofs.YtpgjbocjhconoaaGreat

/- Three neighbours give one bunch, whichever two are joined first. -/
namespace Go.Proofs.YtpgjbocjhconoaaGreat
open Go.RowKit

theorem strU_symm {x y : Bu} (h : strU x y = true) : strU y x = true := by
  unfold strU at *
  simp only [Bool.not_eq_true', List.any_eq_false] at *
  intro p hp hq
  rw [List.any_eq_true] at hq
  obtain ⟨q, hq, he⟩ := hq
  have := h q hq
  rw [List.any_eq_true] at this
  exact this ⟨p, hp, by simpa using (beq_iff_eq.1 he).symm⟩
end Go.Proofs.YtpgjbocjhconoaaGreat

/- What a join looks like; the bunches of the dock. -/
namespace Go.Proofs.YtpgjbocjhconoaaGreat
open Go.RowKit Go.Maps
set_option linter.unusedSimpArgs false

theorem fits_big {M B s c : Int} (h : fits M B s c = true) : fits 128 0 s c = true := by
  unfold fits limOk room at h
  simp only [Bool.and_eq_true, decide_eq_true_eq] at h
  unfold fits limOk room
  simp only [Bool.and_eq_true, decide_eq_true_eq]
  obtain ⟨⟨a1, a2, a3, a4⟩, b1, b2, b3, b4⟩ := h
  have h5 : c ≤ 128 := by split at b4 <;> omega
  exact ⟨by decide, b1, b2, b3, by simpa using h5⟩
theorem can_big {M B : Int} {u v : Bu} (h : canU M B u v ≠ 0) : canU 128 0 u v = canU M B u v := by
  have ha := canU_alike h
  have ho := alike_ok ha
  have r1 := okU_range ho.1
  have r2 := okU_range ho.2.1
  unfold canU at h ⊢
  rw [if_pos ha] at h ⊢
  rw [if_pos ha]
  by_cases h1 : v.sec = u.sec + u.cnt ∧ fits M B u.sec (u.cnt + v.cnt) = true
  · rw [if_pos h1, if_pos ⟨h1.1, fits_big h1.2⟩]
  · rw [if_neg h1] at h ⊢
    by_cases h2 : u.sec = v.sec + v.cnt ∧ fits M B v.sec (u.cnt + v.cnt) = true
    · rw [if_pos h2, if_neg (fun g => by omega), if_pos ⟨h2.1, fits_big h2.2⟩]
    · rw [if_neg h2] at h
      exact absurd rfl h
/-- What a join looks like: x ahead of y. -/
structure JoinS (M B : Int) (u v x y : Bu) : Prop where
  or : (x = u ∧ y = v) ∨ (x = v ∧ y = u)
  eq : joinU u v (canU M B u v) = pairU u v x y
  side : y.sec = x.sec + x.cnt
  fit : fits M B x.sec (x.cnt + y.cnt) = true
  okx : okU x = true
  oky : okU y = true
  ten : u.ten = v.ten
  knd : u.knd = v.knd
  fua : u.fua = v.fua
  ok : okU (pairU u v x y) = true
theorem join_shape {M B : Int} {u v : Bu} (h : canU M B u v ≠ 0) : ∃ x y, JoinS M B u v x y := by
  obtain ⟨o1, o2, o3, o4, o5, o6⟩ := alike_ok (canU_alike h)
  have hb := can_big h
  have hj : joinU u v (canU M B u v) = if canU M B u v = 2 then pairU u v v u else pairU u v u v := by
    unfold joinU
    rw [if_neg]
    rintro (g | g)
    · exact h g
    · exact g hb
  have hc : (canU M B u v = 1 ∧ v.sec = u.sec + u.cnt ∧ fits M B u.sec (u.cnt + v.cnt) = true) ∨ (canU M B u v = 2 ∧ u.sec = v.sec + v.cnt ∧ fits M B v.sec (u.cnt + v.cnt) = true) := by
    have hal := canU_alike h
    unfold canU at h ⊢
    rw [if_pos hal] at h ⊢
    split
    · rename_i g; exact .inl ⟨rfl, g⟩
    · rename_i g1
      rw [if_neg g1] at h
      split
      · rename_i g; exact .inr ⟨rfl, g⟩
      · rename_i g2
        rw [if_neg g2] at h
        exact absurd rfl h
  rcases hc with ⟨c, s, f⟩ | ⟨c, s, f⟩
  · refine ⟨u, v, .inl ⟨rfl, rfl⟩, ?_, s, f, o1, o2, o3, o4, o5, pair_ok o1 o2 rfl o4 s o6⟩
    rw [hj, if_neg (by omega)]
  · refine ⟨v, u, .inr ⟨rfl, rfl⟩, ?_, s, by rw [Int.add_comm]; exact f, o2, o1, o3, o4, o5, pair_ok o2 o1 o4 o4.symm s (strU_symm o6)⟩
    rw [hj, if_pos c]
end Go.Proofs.YtpgjbocjhconoaaGreat

/- Plain laws of a scheduler: what Add and Next do. -/
namespace Go.Proofs.YtpgjbocjhconoaaGreat
open Go.RowKit Go.Maps
set_option linter.unusedSimpArgs false

/-! ### flows -/
structure F4 (C V : Int) (fs : List (Int × Int)) : Prop where
  len : fs.length = 4
  v0 : 0 ≤ V
  v1 : V ≤ C
  fl : ∀ (k : Nat) (x y : Int), fs[k]? = some (x, y) → 1 ≤ x ∧ x ≤ 8 ∧ 0 ≤ y ∧ y ≤ C
theorem F4.fair {C V : Int} {fs : List (Int × Int)} (h : F4 C V fs) (hC : C ≤ 1125899906842624) : fairOk V fs = true := by
  have h0 := h.v0
  have h1 := h.v1
  unfold fairOk
  rw [h.len, timeB_iff.2 ⟨by omega, by omega⟩, Bool.and_eq_true, List.all_eq_true]
  refine ⟨rfl, ?_⟩
  rintro ⟨x, y⟩ hp
  obtain ⟨k, hk⟩ := List.getElem?_of_mem hp
  have := h.fl k x y hk
  exact flowOk_iff.2 (by omega)
/-! ### Add -/
/-! ### Next -/
theorem choE_may {E : El} {may : List Bool} {now : Int} {k : Nat} (h : choE E may now = some k) : may[k]? = some true := by
  rw [← choE_L E (E.en.map Qu.qm) (qm_qu_map E.en)] at h
  exact choL_may h
theorem mayE_at {E : El} {now : Int} {busy : List Bu} {k : Nat} : (mayE E now busy)[k]? = some true ↔ ∃ x, E.en[k]? = some x ∧ (payE E x.u now).2 = true ∧ blkQ E.en k busy = false := by
  unfold mayE
  rw [List.getElem?_map]
  by_cases hk : k < E.en.length
  · rw [List.getElem?_range hk, List.getElem?_eq_getElem hk]
    constructor
    · intro h
      have h2 : ((payE E (E.en[k]).u now).2 && !blkQ E.en k busy) = true := by
        simp only [Option.map_some] at h
        rw [List.getElem?_eq_getElem hk] at h
        simpa using h
      rw [Bool.and_eq_true] at h2
      exact ⟨_, rfl, h2.1, by simpa using h2.2⟩
    · rintro ⟨x, hx, h1, h2⟩
      injection hx with hx
      subst hx
      simp only [Option.map_some]
      rw [List.getElem?_eq_getElem hk]
      simp [h1, h2]
  · rw [List.getElem?_eq_none (by simpa using hk), List.getElem?_eq_none (by omega)]
    constructor
    · intro h; cases h
    · rintro ⟨x, hx, _⟩; cases hx
/-- What a Next that sends leaves. -/
structure NextS (E : El) (now : Int) (busy : List Bu) (E' : El) (x : Qu) (k : Nat) : Prop where
  at_ : E.en[k]? = some x
  en : E'.en = E.en.eraseIdx k
  pay : (payE E x.u now).2 = true
  blk : blkQ E.en k busy = false
  cho : choE E (mayE E now busy) now = some k
  knd : E'.knd = E.knd
  rd : E'.rdE = E.rdE
  wr : E'.wrE = E.wrE
  vt : E'.vt = servV E.vt x.sta
  fl : E'.fl = E.fl
  bk : E'.bk = E.bk.set x.u.ten.toNat (payE E x.u now).1
  hd : E'.hd = x.u.sec + x.u.cnt
theorem nextE_some {E E' : El} {now : Int} {busy : List Bu} {x : Qu} (h : nextE E now busy = some (E', x)) : ∃ k, NextS E now busy E' x k := by
  unfold nextE at h
  cases hc : choE E (mayE E now busy) now with
  | none => rw [hc] at h; cases h
  | some k =>
    rw [hc] at h
    obtain ⟨y, hy, h1, h2⟩ := mayE_at.1 (choE_may hc)
    simp only [hy] at h
    injection h with h
    injection h with h3 h4
    subst h3 h4
    exact ⟨k, hy, rfl, h1, h2, hc, rfl, rfl, rfl, rfl, rfl, rfl, rfl⟩
end Go.Proofs.YtpgjbocjhconoaaGreat

/- Members in a scheduler: none is lost or doubled, and those of bunches that conflict keep their order. -/
namespace Go.Proofs.YtpgjbocjhconoaaGreat
open Go.RowKit Go.Maps
set_option linter.unusedSimpArgs false

end Go.Proofs.YtpgjbocjhconoaaGreat
