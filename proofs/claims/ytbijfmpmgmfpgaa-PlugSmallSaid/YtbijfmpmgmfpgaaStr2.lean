/- merge.strangers. -/
import Derived.Test.YtbijfmpmgmfpgaaStr
namespace Go.Proofs.Ytbijfmpmgmfpgaa
open Go.RowKit Go.Maps
set_option linter.unusedSimpArgs false

set_option maxHeartbeats 1000000 in
theorem str11_any (x y : Mem) (B : Nat) (w : World) (h : w.cell? ⟨B, 0, none⟩ = some (.int .i64 x.id)) :
    Calls Try.prog 85 #[.agg #[.int .i64 y.id, .int .i64 y.off, .int .i64 y.cnt], .pointer (some ⟨B, 0, none⟩)] w fun e w' => e = .returned (.bool (x.id == y.id)) ∧ Bel w w' := by
  have hlt := World.block_lt_of_cell? _ _ h
  go_enter Try.func85, Try.ntmps85
  go_wp2
  go_ret
  exact ⟨rfl, (by repeat (first | (with_reducible exact Bel.refl _) | (with_reducible assumption) | (with_reducible refine Bel.drewN ?_ _) | (with_reducible refine Bel.drew ?_) | (with_reducible refine Bel.alloc ?_ _) | (with_reducible refine Bel.setNew ?_ ?_ _) | (with_reducible refine Bel.trans ?_ (by assumption)) | (focus (simp; done)) | (focus (simp; omega))))⟩

set_option maxHeartbeats 2000000 in
theorem str1_any (x : Mem) (ms : List Mem) (A : Option Addr) (c B : Nat) (w : World) (h : w.cell? ⟨B, 7, none⟩ = some (.slice A ms.length c)) (hm : Rd w (.slice A ms.length c) 3 ms.length (mcells ms)) :
    Calls Try.prog 84 #[.agg #[.int .i64 x.id, .int .i64 x.off, .int .i64 x.cnt], .pointer (some ⟨B, 0, none⟩)] w fun e w' => e = .returned (.bool (ms.any fun y => x.id == y.id)) ∧ Bel w w' := by
  have hlt := World.block_lt_of_cell? _ _ h
  have eg := enters_of Try.func85 (by kernel_rfl) rfl
  have hX : (w.alloc (.cells #[.int .i64 x.id, .int .i64 x.off, .int .i64 x.cnt] 59)).cell? ⟨w.heap.size, 0, none⟩ = some (.int .i64 x.id) := by simp [go_sem]
  have hb : Bel w (w.alloc (.cells #[.int .i64 x.id, .int .i64 x.off, .int .i64 x.cnt] 59)) := (by repeat (first | (with_reducible exact Bel.refl _) | (with_reducible assumption) | (with_reducible refine Bel.drewN ?_ _) | (with_reducible refine Bel.drew ?_) | (with_reducible refine Bel.alloc ?_ _) | (with_reducible refine Bel.setNew ?_ ?_ _) | (with_reducible refine Bel.trans ?_ (by assumption)) | (focus (simp; done)) | (focus (simp; omega))))
  have HC := Lib.hid (containsMem_any ms (.slice A ms.length c) 85 #[.pointer (some ⟨w.heap.size, 0, none⟩)] (fun y => x.id == y.id) (w.alloc (.cells #[.int .i64 x.id, .int .i64 x.off, .int .i64 x.cnt] 59)) (hm.bel hb) eg
    (fun W y hW _ => str11_any x y w.heap.size W ((hW.cellAt _ _ (World.block_lt_of_cell? _ _ hX)).trans hX)))
  generalize (ms.any fun y => x.id == y.id) = bb at *
  obtain ⟨n, Hn⟩ : ∃ n, Hid (n = ms.length) := ⟨_, rfl⟩
  rw [← Hn.out] at h HC
  clear hm hX eg
  go_enter Try.func84, Try.ntmps84
  go_wp2_with fail
  refine HC.out.mono ?_; rintro e w1 ⟨rfl, hb1⟩
  go_wp2
  go_ret
  exact ⟨rfl, hb.trans hb1⟩

set_option maxRecDepth 100000 in
set_option maxHeartbeats 4000000 in
theorem strangers_any (x y : BM) (w : World) (hx : Mems w x.b x.ms) (hy : Mems w y.b y.ms) :
    Calls Try.prog 57 #[.agg #[.int .i64 (x.b).id, .int .i64 (x.b).ten, .int .i64 (x.b).knd, .int .i64 (x.b).sec, .int .i64 (x.b).cnt, .string (x.b).dat, .bool (x.b).fua, .slice (x.b).mA (x.b).mL (x.b).mC, .int .i64 (x.b).tim], .agg #[.int .i64 (y.b).id, .int .i64 (y.b).ten, .int .i64 (y.b).knd, .int .i64 (y.b).sec, .int .i64 (y.b).cnt, .string (y.b).dat, .bool (y.b).fua, .slice (y.b).mA (y.b).mL (y.b).mC, .int .i64 (y.b).tim]] w fun e w' => e = .returned (.bool (strU x.bu y.bu)) ∧ Bel w w' := by
  obtain ⟨⟨i1, t1, k1, s1, n1, d1, f1, a1, l1, c1, m1⟩, ms1⟩ := x
  obtain ⟨⟨i2, t2, k2, s2, n2, d2, f2, a2, l2, c2, m2⟩, ms2⟩ := y
  obtain ⟨hl1, hr1, _, _⟩ := hx
  obtain ⟨hl2, hr2, _, _⟩ := hy
  simp only at hl1 hr1 hl2 hr2 ⊢
  subst hl1 hl2
  have eg := enters_of Try.func84 (by kernel_rfl) rfl
  have hX : (((w.alloc (.cells #[.int .i64 i1, .int .i64 t1, .int .i64 k1, .int .i64 s1, .int .i64 n1, .string d1, .bool f1, .slice a1 ms1.length c1, .int .i64 m1] 27)).alloc (.cells #[.int .i64 i2, .int .i64 t2, .int .i64 k2, .int .i64 s2, .int .i64 n2, .string d2, .bool f2, .slice a2 ms2.length c2, .int .i64 m2] 27))).cell? ⟨w.heap.size + 1, 7, none⟩ = some (.slice a2 ms2.length c2) := by simp [go_sem]
  have hb : Bel w (((w.alloc (.cells #[.int .i64 i1, .int .i64 t1, .int .i64 k1, .int .i64 s1, .int .i64 n1, .string d1, .bool f1, .slice a1 ms1.length c1, .int .i64 m1] 27)).alloc (.cells #[.int .i64 i2, .int .i64 t2, .int .i64 k2, .int .i64 s2, .int .i64 n2, .string d2, .bool f2, .slice a2 ms2.length c2, .int .i64 m2] 27))) := (by repeat (first | (with_reducible exact Bel.refl _) | (with_reducible assumption) | (with_reducible refine Bel.drewN ?_ _) | (with_reducible refine Bel.drew ?_) | (with_reducible refine Bel.alloc ?_ _) | (with_reducible refine Bel.setNew ?_ ?_ _) | (with_reducible refine Bel.trans ?_ (by assumption)) | (focus (simp; done)) | (focus (simp; omega))))
  have HC := Lib.hid (containsMem_any ms1 (.slice a1 ms1.length c1) 84 #[.pointer (some ⟨w.heap.size + 1, 0, none⟩)] (fun x => ms2.any fun y => x.id == y.id) _ (hr1.bel hb) eg
    (fun W x hW _ => str1_any x ms2 a2 c2 (w.heap.size + 1) W ((hW.cellAt _ _ (World.block_lt_of_cell? _ _ hX)).trans hX) (hr2.bel (hb.trans hW))))
  have HV := Lib.hid (show strU (BM.bu ⟨⟨i1, t1, k1, s1, n1, d1, f1, a1, ms1.length, c1, m1⟩, ms1⟩) (BM.bu ⟨⟨i2, t2, k2, s2, n2, d2, f2, a2, ms2.length, c2, m2⟩, ms2⟩) = !(ms1.any fun x => ms2.any fun y => x.id == y.id) from rfl)
  rw [HV.out]
  generalize (ms1.any fun x => ms2.any fun y => x.id == y.id) = bb at *
  obtain ⟨n, Hn⟩ : ∃ n, Hid (n = ms1.length) := ⟨_, rfl⟩
  obtain ⟨n', Hn'⟩ : ∃ n, Hid (n = ms2.length) := ⟨_, rfl⟩
  rw [← Hn.out, ← Hn'.out] at HC hb
  rw [← Hn.out, ← Hn'.out]
  clear hr1 hr2 hX eg
  go_enter Try.func57, Try.ntmps57
  go_wp2_with fail
  refine HC.out.mono ?_; rintro e w1 ⟨rfl, hb1⟩
  go_wp2
  go_ret
  exact ⟨rfl, hb.trans hb1⟩
end Go.Proofs.Ytbijfmpmgmfpgaa
