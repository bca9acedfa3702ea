/- merge.Conflict and the reference's Conflict: one Bool for both. -/
import Derived.Test.YtbijfmpmgmfpgaaBunchL
namespace Go.Proofs.Ytbijfmpmgmfpgaa
open Go.RowKit Go.Maps
set_option linter.unusedSimpArgs false

set_option maxRecDepth 100000 in
set_option maxHeartbeats 4000000 in
theorem conflict_any (x y : BM) (w : World) (hx : Mems w x.b x.ms) (hy : Mems w y.b y.ms) :
    Calls Try.prog 22 #[.agg #[.int .i64 (x.b).id, .int .i64 (x.b).ten, .int .i64 (x.b).knd, .int .i64 (x.b).sec, .int .i64 (x.b).cnt, .string (x.b).dat, .bool (x.b).fua, .slice (x.b).mA (x.b).mL (x.b).mC, .int .i64 (x.b).tim], .agg #[.int .i64 (y.b).id, .int .i64 (y.b).ten, .int .i64 (y.b).knd, .int .i64 (y.b).sec, .int .i64 (y.b).cnt, .string (y.b).dat, .bool (y.b).fua, .slice (y.b).mA (y.b).mL (y.b).mC, .int .i64 (y.b).tim]] w fun e w' => e = .returned (.bool (confB x y)) ∧ Bel w w' := by
  obtain ⟨V, HV⟩ : ∃ V, Hid (V = confB x y) := ⟨_, rfl⟩
  rw [← HV.out]
  have H1 := Lib.hid (fun w' (h : Bel w w') => mergeValid_any x.b x.ms w' (hx.bel h))
  have H2 := Lib.hid (fun w' (h : Bel w w') => mergeValid_any y.b y.ms w' (hy.bel h))
  have HR1 := Lib.hid (fun h => validB_range (b := x.b) (ms := x.ms) h)
  have HR2 := Lib.hid (fun h => validB_range (b := y.b) (ms := y.ms) h)
  have hV := HV.out
  unfold confB BM.ok meetB at hV
  obtain ⟨⟨i1, t1, k1, s1, n1, d1, f1, a1, l1, c1, m1⟩, ms1⟩ := x
  obtain ⟨⟨i2, t2, k2, s2, n2, d2, f2, a2, l2, c2, m2⟩, ms2⟩ := y
  clear hx hy HV
  simp only at H1 H2 hV HR1 HR2 ⊢
  generalize validB ⟨i1, t1, k1, s1, n1, d1, f1, a1, l1, c1, m1⟩ ms1 = v1 at *
  generalize validB ⟨i2, t2, k2, s2, n2, d2, f2, a2, l2, c2, m2⟩ ms2 = v2 at *
  cases v1
  · have HF : Hid (V = false) := by show _ = _; rw [hV]; rfl
    clear hV HR1 HR2
    go_enter Try.func22, Try.ntmps22
    go_wp2_with fail
    refine (H1.out _ (by repeat (first | (with_reducible exact Bel.refl _) | (with_reducible assumption) | (with_reducible refine Bel.drewN ?_ _) | (with_reducible refine Bel.drew ?_) | (with_reducible refine Bel.alloc ?_ _) | (with_reducible refine Bel.setNew ?_ ?_ _) | (with_reducible refine Bel.trans ?_ (by assumption)) | (focus (simp; done)) | (focus (simp; omega))))).mono ?_; rintro e w1 ⟨rfl, hb1⟩
    go_wp2
    go_ret
    exact ⟨ret_bool HF.out.symm, (by repeat (first | (with_reducible exact Bel.refl _) | (with_reducible assumption) | (with_reducible refine Bel.drewN ?_ _) | (with_reducible refine Bel.drew ?_) | (with_reducible refine Bel.alloc ?_ _) | (with_reducible refine Bel.setNew ?_ ?_ _) | (with_reducible refine Bel.trans ?_ (by assumption)) | (focus (simp; done)) | (focus (simp; omega))))⟩
  · cases v2
    · have HF : Hid (V = false) := by show _ = _; rw [hV]; rfl
      clear hV HR1 HR2
      go_enter Try.func22, Try.ntmps22
      go_wp2_with fail
      refine (H1.out _ (by repeat (first | (with_reducible exact Bel.refl _) | (with_reducible assumption) | (with_reducible refine Bel.drewN ?_ _) | (with_reducible refine Bel.drew ?_) | (with_reducible refine Bel.alloc ?_ _) | (with_reducible refine Bel.setNew ?_ ?_ _) | (with_reducible refine Bel.trans ?_ (by assumption)) | (focus (simp; done)) | (focus (simp; omega))))).mono ?_; rintro e w1 ⟨rfl, hb1⟩
      have hB := (AtF.new (w.alloc (.cells #[.int .i64 i1, .int .i64 t1, .int .i64 k1, .int .i64 s1, .int .i64 n1, .string d1, .bool f1, .slice a1 l1 c1, .int .i64 m1] 27)) 27 [.int .i64 i2, .int .i64 t2, .int .i64 k2, .int .i64 s2, .int .i64 n2, .string d2, .bool f2, .slice a2 l2 c2, .int .i64 m2]).bel hb1
      simp only [World.size_alloc] at hB
      have q0 := (hB).1.2 0 _ rfl
      have q1 := (hB).1.2 1 _ rfl
      have q2 := (hB).1.2 2 _ rfl
      have q3 := (hB).1.2 3 _ rfl
      have q4 := (hB).1.2 4 _ rfl
      have q5 := (hB).1.2 5 _ rfl
      have q6 := (hB).1.2 6 _ rfl
      have q7 := (hB).1.2 7 _ rfl
      have q8 := (hB).1.2 8 _ rfl
      go_wp2_with fail
      refine (H2.out _ (by repeat (first | (with_reducible exact Bel.refl _) | (with_reducible assumption) | (with_reducible refine Bel.drewN ?_ _) | (with_reducible refine Bel.drew ?_) | (with_reducible refine Bel.alloc ?_ _) | (with_reducible refine Bel.setNew ?_ ?_ _) | (with_reducible refine Bel.trans ?_ (by assumption)) | (focus (simp; done)) | (focus (simp; omega))))).mono ?_; rintro e w2 ⟨rfl, hb2⟩
      go_wp2
      go_ret
      exact ⟨ret_bool HF.out.symm, (by repeat (first | (with_reducible exact Bel.refl _) | (with_reducible assumption) | (with_reducible refine Bel.drewN ?_ _) | (with_reducible refine Bel.drew ?_) | (with_reducible refine Bel.alloc ?_ _) | (with_reducible refine Bel.setNew ?_ ?_ _) | (with_reducible refine Bel.trans ?_ (by assumption)) | (focus (simp; done)) | (focus (simp; omega))))⟩
    · obtain ⟨g1, g2, g3, g4⟩ := HR1.out rfl
      obtain ⟨g5, g6, g7, g8⟩ := HR2.out rfl
      have HF : Hid (V = decide ((k1 = 2 ∨ k2 = 2) ∧ s1 < s2 + n2 ∧ s2 < s1 + n1)) := by show _ = _; rw [hV]; rfl
      clear hV HR1 HR2
      go_enter Try.func22, Try.ntmps22
      go_wp2_with fail
      refine (H1.out _ (by repeat (first | (with_reducible exact Bel.refl _) | (with_reducible assumption) | (with_reducible refine Bel.drewN ?_ _) | (with_reducible refine Bel.drew ?_) | (with_reducible refine Bel.alloc ?_ _) | (with_reducible refine Bel.setNew ?_ ?_ _) | (with_reducible refine Bel.trans ?_ (by assumption)) | (focus (simp; done)) | (focus (simp; omega))))).mono ?_; rintro e w1 ⟨rfl, hb1⟩
      have hA := ((AtF.new w 27 [.int .i64 i1, .int .i64 t1, .int .i64 k1, .int .i64 s1, .int .i64 n1, .string d1, .bool f1, .slice a1 l1 c1, .int .i64 m1]).alloc (.cells #[.int .i64 i2, .int .i64 t2, .int .i64 k2, .int .i64 s2, .int .i64 n2, .string d2, .bool f2, .slice a2 l2 c2, .int .i64 m2] 27)).bel hb1
      have hB := (AtF.new (w.alloc (.cells #[.int .i64 i1, .int .i64 t1, .int .i64 k1, .int .i64 s1, .int .i64 n1, .string d1, .bool f1, .slice a1 l1 c1, .int .i64 m1] 27)) 27 [.int .i64 i2, .int .i64 t2, .int .i64 k2, .int .i64 s2, .int .i64 n2, .string d2, .bool f2, .slice a2 l2 c2, .int .i64 m2]).bel hb1
      simp only [World.size_alloc] at hB
      have q0 := (hB).1.2 0 _ rfl
      have q1 := (hB).1.2 1 _ rfl
      have q2 := (hB).1.2 2 _ rfl
      have q3 := (hB).1.2 3 _ rfl
      have q4 := (hB).1.2 4 _ rfl
      have q5 := (hB).1.2 5 _ rfl
      have q6 := (hB).1.2 6 _ rfl
      have q7 := (hB).1.2 7 _ rfl
      have q8 := (hB).1.2 8 _ rfl
      go_wp2_with fail
      refine (H2.out _ (by repeat (first | (with_reducible exact Bel.refl _) | (with_reducible assumption) | (with_reducible refine Bel.drewN ?_ _) | (with_reducible refine Bel.drew ?_) | (with_reducible refine Bel.alloc ?_ _) | (with_reducible refine Bel.setNew ?_ ?_ _) | (with_reducible refine Bel.trans ?_ (by assumption)) | (focus (simp; done)) | (focus (simp; omega))))).mono ?_; rintro e w2 ⟨rfl, hb2⟩
      have hA2 := hA.bel hb2
      have hB2 := hB.bel hb2
      clear q0 q1 q2 q3 q4 q5 q6 q7 q8 hA hB
      have p2 := hA2.1.2 2 _ rfl
      have p3 := hA2.1.2 3 _ rfl
      have p4 := hA2.1.2 4 _ rfl
      have q2 := hB2.1.2 2 _ rfl
      have q3 := hB2.1.2 3 _ rfl
      have q4 := hB2.1.2 4 _ rfl
      clear hA2 hB2
      have e1 : IntKind.i64.wrap (s2 + n2) = s2 + n2 := IntWalk.i64_in _ (by omega)
      have e2 : IntKind.i64.wrap (s1 + n1) = s1 + n1 := IntWalk.i64_in _ (by omega)
      go_wp2
      all_goals
        go_ret
        exact ⟨ret_bool (by rw [HF.out]; rw [Bool.eq_iff_iff]; first | (simp [*]; done) | (simp [*]; omega) | (simp; omega)), (by repeat (first | (with_reducible exact Bel.refl _) | (with_reducible assumption) | (with_reducible refine Bel.drewN ?_ _) | (with_reducible refine Bel.drew ?_) | (with_reducible refine Bel.alloc ?_ _) | (with_reducible refine Bel.setNew ?_ ?_ _) | (with_reducible refine Bel.trans ?_ (by assumption)) | (focus (simp; done)) | (focus (simp; omega))))⟩
set_option maxRecDepth 100000 in
set_option maxHeartbeats 4000000 in
theorem refConflict_any (x y : BM) (w : World) (hx : Mems w x.b x.ms) (hy : Mems w y.b y.ms) :
    Calls Try.prog 69 #[.agg #[.int .i64 (x.b).id, .int .i64 (x.b).ten, .int .i64 (x.b).knd, .int .i64 (x.b).sec, .int .i64 (x.b).cnt, .string (x.b).dat, .bool (x.b).fua, .slice (x.b).mA (x.b).mL (x.b).mC, .int .i64 (x.b).tim], .agg #[.int .i64 (y.b).id, .int .i64 (y.b).ten, .int .i64 (y.b).knd, .int .i64 (y.b).sec, .int .i64 (y.b).cnt, .string (y.b).dat, .bool (y.b).fua, .slice (y.b).mA (y.b).mL (y.b).mC, .int .i64 (y.b).tim]] w fun e w' => e = .returned (.bool (confB x y)) ∧ Bel w w' := by
  obtain ⟨V, HV⟩ : ∃ V, Hid (V = confB x y) := ⟨_, rfl⟩
  rw [← HV.out]
  have H1 := Lib.hid (fun w' (h : Bel w w') => refBunch_any x.b x.ms w' (hx.bel h))
  have H2 := Lib.hid (fun w' (h : Bel w w') => refBunch_any y.b y.ms w' (hy.bel h))
  have HR1 := Lib.hid (fun h => validB_range (b := x.b) (ms := x.ms) h)
  have HR2 := Lib.hid (fun h => validB_range (b := y.b) (ms := y.ms) h)
  have hV := HV.out
  unfold confB BM.ok meetB at hV
  obtain ⟨⟨i1, t1, k1, s1, n1, d1, f1, a1, l1, c1, m1⟩, ms1⟩ := x
  obtain ⟨⟨i2, t2, k2, s2, n2, d2, f2, a2, l2, c2, m2⟩, ms2⟩ := y
  clear hx hy HV
  simp only at H1 H2 hV HR1 HR2 ⊢
  generalize validB ⟨i1, t1, k1, s1, n1, d1, f1, a1, l1, c1, m1⟩ ms1 = v1 at *
  generalize validB ⟨i2, t2, k2, s2, n2, d2, f2, a2, l2, c2, m2⟩ ms2 = v2 at *
  cases v1
  · have HF : Hid (V = false) := by show _ = _; rw [hV]; rfl
    clear hV HR1 HR2
    go_enter Try.func69, Try.ntmps69
    go_wp2_with fail
    refine (H1.out _ (by repeat (first | (with_reducible exact Bel.refl _) | (with_reducible assumption) | (with_reducible refine Bel.drewN ?_ _) | (with_reducible refine Bel.drew ?_) | (with_reducible refine Bel.alloc ?_ _) | (with_reducible refine Bel.setNew ?_ ?_ _) | (with_reducible refine Bel.trans ?_ (by assumption)) | (focus (simp; done)) | (focus (simp; omega))))).mono ?_; rintro e w1 ⟨rfl, hb1⟩
    go_wp2
    go_ret
    exact ⟨ret_bool HF.out.symm, (by repeat (first | (with_reducible exact Bel.refl _) | (with_reducible assumption) | (with_reducible refine Bel.drewN ?_ _) | (with_reducible refine Bel.drew ?_) | (with_reducible refine Bel.alloc ?_ _) | (with_reducible refine Bel.setNew ?_ ?_ _) | (with_reducible refine Bel.trans ?_ (by assumption)) | (focus (simp; done)) | (focus (simp; omega))))⟩
  · cases v2
    · have HF : Hid (V = false) := by show _ = _; rw [hV]; rfl
      clear hV HR1 HR2
      go_enter Try.func69, Try.ntmps69
      go_wp2_with fail
      refine (H1.out _ (by repeat (first | (with_reducible exact Bel.refl _) | (with_reducible assumption) | (with_reducible refine Bel.drewN ?_ _) | (with_reducible refine Bel.drew ?_) | (with_reducible refine Bel.alloc ?_ _) | (with_reducible refine Bel.setNew ?_ ?_ _) | (with_reducible refine Bel.trans ?_ (by assumption)) | (focus (simp; done)) | (focus (simp; omega))))).mono ?_; rintro e w1 ⟨rfl, hb1⟩
      have hB := (AtF.new (w.alloc (.cells #[.int .i64 i1, .int .i64 t1, .int .i64 k1, .int .i64 s1, .int .i64 n1, .string d1, .bool f1, .slice a1 l1 c1, .int .i64 m1] 27)) 27 [.int .i64 i2, .int .i64 t2, .int .i64 k2, .int .i64 s2, .int .i64 n2, .string d2, .bool f2, .slice a2 l2 c2, .int .i64 m2]).bel hb1
      simp only [World.size_alloc] at hB
      have q0 := (hB).1.2 0 _ rfl
      have q1 := (hB).1.2 1 _ rfl
      have q2 := (hB).1.2 2 _ rfl
      have q3 := (hB).1.2 3 _ rfl
      have q4 := (hB).1.2 4 _ rfl
      have q5 := (hB).1.2 5 _ rfl
      have q6 := (hB).1.2 6 _ rfl
      have q7 := (hB).1.2 7 _ rfl
      have q8 := (hB).1.2 8 _ rfl
      go_wp2_with fail
      refine (H2.out _ (by repeat (first | (with_reducible exact Bel.refl _) | (with_reducible assumption) | (with_reducible refine Bel.drewN ?_ _) | (with_reducible refine Bel.drew ?_) | (with_reducible refine Bel.alloc ?_ _) | (with_reducible refine Bel.setNew ?_ ?_ _) | (with_reducible refine Bel.trans ?_ (by assumption)) | (focus (simp; done)) | (focus (simp; omega))))).mono ?_; rintro e w2 ⟨rfl, hb2⟩
      go_wp2
      go_ret
      exact ⟨ret_bool HF.out.symm, (by repeat (first | (with_reducible exact Bel.refl _) | (with_reducible assumption) | (with_reducible refine Bel.drewN ?_ _) | (with_reducible refine Bel.drew ?_) | (with_reducible refine Bel.alloc ?_ _) | (with_reducible refine Bel.setNew ?_ ?_ _) | (with_reducible refine Bel.trans ?_ (by assumption)) | (focus (simp; done)) | (focus (simp; omega))))⟩
    · obtain ⟨g1, g2, g3, g4⟩ := HR1.out rfl
      obtain ⟨g5, g6, g7, g8⟩ := HR2.out rfl
      have HF : Hid (V = decide ((k1 = 2 ∨ k2 = 2) ∧ s1 < s2 + n2 ∧ s2 < s1 + n1)) := by show _ = _; rw [hV]; rfl
      clear hV HR1 HR2
      go_enter Try.func69, Try.ntmps69
      go_wp2_with fail
      refine (H1.out _ (by repeat (first | (with_reducible exact Bel.refl _) | (with_reducible assumption) | (with_reducible refine Bel.drewN ?_ _) | (with_reducible refine Bel.drew ?_) | (with_reducible refine Bel.alloc ?_ _) | (with_reducible refine Bel.setNew ?_ ?_ _) | (with_reducible refine Bel.trans ?_ (by assumption)) | (focus (simp; done)) | (focus (simp; omega))))).mono ?_; rintro e w1 ⟨rfl, hb1⟩
      have hA := ((AtF.new w 27 [.int .i64 i1, .int .i64 t1, .int .i64 k1, .int .i64 s1, .int .i64 n1, .string d1, .bool f1, .slice a1 l1 c1, .int .i64 m1]).alloc (.cells #[.int .i64 i2, .int .i64 t2, .int .i64 k2, .int .i64 s2, .int .i64 n2, .string d2, .bool f2, .slice a2 l2 c2, .int .i64 m2] 27)).bel hb1
      have hB := (AtF.new (w.alloc (.cells #[.int .i64 i1, .int .i64 t1, .int .i64 k1, .int .i64 s1, .int .i64 n1, .string d1, .bool f1, .slice a1 l1 c1, .int .i64 m1] 27)) 27 [.int .i64 i2, .int .i64 t2, .int .i64 k2, .int .i64 s2, .int .i64 n2, .string d2, .bool f2, .slice a2 l2 c2, .int .i64 m2]).bel hb1
      simp only [World.size_alloc] at hB
      have q0 := (hB).1.2 0 _ rfl
      have q1 := (hB).1.2 1 _ rfl
      have q2 := (hB).1.2 2 _ rfl
      have q3 := (hB).1.2 3 _ rfl
      have q4 := (hB).1.2 4 _ rfl
      have q5 := (hB).1.2 5 _ rfl
      have q6 := (hB).1.2 6 _ rfl
      have q7 := (hB).1.2 7 _ rfl
      have q8 := (hB).1.2 8 _ rfl
      go_wp2_with fail
      refine (H2.out _ (by repeat (first | (with_reducible exact Bel.refl _) | (with_reducible assumption) | (with_reducible refine Bel.drewN ?_ _) | (with_reducible refine Bel.drew ?_) | (with_reducible refine Bel.alloc ?_ _) | (with_reducible refine Bel.setNew ?_ ?_ _) | (with_reducible refine Bel.trans ?_ (by assumption)) | (focus (simp; done)) | (focus (simp; omega))))).mono ?_; rintro e w2 ⟨rfl, hb2⟩
      have hA2 := hA.bel hb2
      have hB2 := hB.bel hb2
      clear q0 q1 q2 q3 q4 q5 q6 q7 q8 hA hB
      have p2 := hA2.1.2 2 _ rfl
      have p3 := hA2.1.2 3 _ rfl
      have p4 := hA2.1.2 4 _ rfl
      have q2 := hB2.1.2 2 _ rfl
      have q3 := hB2.1.2 3 _ rfl
      have q4 := hB2.1.2 4 _ rfl
      clear hA2 hB2
      have e1 : IntKind.i64.wrap (s2 + n2) = s2 + n2 := IntWalk.i64_in _ (by omega)
      have e2 : IntKind.i64.wrap (s1 + n1) = s1 + n1 := IntWalk.i64_in _ (by omega)
      go_wp2
      all_goals
        go_ret
        exact ⟨ret_bool (by rw [HF.out]; rw [Bool.eq_iff_iff]; first | (simp [*]; done) | (simp [*]; omega) | (simp; omega)), (by repeat (first | (with_reducible exact Bel.refl _) | (with_reducible assumption) | (with_reducible refine Bel.drewN ?_ _) | (with_reducible refine Bel.drew ?_) | (with_reducible refine Bel.alloc ?_ _) | (with_reducible refine Bel.setNew ?_ ?_ _) | (with_reducible refine Bel.trans ?_ (by assumption)) | (focus (simp; done)) | (focus (simp; omega))))⟩
end Go.Proofs.Ytbijfmpmgmfpgaa
