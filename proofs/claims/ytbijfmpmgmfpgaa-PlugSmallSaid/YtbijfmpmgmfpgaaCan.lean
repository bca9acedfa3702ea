/- merge.Can. -/
import Derived.Test.YtbijfmpmgmfpgaaStr2
import Derived.Test.YtbijfmpmgmfpgaaSetRow
namespace Go.Proofs.Ytbijfmpmgmfpgaa
open Go.RowKit Go.Maps
set_option linter.unusedSimpArgs false

theorem canU_no {M B : Int} {u v : Bu} (h : alikeU u v = false) : canU M B u v = 0 := by unfold canU; rw [h]; rfl

set_option maxRecDepth 100000 in
set_option maxHeartbeats 8000000 in
theorem can_any (M B : Int) (x y : BM) (w : World) (hx : Mems w x.b x.ms) (hy : Mems w y.b y.ms) :
    Calls Try.prog 23 #[.agg #[.int .i64 M, .int .i64 B], .agg #[.int .i64 (x.b).id, .int .i64 (x.b).ten, .int .i64 (x.b).knd, .int .i64 (x.b).sec, .int .i64 (x.b).cnt, .string (x.b).dat, .bool (x.b).fua, .slice (x.b).mA (x.b).mL (x.b).mC, .int .i64 (x.b).tim], .agg #[.int .i64 (y.b).id, .int .i64 (y.b).ten, .int .i64 (y.b).knd, .int .i64 (y.b).sec, .int .i64 (y.b).cnt, .string (y.b).dat, .bool (y.b).fua, .slice (y.b).mA (y.b).mL (y.b).mC, .int .i64 (y.b).tim]] w fun e w' => e = .returned (.int .i64 (canU M B x.bu y.bu)) ∧ Bel w w' := by
  obtain ⟨V, HV⟩ : ∃ V, Hid (V = canU M B x.bu y.bu) := ⟨_, rfl⟩
  rw [← HV.out]
  have H1 := Lib.hid (fun w' (h : Bel w w') => mergeValid_any x.b x.ms w' (hx.bel h))
  have H2 := Lib.hid (fun w' (h : Bel w w') => mergeValid_any y.b y.ms w' (hy.bel h))
  have H3 := Lib.hid (fun w' (h : Bel w w') => strangers_any x y w' (hx.bel h) (hy.bel h))
  have HR1 := Lib.hid (fun h => validB_range (b := x.b) (ms := x.ms) h)
  have HR2 := Lib.hid (fun h => validB_range (b := y.b) (ms := y.ms) h)
  have HA := Lib.hid (show alikeU x.bu y.bu = (validB x.b x.ms && validB y.b y.ms && (x.b.ten == y.b.ten) && (x.b.knd == y.b.knd) && (x.b.fua == y.b.fua) && strU x.bu y.bu) from rfl)
  have HC := Lib.hid (show canU M B x.bu y.bu = if alikeU x.bu y.bu then (if y.b.sec = x.b.sec + x.b.cnt ∧ fits M B x.b.sec (x.b.cnt + y.b.cnt) = true then 1 else if x.b.sec = y.b.sec + y.b.cnt ∧ fits M B y.b.sec (x.b.cnt + y.b.cnt) = true then 2 else 0) else 0 from rfl)
  generalize canU M B x.bu y.bu = cu at *
  generalize alikeU x.bu y.bu = al at *
  generalize strU x.bu y.bu = st at *
  obtain ⟨⟨i1, t1, k1, s1, n1, d1, f1, a1, l1, c1, m1⟩, ms1⟩ := x
  obtain ⟨⟨i2, t2, k2, s2, n2, d2, f2, a2, l2, c2, m2⟩, ms2⟩ := y
  clear hx hy
  simp only at H1 H2 H3 HR1 HR2 HA HC ⊢
  generalize validB ⟨i1, t1, k1, s1, n1, d1, f1, a1, l1, c1, m1⟩ ms1 = v1 at *
  generalize validB ⟨i2, t2, k2, s2, n2, d2, f2, a2, l2, c2, m2⟩ ms2 = v2 at *
  have hA := (AtF.new (w.alloc (.cells #[.int .i64 M, .int .i64 B] 38)) 27 [.int .i64 i1, .int .i64 t1, .int .i64 k1, .int .i64 s1, .int .i64 n1, .string d1, .bool f1, .slice a1 l1 c1, .int .i64 m1]).alloc (.cells #[.int .i64 i2, .int .i64 t2, .int .i64 k2, .int .i64 s2, .int .i64 n2, .string d2, .bool f2, .slice a2 l2 c2, .int .i64 m2] 27)
  have hB := AtF.new_at (w := (w.alloc (.cells #[.int .i64 M, .int .i64 B] 38)).alloc (.cells #[.int .i64 i1, .int .i64 t1, .int .i64 k1, .int .i64 s1, .int .i64 n1, .string d1, .bool f1, .slice a1 l1 c1, .int .i64 m1] 27)) (g := w.heap.size + 1 + 1) (by simp) 27 [.int .i64 i2, .int .i64 t2, .int .i64 k2, .int .i64 s2, .int .i64 n2, .string d2, .bool f2, .slice a2 l2 c2, .int .i64 m2]
  have hL := ((AtF.new w 38 [.int .i64 M, .int .i64 B]).alloc (.cells #[.int .i64 i1, .int .i64 t1, .int .i64 k1, .int .i64 s1, .int .i64 n1, .string d1, .bool f1, .slice a1 l1 c1, .int .i64 m1] 27)).alloc (.cells #[.int .i64 i2, .int .i64 t2, .int .i64 k2, .int .i64 s2, .int .i64 n2, .string d2, .bool f2, .slice a2 l2 c2, .int .i64 m2] 27)
  have hbX : Bel w (((w.alloc (.cells #[.int .i64 M, .int .i64 B] 38)).alloc (.cells #[.int .i64 i1, .int .i64 t1, .int .i64 k1, .int .i64 s1, .int .i64 n1, .string d1, .bool f1, .slice a1 l1 c1, .int .i64 m1] 27)).alloc (.cells #[.int .i64 i2, .int .i64 t2, .int .i64 k2, .int .i64 s2, .int .i64 n2, .string d2, .bool f2, .slice a2 l2 c2, .int .i64 m2] 27)) := (by repeat (first | (with_reducible exact Bel.refl _) | (with_reducible assumption) | (with_reducible refine Bel.drewN ?_ _) | (with_reducible refine Bel.drew ?_) | (with_reducible refine Bel.alloc ?_ _) | (with_reducible refine Bel.setNew ?_ ?_ _) | (with_reducible refine Bel.trans ?_ (by assumption)) | (focus (simp; done)) | (focus (simp; omega))))
  simp only [World.size_alloc, List.toArray] at hA hB hL
  cases v1
  · have HF : Hid (V = 0) := by show _ = _; rw [HV.out, HC.out, HA.out]; rfl
    go_enter Try.func23, Try.ntmps23
    go_wp2_with fail
    refine (H1.out _ (by repeat (first | (with_reducible exact Bel.refl _) | (with_reducible assumption) | (with_reducible refine Bel.drewN ?_ _) | (with_reducible refine Bel.drew ?_) | (with_reducible refine Bel.alloc ?_ _) | (with_reducible refine Bel.setNew ?_ ?_ _) | (with_reducible refine Bel.trans ?_ (by assumption)) | (focus (simp; done)) | (focus (simp; omega))))).mono ?_; rintro e w1 ⟨rfl, hb1⟩
    go_wp2
    go_ret
    exact ⟨ret_int HF.out.symm, hbX.trans hb1⟩
  · cases v2
    · have HF : Hid (V = 0) := by show _ = _; rw [HV.out, HC.out, HA.out]; rfl
      go_enter Try.func23, Try.ntmps23
      go_wp2_with fail
      refine (H1.out _ (by repeat (first | (with_reducible exact Bel.refl _) | (with_reducible assumption) | (with_reducible refine Bel.drewN ?_ _) | (with_reducible refine Bel.drew ?_) | (with_reducible refine Bel.alloc ?_ _) | (with_reducible refine Bel.setNew ?_ ?_ _) | (with_reducible refine Bel.trans ?_ (by assumption)) | (focus (simp; done)) | (focus (simp; omega))))).mono ?_; rintro e w1 ⟨rfl, hb1⟩
      have hB1 := hB.bel hb1
      have q0 := (hB1).1.2 0 _ rfl
      have q1 := (hB1).1.2 1 _ rfl
      have q2 := (hB1).1.2 2 _ rfl
      have q3 := (hB1).1.2 3 _ rfl
      have q4 := (hB1).1.2 4 _ rfl
      have q5 := (hB1).1.2 5 _ rfl
      have q6 := (hB1).1.2 6 _ rfl
      have q7 := (hB1).1.2 7 _ rfl
      have q8 := (hB1).1.2 8 _ rfl
      have hbw1 := hbX.trans hb1
      go_wp2_with fail
      refine (H2.out _ hbw1).mono ?_; rintro e w2 ⟨rfl, hb2⟩
      go_wp2
      go_ret
      exact ⟨ret_int HF.out.symm, hbw1.trans hb2⟩
    · obtain ⟨g1, g2, g3, g4⟩ := HR1.out rfl
      obtain ⟨g5, g6, g7, g8⟩ := HR2.out rfl
      by_cases e1 : t1 = t2
      · by_cases e2 : k1 = k2
        · by_cases e3 : f1 = f2
          · cases st
            · have HF : Hid (V = 0) := by show _ = _; rw [HV.out, HC.out, HA.out]; simp
              subst e1 e2 e3
              go_enter Try.func23, Try.ntmps23
              go_wp2_with fail
              refine (H1.out _ (by repeat (first | (with_reducible exact Bel.refl _) | (with_reducible assumption) | (with_reducible refine Bel.drewN ?_ _) | (with_reducible refine Bel.drew ?_) | (with_reducible refine Bel.alloc ?_ _) | (with_reducible refine Bel.setNew ?_ ?_ _) | (with_reducible refine Bel.trans ?_ (by assumption)) | (focus (simp; done)) | (focus (simp; omega))))).mono ?_; rintro e w1 ⟨rfl, hb1⟩
              have hB1 := hB.bel hb1
              have q0 := (hB1).1.2 0 _ rfl
              have q1 := (hB1).1.2 1 _ rfl
              have q2 := (hB1).1.2 2 _ rfl
              have q3 := (hB1).1.2 3 _ rfl
              have q4 := (hB1).1.2 4 _ rfl
              have q5 := (hB1).1.2 5 _ rfl
              have q6 := (hB1).1.2 6 _ rfl
              have q7 := (hB1).1.2 7 _ rfl
              have q8 := (hB1).1.2 8 _ rfl
              have hbw1 := hbX.trans hb1
              go_wp2_with fail
              refine (H2.out _ hbw1).mono ?_; rintro e w2 ⟨rfl, hb2⟩
              have hA2 := (hA.bel hb1).bel hb2
              have hB2 := hB1.bel hb2
              have hL2 := (hL.bel hb1).bel hb2
              clear q0 q1 q2 q3 q4 q5 q6 q7 q8
              have q0 := (hB2).1.2 0 _ rfl
              have q1 := (hB2).1.2 1 _ rfl
              have q2 := (hB2).1.2 2 _ rfl
              have q3 := (hB2).1.2 3 _ rfl
              have q4 := (hB2).1.2 4 _ rfl
              have q5 := (hB2).1.2 5 _ rfl
              have q6 := (hB2).1.2 6 _ rfl
              have q7 := (hB2).1.2 7 _ rfl
              have q8 := (hB2).1.2 8 _ rfl
              have p0 := (hA2).1.2 0 _ rfl
              have p1 := (hA2).1.2 1 _ rfl
              have p2 := (hA2).1.2 2 _ rfl
              have p3 := (hA2).1.2 3 _ rfl
              have p4 := (hA2).1.2 4 _ rfl
              have p5 := (hA2).1.2 5 _ rfl
              have p6 := (hA2).1.2 6 _ rfl
              have p7 := (hA2).1.2 7 _ rfl
              have p8 := (hA2).1.2 8 _ rfl
              go_wp2_with fail
              refine (H3.out _ (hbw1.trans hb2)).mono ?_; rintro e w3 ⟨rfl, hb3⟩
              go_wp2
              go_ret
              exact ⟨ret_int HF.out.symm, (hbw1.trans hb2).trans hb3⟩
            · have HF : Hid (V = if s2 = s1 + n1 ∧ fits M B s1 (n1 + n2) = true then 1 else if s1 = s2 + n2 ∧ fits M B s2 (n1 + n2) = true then 2 else 0) := by
                show _ = _; rw [HV.out, HC.out, HA.out]; simp [e1, e2, e3]
              subst e1 e2 e3
              go_enter Try.func23, Try.ntmps23
              go_wp2_with fail
              refine (H1.out _ (by repeat (first | (with_reducible exact Bel.refl _) | (with_reducible assumption) | (with_reducible refine Bel.drewN ?_ _) | (with_reducible refine Bel.drew ?_) | (with_reducible refine Bel.alloc ?_ _) | (with_reducible refine Bel.setNew ?_ ?_ _) | (with_reducible refine Bel.trans ?_ (by assumption)) | (focus (simp; done)) | (focus (simp; omega))))).mono ?_; rintro e w1 ⟨rfl, hb1⟩
              have hB1 := hB.bel hb1
              have q0 := (hB1).1.2 0 _ rfl
              have q1 := (hB1).1.2 1 _ rfl
              have q2 := (hB1).1.2 2 _ rfl
              have q3 := (hB1).1.2 3 _ rfl
              have q4 := (hB1).1.2 4 _ rfl
              have q5 := (hB1).1.2 5 _ rfl
              have q6 := (hB1).1.2 6 _ rfl
              have q7 := (hB1).1.2 7 _ rfl
              have q8 := (hB1).1.2 8 _ rfl
              have hbw1 := hbX.trans hb1
              go_wp2_with fail
              refine (H2.out _ hbw1).mono ?_; rintro e w2 ⟨rfl, hb2⟩
              have hA2 := (hA.bel hb1).bel hb2
              have hB2 := hB1.bel hb2
              have hL2 := (hL.bel hb1).bel hb2
              clear q0 q1 q2 q3 q4 q5 q6 q7 q8
              have q0 := (hB2).1.2 0 _ rfl
              have q1 := (hB2).1.2 1 _ rfl
              have q2 := (hB2).1.2 2 _ rfl
              have q3 := (hB2).1.2 3 _ rfl
              have q4 := (hB2).1.2 4 _ rfl
              have q5 := (hB2).1.2 5 _ rfl
              have q6 := (hB2).1.2 6 _ rfl
              have q7 := (hB2).1.2 7 _ rfl
              have q8 := (hB2).1.2 8 _ rfl
              have p0 := (hA2).1.2 0 _ rfl
              have p1 := (hA2).1.2 1 _ rfl
              have p2 := (hA2).1.2 2 _ rfl
              have p3 := (hA2).1.2 3 _ rfl
              have p4 := (hA2).1.2 4 _ rfl
              have p5 := (hA2).1.2 5 _ rfl
              have p6 := (hA2).1.2 6 _ rfl
              have p7 := (hA2).1.2 7 _ rfl
              have p8 := (hA2).1.2 8 _ rfl
              go_wp2_with fail
              refine (H3.out _ (hbw1.trans hb2)).mono ?_; rintro e w3 ⟨rfl, hb3⟩
              have hA3 := hA2.bel hb3
              have hB3 := hB2.bel hb3
              have hL3 := hL2.bel hb3
              have hbw3 := (hbw1.trans hb2).trans hb3
              clear q0 q1 q2 q3 q4 q5 q6 q7 q8 p0 p1 p2 p3 p4 p5 p6 p7 p8
              have q3 := hB3.1.2 3 _ rfl
              have q4 := hB3.1.2 4 _ rfl
              have p3 := hA3.1.2 3 _ rfl
              have p4 := hA3.1.2 4 _ rfl
              have l0 := hL3.1.2 0 _ rfl
              have l1 := hL3.1.2 1 _ rfl
              by_cases e4 : s2 = s1 + n1
              · have e4b : (s2 == s1 + n1) = true := by simpa using e4
                have e5 : ¬ s1 = s2 + n2 := by omega
                have e5b : (s1 == s2 + n2) = false := by simpa using e5
                obtain ⟨ff, Hff⟩ : ∃ ff, Hid (ff = fits M B s1 (n1 + n2)) := ⟨_, rfl⟩
                have HF2 : Hid (V = if ff then 1 else 0) := by
                  show _ = _
                  rw [HF.out, Hff.out]
                  cases fits M B s1 (n1 + n2)
                  · rw [if_neg (by simp), if_neg (fun h => e5 h.1)]; rfl
                  · rw [if_pos ⟨e4, rfl⟩]; rfl
                clear e4 e5
                go_wp2_with fail
                refine (splitFits_any M B s1 (n1 + n2) _).mono ?_; rw [← Hff.out]; rintro e w4 ⟨rfl, hb4⟩
                have q3' := (hB3.bel hb4).1.2 3 _ rfl
                have q4' := (hB3.bel hb4).1.2 4 _ rfl
                have p3' := (hA3.bel hb4).1.2 3 _ rfl
                have p4' := (hA3.bel hb4).1.2 4 _ rfl
                clear q3 q4 p3 p4 l0 l1
                cases ff
                · go_wp2
                  go_ret
                  exact ⟨ret_int (by rw [HF2.out]; rfl), hbw3.trans hb4⟩
                · go_wp2
                  go_ret
                  exact ⟨ret_int (by rw [HF2.out]; rfl), hbw3.trans hb4⟩
              · have e4b : (s2 == s1 + n1) = false := by simpa using e4
                by_cases e5 : s1 = s2 + n2
                · have e5b : (s1 == s2 + n2) = true := by simpa using e5
                  obtain ⟨ff, Hff⟩ : ∃ ff, Hid (ff = fits M B s2 (n1 + n2)) := ⟨_, rfl⟩
                  have HF2 : Hid (V = if ff then 2 else 0) := by
                    show _ = _
                    rw [HF.out, Hff.out, if_neg (fun h => e4 h.1)]
                    cases fits M B s2 (n1 + n2)
                    · rw [if_neg (by simp)]; rfl
                    · rw [if_pos ⟨e5, rfl⟩]; rfl
                  clear e4 e5
                  go_wp2_with fail
                  refine (splitFits_any M B s2 (n1 + n2) _).mono ?_; rw [← Hff.out]; rintro e w4 ⟨rfl, hb4⟩
                  cases ff
                  · go_wp2
                    go_ret
                    exact ⟨ret_int (by rw [HF2.out]; rfl), hbw3.trans hb4⟩
                  · go_wp2
                    go_ret
                    exact ⟨ret_int (by rw [HF2.out]; rfl), hbw3.trans hb4⟩
                · have e5b : (s1 == s2 + n2) = false := by simpa using e5
                  have HF2 : Hid (V = 0) := by show _ = _; rw [HF.out, if_neg (fun h => e4 h.1), if_neg (fun h => e5 h.1)]
                  clear e4 e5
                  go_wp2
                  go_ret
                  exact ⟨ret_int (by rw [HF2.out]), hbw3⟩
          · have HF : Hid (V = 0) := by show _ = _; rw [HV.out, HC.out, HA.out]; simp [e3]
            subst e1 e2
            cases f1 <;> cases f2
            · exact absurd rfl e3
            · clear e3
              go_enter Try.func23, Try.ntmps23
              go_wp2_with fail
              refine (H1.out _ (by repeat (first | (with_reducible exact Bel.refl _) | (with_reducible assumption) | (with_reducible refine Bel.drewN ?_ _) | (with_reducible refine Bel.drew ?_) | (with_reducible refine Bel.alloc ?_ _) | (with_reducible refine Bel.setNew ?_ ?_ _) | (with_reducible refine Bel.trans ?_ (by assumption)) | (focus (simp; done)) | (focus (simp; omega))))).mono ?_; rintro e w1 ⟨rfl, hb1⟩
              have hB1 := hB.bel hb1
              have q0 := (hB1).1.2 0 _ rfl
              have q1 := (hB1).1.2 1 _ rfl
              have q2 := (hB1).1.2 2 _ rfl
              have q3 := (hB1).1.2 3 _ rfl
              have q4 := (hB1).1.2 4 _ rfl
              have q5 := (hB1).1.2 5 _ rfl
              have q6 := (hB1).1.2 6 _ rfl
              have q7 := (hB1).1.2 7 _ rfl
              have q8 := (hB1).1.2 8 _ rfl
              have hbw1 := hbX.trans hb1
              go_wp2_with fail
              refine (H2.out _ hbw1).mono ?_; rintro e w2 ⟨rfl, hb2⟩
              have hA2 := (hA.bel hb1).bel hb2
              have hB2 := hB1.bel hb2
              have hL2 := (hL.bel hb1).bel hb2
              clear q0 q1 q2 q3 q4 q5 q6 q7 q8
              have q0 := (hB2).1.2 0 _ rfl
              have q1 := (hB2).1.2 1 _ rfl
              have q2 := (hB2).1.2 2 _ rfl
              have q3 := (hB2).1.2 3 _ rfl
              have q4 := (hB2).1.2 4 _ rfl
              have q5 := (hB2).1.2 5 _ rfl
              have q6 := (hB2).1.2 6 _ rfl
              have q7 := (hB2).1.2 7 _ rfl
              have q8 := (hB2).1.2 8 _ rfl
              have p0 := (hA2).1.2 0 _ rfl
              have p1 := (hA2).1.2 1 _ rfl
              have p2 := (hA2).1.2 2 _ rfl
              have p3 := (hA2).1.2 3 _ rfl
              have p4 := (hA2).1.2 4 _ rfl
              have p5 := (hA2).1.2 5 _ rfl
              have p6 := (hA2).1.2 6 _ rfl
              have p7 := (hA2).1.2 7 _ rfl
              have p8 := (hA2).1.2 8 _ rfl
              go_wp2_with fail
              go_ret
              exact ⟨ret_int HF.out.symm, hbw1.trans hb2⟩
            · clear e3
              go_enter Try.func23, Try.ntmps23
              go_wp2_with fail
              refine (H1.out _ (by repeat (first | (with_reducible exact Bel.refl _) | (with_reducible assumption) | (with_reducible refine Bel.drewN ?_ _) | (with_reducible refine Bel.drew ?_) | (with_reducible refine Bel.alloc ?_ _) | (with_reducible refine Bel.setNew ?_ ?_ _) | (with_reducible refine Bel.trans ?_ (by assumption)) | (focus (simp; done)) | (focus (simp; omega))))).mono ?_; rintro e w1 ⟨rfl, hb1⟩
              have hB1 := hB.bel hb1
              have q0 := (hB1).1.2 0 _ rfl
              have q1 := (hB1).1.2 1 _ rfl
              have q2 := (hB1).1.2 2 _ rfl
              have q3 := (hB1).1.2 3 _ rfl
              have q4 := (hB1).1.2 4 _ rfl
              have q5 := (hB1).1.2 5 _ rfl
              have q6 := (hB1).1.2 6 _ rfl
              have q7 := (hB1).1.2 7 _ rfl
              have q8 := (hB1).1.2 8 _ rfl
              have hbw1 := hbX.trans hb1
              go_wp2_with fail
              refine (H2.out _ hbw1).mono ?_; rintro e w2 ⟨rfl, hb2⟩
              have hA2 := (hA.bel hb1).bel hb2
              have hB2 := hB1.bel hb2
              have hL2 := (hL.bel hb1).bel hb2
              clear q0 q1 q2 q3 q4 q5 q6 q7 q8
              have q0 := (hB2).1.2 0 _ rfl
              have q1 := (hB2).1.2 1 _ rfl
              have q2 := (hB2).1.2 2 _ rfl
              have q3 := (hB2).1.2 3 _ rfl
              have q4 := (hB2).1.2 4 _ rfl
              have q5 := (hB2).1.2 5 _ rfl
              have q6 := (hB2).1.2 6 _ rfl
              have q7 := (hB2).1.2 7 _ rfl
              have q8 := (hB2).1.2 8 _ rfl
              have p0 := (hA2).1.2 0 _ rfl
              have p1 := (hA2).1.2 1 _ rfl
              have p2 := (hA2).1.2 2 _ rfl
              have p3 := (hA2).1.2 3 _ rfl
              have p4 := (hA2).1.2 4 _ rfl
              have p5 := (hA2).1.2 5 _ rfl
              have p6 := (hA2).1.2 6 _ rfl
              have p7 := (hA2).1.2 7 _ rfl
              have p8 := (hA2).1.2 8 _ rfl
              go_wp2_with fail
              go_ret
              exact ⟨ret_int HF.out.symm, hbw1.trans hb2⟩
            · exact absurd rfl e3
        · have e2b : (k1 != k2) = true := by simpa using e2
          have HF : Hid (V = 0) := by show _ = _; rw [HV.out, HC.out, HA.out]; simp [e2]
          subst e1
          clear e2
          go_enter Try.func23, Try.ntmps23
          go_wp2_with fail
          refine (H1.out _ (by repeat (first | (with_reducible exact Bel.refl _) | (with_reducible assumption) | (with_reducible refine Bel.drewN ?_ _) | (with_reducible refine Bel.drew ?_) | (with_reducible refine Bel.alloc ?_ _) | (with_reducible refine Bel.setNew ?_ ?_ _) | (with_reducible refine Bel.trans ?_ (by assumption)) | (focus (simp; done)) | (focus (simp; omega))))).mono ?_; rintro e w1 ⟨rfl, hb1⟩
          have hB1 := hB.bel hb1
          have q0 := (hB1).1.2 0 _ rfl
          have q1 := (hB1).1.2 1 _ rfl
          have q2 := (hB1).1.2 2 _ rfl
          have q3 := (hB1).1.2 3 _ rfl
          have q4 := (hB1).1.2 4 _ rfl
          have q5 := (hB1).1.2 5 _ rfl
          have q6 := (hB1).1.2 6 _ rfl
          have q7 := (hB1).1.2 7 _ rfl
          have q8 := (hB1).1.2 8 _ rfl
          have hbw1 := hbX.trans hb1
          go_wp2_with fail
          refine (H2.out _ hbw1).mono ?_; rintro e w2 ⟨rfl, hb2⟩
          have hA2 := (hA.bel hb1).bel hb2
          have hB2 := hB1.bel hb2
          have hL2 := (hL.bel hb1).bel hb2
          clear q0 q1 q2 q3 q4 q5 q6 q7 q8
          have q0 := (hB2).1.2 0 _ rfl
          have q1 := (hB2).1.2 1 _ rfl
          have q2 := (hB2).1.2 2 _ rfl
          have q3 := (hB2).1.2 3 _ rfl
          have q4 := (hB2).1.2 4 _ rfl
          have q5 := (hB2).1.2 5 _ rfl
          have q6 := (hB2).1.2 6 _ rfl
          have q7 := (hB2).1.2 7 _ rfl
          have q8 := (hB2).1.2 8 _ rfl
          have p0 := (hA2).1.2 0 _ rfl
          have p1 := (hA2).1.2 1 _ rfl
          have p2 := (hA2).1.2 2 _ rfl
          have p3 := (hA2).1.2 3 _ rfl
          have p4 := (hA2).1.2 4 _ rfl
          have p5 := (hA2).1.2 5 _ rfl
          have p6 := (hA2).1.2 6 _ rfl
          have p7 := (hA2).1.2 7 _ rfl
          have p8 := (hA2).1.2 8 _ rfl
          go_wp2_with fail
          go_ret
          exact ⟨ret_int HF.out.symm, hbw1.trans hb2⟩
      · have e1b : (t1 != t2) = true := by simpa using e1
        have HF : Hid (V = 0) := by show _ = _; rw [HV.out, HC.out, HA.out]; simp [e1]
        clear e1
        go_enter Try.func23, Try.ntmps23
        go_wp2_with fail
        refine (H1.out _ (by repeat (first | (with_reducible exact Bel.refl _) | (with_reducible assumption) | (with_reducible refine Bel.drewN ?_ _) | (with_reducible refine Bel.drew ?_) | (with_reducible refine Bel.alloc ?_ _) | (with_reducible refine Bel.setNew ?_ ?_ _) | (with_reducible refine Bel.trans ?_ (by assumption)) | (focus (simp; done)) | (focus (simp; omega))))).mono ?_; rintro e w1 ⟨rfl, hb1⟩
        have hB1 := hB.bel hb1
        have q0 := (hB1).1.2 0 _ rfl
        have q1 := (hB1).1.2 1 _ rfl
        have q2 := (hB1).1.2 2 _ rfl
        have q3 := (hB1).1.2 3 _ rfl
        have q4 := (hB1).1.2 4 _ rfl
        have q5 := (hB1).1.2 5 _ rfl
        have q6 := (hB1).1.2 6 _ rfl
        have q7 := (hB1).1.2 7 _ rfl
        have q8 := (hB1).1.2 8 _ rfl
        have hbw1 := hbX.trans hb1
        go_wp2_with fail
        refine (H2.out _ hbw1).mono ?_; rintro e w2 ⟨rfl, hb2⟩
        have hA2 := (hA.bel hb1).bel hb2
        have hB2 := hB1.bel hb2
        have hL2 := (hL.bel hb1).bel hb2
        clear q0 q1 q2 q3 q4 q5 q6 q7 q8
        have q0 := (hB2).1.2 0 _ rfl
        have q1 := (hB2).1.2 1 _ rfl
        have q2 := (hB2).1.2 2 _ rfl
        have q3 := (hB2).1.2 3 _ rfl
        have q4 := (hB2).1.2 4 _ rfl
        have q5 := (hB2).1.2 5 _ rfl
        have q6 := (hB2).1.2 6 _ rfl
        have q7 := (hB2).1.2 7 _ rfl
        have q8 := (hB2).1.2 8 _ rfl
        have p0 := (hA2).1.2 0 _ rfl
        have p1 := (hA2).1.2 1 _ rfl
        have p2 := (hA2).1.2 2 _ rfl
        have p3 := (hA2).1.2 3 _ rfl
        have p4 := (hA2).1.2 4 _ rfl
        have p5 := (hA2).1.2 5 _ rfl
        have p6 := (hA2).1.2 6 _ rfl
        have p7 := (hA2).1.2 7 _ rfl
        have p8 := (hA2).1.2 8 _ rfl
        go_wp2_with fail
        go_ret
        exact ⟨ret_int HF.out.symm, hbw1.trans hb2⟩
end Go.Proofs.Ytbijfmpmgmfpgaa
