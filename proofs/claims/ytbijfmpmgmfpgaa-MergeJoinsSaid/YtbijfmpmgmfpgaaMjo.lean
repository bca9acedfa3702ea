/- The walk of MergeJoins. -/
import Derived.Test.YtbijfmpmgmfpgaaNear
import Derived.Test.YtbijfmpmgmfpgaaLim
import Derived.Test.YtbijfmpmgmfpgaaLex
import Derived.Test.YtbijfmpmgmfpgaaCut
import Derived.Test.YtbijfmpmgmfpgaaAwk25
namespace Go.Proofs.Ytbijfmpmgmfpgaa
open Go.RowKit Go.Maps
set_option linter.unusedSimpArgs false

/-- What a joined bunch is. -/
structure JFact (M B : Int) (u v J : Bu) (h : Int) : Prop where
  ok : okU J = true
  fit : fits M B J.sec J.cnt = true
  cnt : J.cnt = u.cnt + v.cnt
  len : J.ms.length = u.ms.length + v.ms.length
  sec : J.sec = if v.sec < u.sec then v.sec else u.sec
  knd : J.knd = u.knd ∧ J.knd = v.knd
  oks : okU u = true ∧ okU v = true
  rd : J.knd = 1 → J.dat = ⟨#[]⟩
  h12 : h = 1 ∨ h = 2
  nz : J.knd ≠ 1 → (0 < (cutU u u.dat).length ∧ (cutU u u.dat).length ≤ 128) ∧ (0 < (cutU v v.dat).length ∧ (cutU v v.dat).length ≤ 128)
  cut : J.knd ≠ 1 → cutU J J.dat = if h = 2 then cutU v v.dat ++ cutU u u.dat else cutU u u.dat ++ cutU v v.dat
theorem fits_half {M B s c : Int} (h : fits M B s c = true) : 1 ≤ M ∧ M ≤ 128 := by
  unfold fits limOk at h
  simp only [Bool.and_eq_true, decide_eq_true_eq] at h
  omega
theorem ba_empty {d : ByteArray} (h : d.size = 0) : d = ⟨#[]⟩ := by
  have : d.data.size = 0 := h
  apply ByteArray.ext
  exact Array.eq_empty_of_size_eq_zero this
theorem nb_of {u v : Bu} (ha : alikeU u v = true) (hs : v.sec = u.sec + u.cnt) : Nb u v := by
  obtain ⟨h1, h2, h3, h4, h5, h6⟩ := alike_ok ha
  exact ⟨h1, h2, h3, h4, h5, h6, hs⟩
theorem pair_fact {u v : Bu} (hn : Nb u v) : (okU (pairU u v u v) = true) ∧ ((pairU u v u v).knd = 1 → (pairU u v u v).dat = ⟨#[]⟩) ∧ ((pairU u v u v).knd ≠ 1 → cutU (pairU u v u v) (pairU u v u v).dat = cutU u u.dat ++ cutU v v.dat) := by
  refine ⟨hn.ok, fun hk => ?_, fun hk => ?_⟩
  · obtain ⟨_, d1, _⟩ := okU_parts.1 hn.ok
    rcases dataOk_size d1 with ⟨k1, s1⟩ | ⟨k1, s1⟩
    · exact ba_empty s1
    · omega
  · obtain ⟨_, d1, _⟩ := okU_parts.1 hn.okx
    obtain ⟨_, d2, _⟩ := okU_parts.1 hn.oky
    have hk1 : u.knd ≠ 1 := hk
    have hk2 := hn.knd
    rcases dataOk_size d1 with ⟨k1, s1⟩ | ⟨k1, s1⟩
    · exact absurd k1 hk1
    · rcases dataOk_size d2 with ⟨k2, s2⟩ | ⟨k2, s2⟩
      · omega
      · exact cut_pair hn.okx hn.oky hn.ok s1 s2
theorem cut_len {u : Bu} (h : okU u = true) (hk : u.knd ≠ 1) : 0 < (cutU u u.dat).length ∧ (cutU u u.dat).length ≤ 128 := by
  obtain ⟨_, d1, m⟩ := okU_parts.1 h
  have r := okU_range h
  have hs := ok_small h
  rcases dataOk_size d1 with ⟨k1, s1⟩ | ⟨k1, s1⟩
  · exact absurd k1 hk
  · unfold cutU
    rw [if_pos ⟨h, s1⟩, List.length_map]
    refine ⟨?_, hs.1⟩
    rw [memOk_iff] at m
    cases hm : u.ms with
    | nil => rw [hm] at m; have := m.2.2.1; simp [msum] at this; omega
    | cons a l => simp
theorem join_fact {M B : Int} {u v : Bu} (h0 : canU M B u v ≠ 0) : JFact M B u v (joinU u v (canU M B u v)) (canU M B u v) := by
  have ha := canU_alike h0
  have hal := alike_ok ha
  have r1 := okU_range hal.1
  have r2 := okU_range hal.2.1
  obtain ⟨h, hh⟩ : ∃ h, h = canU M B u v := ⟨_, rfl⟩
  rw [← hh] at h0 ⊢
  unfold canU at hh
  rw [if_pos ha] at hh
  split at hh
  · rename_i hs
    subst hh
    have hn := nb_of ha hs.1
    rw [hn.join]
    obtain ⟨p1, p2, p3⟩ := pair_fact hn
    exact ⟨p1, hs.2, rfl, by simp [pairU, shift], by show u.sec = _; rw [if_neg (by have := hs.1; omega)], ⟨rfl, hn.knd⟩, ⟨hal.1, hal.2.1⟩, p2, .inl rfl, fun hk => ⟨cut_len hal.1 hk, cut_len hal.2.1 (by rw [← hn.knd]; exact hk)⟩, fun hk => by rw [if_neg (by decide)]; exact p3 hk⟩
  · split at hh
    · rename_i hs
      subst hh
      have ha' : alikeU v u = true := by
        obtain ⟨g1, g2, g3, g4, g5, g6⟩ := hal
        unfold alikeU
        simp only [Bool.and_eq_true, beq_iff_eq]
        exact ⟨⟨⟨⟨⟨g2, g1⟩, g3.symm⟩, g4.symm⟩, g5.symm⟩, strU_symm g6⟩
      have hn := nb_of ha' hs.1
      rw [hn.join']
      obtain ⟨p1, p2, p3⟩ := pair_fact hn
      have e : u.cnt + v.cnt = v.cnt + u.cnt := Int.add_comm _ _
      exact ⟨p1, by rw [e] at hs; exact hs.2, e.symm, by simp [pairU, shift]; omega, by show v.sec = _; rw [if_pos (by have := hs.1; omega)], ⟨hn.knd, rfl⟩, ⟨hal.1, hal.2.1⟩, p2, .inr rfl, fun hk => ⟨cut_len hal.1 (by rw [← hn.knd]; exact hk), cut_len hal.2.1 hk⟩, fun hk => by rw [if_pos rfl]; exact p3 hk⟩
    · exact absurd hh h0

set_option maxRecDepth 100000 in
set_option maxHeartbeats 8000000 in
theorem mergeJoins_walk (n m l : Int) (w : World) (_ : IsInt n) (_ : IsInt m) (_ : IsInt l) :
    Calls Try.prog 5 #[.int .i64 n, .int .i64 m, .int .i64 l] w fun e w' => e = .returned (.bool true) ∧ Bel w w' := by
  obtain ⟨i0, hi0, hz0, hz1, hz2⟩ := info_parts Try.infoString
  have HE : Hid ((⟨#[]⟩ : ByteArray).toList.isEmpty = true) := Lib.hid (by unfold ByteArray.toList; rw [ByteArray.toList.loop]; rfl)
  go_enter Try.func5, Try.ntmps5
  go_wp2_with fail
  refine (near_any n m _).mono ?_; rintro e w1 ⟨x, y, rfl, hx, hy, hb1⟩
  have HL := Lib.hid (fun w' => limits_any l w')
  obtain ⟨M, HM⟩ : ∃ M, Hid (M = 1 + rnd l 6) := ⟨_, rfl⟩
  obtain ⟨B, HB⟩ : ∃ B, Hid (B = bound l) := ⟨_, rfl⟩
  rw [← HM.out, ← HB.out] at HL
  have HN := Lib.hid (fun w' (h : Bel w1 w') => can_any M B x y w' (hx.bel h) (hy.bel h))
  have HJN := Lib.hid (fun w' (h : Bel w1 w') => join_any x y (canU M B x.bu y.bu) w' (hx.bel h) (hy.bel h))
  have HF : Hid (canU M B x.bu y.bu ≠ 0 → JFact M B x.bu y.bu (joinU x.bu y.bu (canU M B x.bu y.bu)) (canU M B x.bu y.bu)) := Lib.hid (fun h => join_fact h)
  have HX1 := Lib.hid (fun w' (h : Bel w1 w') hl => cut_any x x.b.dat w' (hx.bel h) hl)
  have HX2 := Lib.hid (fun w' (h : Bel w1 w') hl => cut_any y y.b.dat w' (hy.bel h) hl)
  have HLX : Hid (x.b.mL = x.ms.length ∧ y.b.mL = y.ms.length) := Lib.hid ⟨hx.len, hy.len⟩
  have HA4 := Lib.hid (fun w' => awake25_any w')
  clear hx hy
  generalize canU M B x.bu y.bu = h at *
  obtain ⟨J, HJ⟩ : ∃ J, Hid (J = joinU x.bu y.bu h) := ⟨_, rfl⟩
  rw [← HJ.out] at HJN HF
  have HSM : Hid (okU x.bu = true → x.ms.length ≤ 1000) := Lib.hid (fun h => by have : x.ms.length ≤ 128 := (ok_small h).1; omega)
  have HSM2 : Hid (okU y.bu = true → y.ms.length ≤ 1000) := Lib.hid (fun h => by have : y.ms.length ≤ 128 := (ok_small h).1; omega)
  have HR1 : Hid (okU x.bu = true → 1 ≤ x.b.cnt ∧ x.b.cnt ≤ 128) := Lib.hid (fun h => by have := okU_range h; exact ⟨this.2.2.1, by have h1 : x.bu.cnt ≤ 128 - x.bu.sec := this.2.2.2; have h2 : 0 ≤ x.bu.sec := this.1; show x.bu.cnt ≤ 128; omega⟩)
  have HR2 : Hid (okU y.bu = true → 1 ≤ y.b.cnt ∧ y.b.cnt ≤ 128) := Lib.hid (fun h => by have := okU_range h; exact ⟨this.2.2.1, by have h1 : y.bu.cnt ≤ 128 - y.bu.sec := this.2.2.2; have h2 : 0 ≤ y.bu.sec := this.1; show y.bu.cnt ≤ 128; omega⟩)
  obtain ⟨CX, HCX⟩ : ∃ c, Hid (c = cutU x.bu x.b.dat) := ⟨_, rfl⟩
  obtain ⟨CY, HCY⟩ : ∃ c, Hid (c = cutU y.bu y.b.dat) := ⟨_, rfl⟩
  rw [← HCX.out] at HX1
  rw [← HCY.out] at HX2
  obtain ⟨⟨i1, t1, k1, s1, n1, d1, f1, a1, l1, c1, m1⟩, ms1⟩ := x
  obtain ⟨⟨i2, t2, k2, s2, n2, d2, f2, a2, l2, c2, m2⟩, ms2⟩ := y
  simp only at HJN HN HX1 HX2 HLX HSM HSM2 HR1 HR2 ⊢
  go_wp2_with fail
  have hP := (AtF.new_at (w := w1) rfl 27 [.int .i64 i1, .int .i64 t1, .int .i64 k1, .int .i64 s1, .int .i64 n1, .string d1, .bool f1, .slice a1 l1 c1, .int .i64 m1]).alloc (.cells [.int .i64 i2, .int .i64 t2, .int .i64 k2, .int .i64 s2, .int .i64 n2, .string d2, .bool f2, .slice a2 l2 c2, .int .i64 m2].toArray 27)
  have hQ := AtF.new_at (w := w1.alloc (.cells [.int .i64 i1, .int .i64 t1, .int .i64 k1, .int .i64 s1, .int .i64 n1, .string d1, .bool f1, .slice a1 l1 c1, .int .i64 m1].toArray 27)) (g := w1.heap.size + 1) (by simp) 27 [.int .i64 i2, .int .i64 t2, .int .i64 k2, .int .i64 s2, .int .i64 n2, .string d2, .bool f2, .slice a2 l2 c2, .int .i64 m2]
  have hbw : Bel w1 ((w1.alloc (.cells [.int .i64 i1, .int .i64 t1, .int .i64 k1, .int .i64 s1, .int .i64 n1, .string d1, .bool f1, .slice a1 l1 c1, .int .i64 m1].toArray 27)).alloc (.cells [.int .i64 i2, .int .i64 t2, .int .i64 k2, .int .i64 s2, .int .i64 n2, .string d2, .bool f2, .slice a2 l2 c2, .int .i64 m2].toArray 27)) := (by repeat (first | (with_reducible exact Bel.refl _) | (with_reducible assumption) | (with_reducible refine Bel.drewN ?_ _) | (with_reducible refine Bel.drew ?_) | (with_reducible refine Bel.alloc ?_ _) | (with_reducible refine Bel.setNew ?_ ?_ _) | (with_reducible refine Bel.trans ?_ (by assumption)) | (focus (simp; done)) | (focus (simp; omega))))
  simp only [List.toArray] at hP hQ hbw
  refine (HL.out _).mono ?_; rintro e w2 ⟨rfl, hb2⟩
  have hP2 := (hP.bel hb2).alloc (.cells #[.int .i64 M, .int .i64 B] 38)
  have hQ2 := (hQ.bel hb2).alloc (.cells #[.int .i64 M, .int .i64 B] 38)
  have hL2 := AtF.new_at (w := w2) rfl 38 [.int .i64 M, .int .i64 B]
  have hbw2 : Bel w1 (w2.alloc (.cells #[.int .i64 M, .int .i64 B] 38)) := (hbw.trans hb2).alloc _
  have hPQ : w1.heap.size + 1 < w2.heap.size := by have := hb2.size; simp at this; omega
  have hPQ0 : w1.heap.size < w2.heap.size := by omega
  simp only [List.toArray] at hL2
  have p0' := (hP.bel hb2)
  have q0' := (hQ.bel hb2)
  clear hP hQ hbw hb2
  have p0 := (p0').1.2 0 _ rfl
  have p1 := (p0').1.2 1 _ rfl
  have p2 := (p0').1.2 2 _ rfl
  have p3 := (p0').1.2 3 _ rfl
  have p4 := (p0').1.2 4 _ rfl
  have p5 := (p0').1.2 5 _ rfl
  have p6 := (p0').1.2 6 _ rfl
  have p7 := (p0').1.2 7 _ rfl
  have p8 := (p0').1.2 8 _ rfl
  have q0 := (q0').1.2 0 _ rfl
  have q1 := (q0').1.2 1 _ rfl
  have q2 := (q0').1.2 2 _ rfl
  have q3 := (q0').1.2 3 _ rfl
  have q4 := (q0').1.2 4 _ rfl
  have q5 := (q0').1.2 5 _ rfl
  have q6 := (q0').1.2 6 _ rfl
  have q7 := (q0').1.2 7 _ rfl
  have q8 := (q0').1.2 8 _ rfl
  go_wp2_with fail
  refine (HN.out _ hbw2).mono ?_; rintro e w3 ⟨rfl, hb3⟩
  clear p0 p1 p2 p3 p4 p5 p6 p7 p8 q0 q1 q2 q3 q4 q5 q6 q7 q8 p0' q0'
  have hP3 := hP2.bel hb3
  have hQ3 := hQ2.bel hb3
  have hL3 := hL2.bel hb3
  have hbw3 := hbw2.trans hb3
  clear hP2 hQ2 hL2 hbw2 hb3
  generalize w1.heap.size = P at *
  generalize w2.heap.size = Lb at *
  by_cases h0 : h = 0
  · subst h0
    go_wp2_with fail
    refine (HA4.out _).mono ?_; rintro e w8 ⟨rfl, hb8⟩
    go_wp2
    go_ret
    exact ⟨rfl, hb1.trans (hbw3.trans hb8)⟩
  · have h0b : (h == 0) = false := by simpa using h0
    have HFF := Lib.hid (HF.out h0)
    clear h0
    obtain ⟨b1, b2⟩ := HR1.out HFF.out.oks.1
    obtain ⟨b3, b4⟩ := HR2.out HFF.out.oks.2
    have hSX := HSM.out HFF.out.oks.1
    have hSY := HSM2.out HFF.out.oks.2
    have p0 := (hP3).1.2 0 _ rfl
    have p1 := (hP3).1.2 1 _ rfl
    have p2 := (hP3).1.2 2 _ rfl
    have p3 := (hP3).1.2 3 _ rfl
    have p4 := (hP3).1.2 4 _ rfl
    have p5 := (hP3).1.2 5 _ rfl
    have p6 := (hP3).1.2 6 _ rfl
    have p7 := (hP3).1.2 7 _ rfl
    have p8 := (hP3).1.2 8 _ rfl
    have q0 := (hQ3).1.2 0 _ rfl
    have q1 := (hQ3).1.2 1 _ rfl
    have q2 := (hQ3).1.2 2 _ rfl
    have q3 := (hQ3).1.2 3 _ rfl
    have q4 := (hQ3).1.2 4 _ rfl
    have q5 := (hQ3).1.2 5 _ rfl
    have q6 := (hQ3).1.2 6 _ rfl
    have q7 := (hQ3).1.2 7 _ rfl
    have q8 := (hQ3).1.2 8 _ rfl
    go_wp2_with fail
    refine (HJN.out _ hbw3).mono ?_; rintro e w4 ⟨JA, jc, rfl, hz, hb4⟩
    have HVJ := Lib.hid (fun w' (h : Bel w4 w') => validAt_any J JA jc w' (hz.1.bel h))
    have HCJ := Lib.hid (fun w' (h : Bel w4 w') hl => cut_any ⟨J.at JA jc, J.ms⟩ J.dat w' (hz.1.bel h) hl)
    have HSJ : Hid (J.ms.length ≤ 1000) := Lib.hid (by have := (ok_small HFF.out.ok).1; omega)
    rw [HFF.out.ok] at HVJ
    have HFT := Lib.hid (fun w' => refFits_any M B J.sec J.cnt w')
    rw [rfits_eq, HFF.out.fit] at HFT
    obtain ⟨CJ, HCJ2⟩ : ∃ c, Hid (c = cutU J J.dat) := ⟨_, rfl⟩
    have eCJ : cutU (BM.bu ⟨J.at JA jc, J.ms⟩) J.dat = CJ := HCJ2.out.symm
    rw [eCJ] at HCJ
    have ejl : J.ms.length = l1 + l2 := by rw [HFF.out.len, HLX.out.1, HLX.out.2]; rfl
    have ejc : J.cnt = n1 + n2 := HFF.out.cnt
    have ejs : J.sec = if s2 < s1 then s2 else s1 := HFF.out.sec
    have h12 := HFF.out.h12
    have hrd : J.knd = 1 → J.dat = ⟨#[]⟩ := HFF.out.rd
    have hcut : J.knd ≠ 1 → CJ = if h = 2 then CY ++ CX else CX ++ CY := fun hk => by rw [HCJ2.out, HCX.out, HCY.out]; exact HFF.out.cut hk
    have hnz : J.knd ≠ 1 → (0 < CX.length ∧ CX.length ≤ 128) ∧ (0 < CY.length ∧ CY.length ≤ 128) := fun hk => by rw [HCX.out, HCY.out]; exact HFF.out.nz hk
    clear eCJ hz
    obtain ⟨ji, jt, jk, js, jn, jd, jf, jms, jm⟩ := J
    simp only [Bu.at] at HVJ HCJ HFT HSJ ejl ejc ejs hrd hcut hnz ⊢
    rw [ejl] at HVJ HCJ HSJ ⊢
    subst ejc ejs
    have hl1 : l1 ≤ 1000 := by have := HLX.out.1; omega
    have hl2 : l2 ≤ 1000 := by have := HLX.out.2; omega
    have hll : (((l1 + l2 : Nat) : Int) != (l1 : Int) + (l2 : Int)) = false := by simp
    have hll2 : ((l1 : Int) + (l2 : Int) != (l1 : Int) + (l2 : Int)) = false := by simp
    obtain ⟨js, Hjs⟩ : ∃ s, Hid (s = if s2 < s1 then s2 else s1) := ⟨_, rfl⟩
    rw [← Hjs.out] at HVJ HCJ HFT ⊢
    have hP4 := (hP3.bel hb4).alloc (.cells #[.int .i64 ji, .int .i64 jt, .int .i64 jk, .int .i64 js, .int .i64 (n1 + n2), .string jd, .bool jf, .slice JA (l1 + l2) jc, .int .i64 jm] 27)
    have hQ4 := (hQ3.bel hb4).alloc (.cells #[.int .i64 ji, .int .i64 jt, .int .i64 jk, .int .i64 js, .int .i64 (n1 + n2), .string jd, .bool jf, .slice JA (l1 + l2) jc, .int .i64 jm] 27)
    have hL4 := (hL3.bel hb4).alloc (.cells #[.int .i64 ji, .int .i64 jt, .int .i64 jk, .int .i64 js, .int .i64 (n1 + n2), .string jd, .bool jf, .slice JA (l1 + l2) jc, .int .i64 jm] 27)
    have hJ4 := AtF.new_at (w := w4) rfl 27 [.int .i64 ji, .int .i64 jt, .int .i64 jk, .int .i64 js, .int .i64 (n1 + n2), .string jd, .bool jf, .slice JA (l1 + l2) jc, .int .i64 jm]
    have hb5 : Bel w4 (w4.alloc (.cells #[.int .i64 ji, .int .i64 jt, .int .i64 jk, .int .i64 js, .int .i64 (n1 + n2), .string jd, .bool jf, .slice JA (l1 + l2) jc, .int .i64 jm] 27)) := (Bel.refl _).alloc _
    simp only [List.toArray] at hJ4
    clear p0 p1 p2 p3 p4 p5 p6 p7 p8 q0 q1 q2 q3 q4 q5 q6 q7 q8 hP3 hQ3 hL3
    go_wp2_with fail
    refine (HVJ.out _ hb5).mono ?_; rintro e w5 ⟨rfl, hb6⟩
    have hP5 := hP4.bel hb6
    have hQ5 := hQ4.bel hb6
    have hL5 := hL4.bel hb6
    have hJ5 := hJ4.bel hb6
    have hb7 := hb5.trans hb6
    clear hP4 hQ4 hL4 hJ4 hb5 hb6
    generalize w4.heap.size = JB at *
    have x0 := hL5.1.2 0 _ rfl
    have x1 := hL5.1.2 1 _ rfl
    have p0 := (hJ5).1.2 0 _ rfl
    have p1 := (hJ5).1.2 1 _ rfl
    have p2 := (hJ5).1.2 2 _ rfl
    have p3 := (hJ5).1.2 3 _ rfl
    have p4 := (hJ5).1.2 4 _ rfl
    have p5 := (hJ5).1.2 5 _ rfl
    have p6 := (hJ5).1.2 6 _ rfl
    have p7 := (hJ5).1.2 7 _ rfl
    have p8 := (hJ5).1.2 8 _ rfl
    go_wp2_with fail
    refine (HFT.out _).mono ?_; rintro e w6 ⟨rfl, hb8⟩
    clear x0 x1 p0 p1 p2 p3 p4 p5 p6 p7 p8
    have hP6 := hP5.bel hb8
    have hQ6 := hQ5.bel hb8
    have hJ6 := hJ5.bel hb8
    have hb9 := hb7.trans hb8
    clear hP5 hQ5 hL5 hJ5 hb7 hb8
    have p0 := (hP6).1.2 0 _ rfl
    have p1 := (hP6).1.2 1 _ rfl
    have p2 := (hP6).1.2 2 _ rfl
    have p3 := (hP6).1.2 3 _ rfl
    have p4 := (hP6).1.2 4 _ rfl
    have p5 := (hP6).1.2 5 _ rfl
    have p6 := (hP6).1.2 6 _ rfl
    have p7 := (hP6).1.2 7 _ rfl
    have p8 := (hP6).1.2 8 _ rfl
    have q0 := (hQ6).1.2 0 _ rfl
    have q1 := (hQ6).1.2 1 _ rfl
    have q2 := (hQ6).1.2 2 _ rfl
    have q3 := (hQ6).1.2 3 _ rfl
    have q4 := (hQ6).1.2 4 _ rfl
    have q5 := (hQ6).1.2 5 _ rfl
    have q6 := (hQ6).1.2 6 _ rfl
    have q7 := (hQ6).1.2 7 _ rfl
    have q8 := (hQ6).1.2 8 _ rfl
    have r0 := (hJ6).1.2 0 _ rfl
    have r1 := (hJ6).1.2 1 _ rfl
    have r2 := (hJ6).1.2 2 _ rfl
    have r3 := (hJ6).1.2 3 _ rfl
    have r4 := (hJ6).1.2 4 _ rfl
    have r5 := (hJ6).1.2 5 _ rfl
    have r6 := (hJ6).1.2 6 _ rfl
    have r7 := (hJ6).1.2 7 _ rfl
    have r8 := (hJ6).1.2 8 _ rfl
    have hjs : (js != if s2 < s1 then s2 else s1) = false := by rw [Hjs.out]; simp
    rcases Int.lt_or_le s2 s1 with hss | hss
    all_goals
      first | rw [if_pos hss] at hjs | rw [if_neg (by omega)] at hjs
      by_cases hjk : jk = 1
      · have hjd := hrd hjk
        have HE' : jd.toList.isEmpty = true := by rw [hjd]; exact HE.out
        clear hjd hcut hnz hrd
        subst hjk
        go_wp2_with fail
        refine (HA4.out _).mono ?_; rintro e w8 ⟨rfl, hb8⟩
        go_wp2
        go_ret
        exact ⟨rfl, hb1.trans (hbw3.trans (hb4.trans (hb9.trans hb8)))⟩
      · have hjb : (jk == 1) = false := by simpa using hjk
        obtain ⟨⟨z1, z2⟩, z3, z4⟩ := hnz hjk
        have HCC := Lib.hid (hcut hjk)
        clear hcut hnz hrd hjk HE
        go_upto_region 11 with fail
        have x0 := fun d os => cell_regrown p0 d os
        have x1 := fun d os => cell_regrown p1 d os
        have x2 := fun d os => cell_regrown p2 d os
        have x3 := fun d os => cell_regrown p3 d os
        have x4 := fun d os => cell_regrown p4 d os
        have x5 := fun d os => cell_regrown p5 d os
        have x6 := fun d os => cell_regrown p6 d os
        have x7 := fun d os => cell_regrown p7 d os
        have x8 := fun d os => cell_regrown p8 d os
        have y0 := fun d os => cell_regrown q0 d os
        have y1 := fun d os => cell_regrown q1 d os
        have y2 := fun d os => cell_regrown q2 d os
        have y3 := fun d os => cell_regrown q3 d os
        have y4 := fun d os => cell_regrown q4 d os
        have y5 := fun d os => cell_regrown q5 d os
        have y6 := fun d os => cell_regrown q6 d os
        have y7 := fun d os => cell_regrown q7 d os
        have y8 := fun d os => cell_regrown q8 d os
        refine wp_region_lex [3, 7] 8 (by kernel_rfl) (by kernel_rfl) ?_
        simp only [List.take_succ_cons, List.take_zero, List.drop_succ_cons, List.drop_zero]
        with_reducible refine lex_seg 3 _ _ _ _ (by kernel_rfl) ?_
        simp only [List.take_succ_cons, List.take_zero, List.drop_succ_cons, List.drop_zero]
        try simp only [Act.put, List.setIfInBounds_toArray, List.set_cons_succ, List.set_cons_zero]
        repeat (go_big_quiet_step (fail))
        with_reducible refine wpQuiet_nil ?_
        refine lex_call 26 (by kernel_rfl) (by kernel_rfl) (by simp [go_sem]; rfl) ?_
        refine (HX1.out _ (hbw3.trans (hb4.trans (hb9.trans (by repeat (first | (with_reducible exact Bel.refl _) | (with_reducible assumption) | (with_reducible refine Bel.drewN ?_ _) | (with_reducible refine Bel.drew ?_) | (with_reducible refine Bel.alloc ?_ _) | (with_reducible refine Bel.setNew ?_ ?_ _) | (with_reducible refine Bel.trans ?_ (by assumption)) | (focus (simp; done)) | (focus (simp; omega))))))) hSX).mono ?_; rintro e w7 ⟨v1, rfl, ho1, hb10⟩
        refine ⟨_, rfl, hb10, ?_⟩
        with_reducible refine lex_seg 3 _ _ _ _ (by kernel_rfl) ?_
        simp only [List.take_succ_cons, List.take_zero, List.drop_succ_cons, List.drop_zero]
        try simp only [Act.put, List.setIfInBounds_toArray, List.set_cons_succ, List.set_cons_zero]
        repeat (go_big_quiet_step (fail))
        with_reducible refine wpQuiet_nil ?_
        refine lex_call 26 (by kernel_rfl) (by kernel_rfl) (by simp [go_sem]; rfl) ?_
        refine (HX2.out _ (hbw3.trans (hb4.trans (hb9.trans (by repeat (first | (with_reducible exact Bel.refl _) | (with_reducible assumption) | (with_reducible refine Bel.drewN ?_ _) | (with_reducible refine Bel.drew ?_) | (with_reducible refine Bel.alloc ?_ _) | (with_reducible refine Bel.setNew ?_ ?_ _) | (with_reducible refine Bel.trans ?_ (by assumption)) | (focus (simp; done)) | (focus (simp; omega))))))) hSY).mono ?_; rintro e w8 ⟨v2, rfl, ho2, hb11⟩
        refine ⟨_, rfl, hb11, ?_⟩
        with_reducible refine lex_nil ?_
        have ho1' := own_keep ho1 hb11
        have hb12 : Bel w6 w8 := (by repeat (first | (with_reducible exact Bel.refl _) | (with_reducible assumption) | (with_reducible refine Bel.drewN ?_ _) | (with_reducible refine Bel.drew ?_) | (with_reducible refine Bel.alloc ?_ _) | (with_reducible refine Bel.setNew ?_ ?_ _) | (with_reducible refine Bel.trans ?_ (by assumption)) | (focus (simp; done)) | (focus (simp; omega))))
        clear x0 x1 x2 x3 x4 x5 x6 x7 x8 y0 y1 y2 y3 y4 y5 y6 y7 y8 p0 p1 p2 p3 p4 p5 p6 p7 p8 q0 q1 q2 q3 q4 q5 q6 q7 q8 r0 r1 r2 r3 r4 r5 r6 r7 r8 ho1 hb10 hb11
        have hJ8 := hJ6.bel hb12
        obtain ⟨g1, e1, rfl, hg1, _⟩ := ho1'.form (by omega)
        obtain ⟨g2, e2, rfl, hg2, _⟩ := ho2.form (by omega)
        rcases h12 with rfl | rfl
        · rw [if_neg (by decide)] at HCC
          have r0 := (hJ8).1.2 0 _ rfl
          have r1 := (hJ8).1.2 1 _ rfl
          have r2 := (hJ8).1.2 2 _ rfl
          have r3 := (hJ8).1.2 3 _ rfl
          have r4 := (hJ8).1.2 4 _ rfl
          have r5 := (hJ8).1.2 5 _ rfl
          have r6 := (hJ8).1.2 6 _ rfl
          have r7 := (hJ8).1.2 7 _ rfl
          have r8 := (hJ8).1.2 8 _ rfl
          go_wp2_with fail
          refine (HCJ.out _ (hb9.trans hb12) HSJ.out).mono ?_; rintro e w9 ⟨v3, rfl, ho3, hb13⟩
          have hs1 := hb12.size
          have hs2 := hb13.size
          have hs3 : w6.heap.size ≤ w6.drew.heap.size := Nat.le_refl _
          have hcl : CJ.length = CX.length + CY.length := by rw [HCC.out, List.length_append]
          obtain ⟨g3, e3, rfl, hg3, hl3⟩ := ho3.form (by omega)
          have ho2' := ho2
          have hn1 := own_keep ho1' hb13
          have hn2 := own_keep ho2' hb13
          have hr2 := Rd.own hn2
          have hr3 := Rd.own ho3
          clear r0 r1 r2 r3 r4 r5 r6 r7 r8 ho1' ho2' ho2
          go_wp2_with (at_builtin; first
            | (refine wpList_append_own_at _ rfl _ _ 42 rfl w9.heap.size 9 i0 _ 1 16 Try.underlying42 hi0 hz0 hz1 hz2 rfl (by omega) (.slice none 0 0) 0 [] rfl ⟨rfl, Or.inl ⟨rfl, rfl⟩⟩ ⟨g1, 0, none⟩ CX.length e1 (tcells CX) rfl (tcells_len CX) (hn1.cells rfl) (tcells_one CX) (by unfold maxLen; omega) (by omega) (Nat.le_refl _) ?_; intro v' w10 hown' hg' _ hloc; obtain ⟨gn, cn, hvn, hga, _⟩ := hown'.form (by omega); subst hvn; have hr2' := hr2.grown hg' (fun b hb e => by simp [Value.ownBlock] at e); have hr3' := hr3.grown hg' (fun b hb e => by simp [Value.ownBlock] at e); have hbA := bel_own (Bel.refl w9) (base := w9.heap.size) (e := 9) (size := 1) (v := .slice none 0 0) (n := 0) (xs := []) ⟨rfl, Or.inl ⟨rfl, rfl⟩⟩ hg' (Nat.le_refl _); have hn2' := own_keep hn2 hbA; have hs4 := hbA.size; simp only [Nat.zero_add, List.nil_append] at hown')
            | (refine wpList_append_own_at _ rfl _ _ 42 rfl w9.heap.size 9 i0 _ 1 16 Try.underlying42 hi0 hz0 hz1 hz2 rfl (by omega) (.slice (some ⟨gn, 0, none⟩) CX.length cn) CX.length _ rfl hown' ⟨g2, 0, none⟩ CY.length e2 (tcells CY) rfl (tcells_len CY) (hn2'.cells rfl) (tcells_one CY) (by unfold maxLen; omega) (by omega) hs4 ?_; intro v9 w11 hown9 hg9 _ _; obtain ⟨gz, cz, hvz, _, _⟩ := hown9.form (by omega); subst hvz))
          have hr3'' := hr3'.grown hg9 (fun b hb e => by simp [Value.ownBlock] at hb e; omega)
          have hr9 := Rd.own hown9
          have hbB : Bel w9 w11 := bel_own hbA hown' hg9 (Nat.le_refl _)
          have eL : (CX ++ CY).length = CX.length + CY.length := List.length_append
          have eT : tcells (CX ++ CY) = tcells CX ++ tcells CY := by simp [tcells]
          have hT1 : Rd w11 (.slice (some ⟨g3, 0, none⟩) (CX.length + CY.length) e3) 1 (CX ++ CY).length (tcells (CX ++ CY)) := by
            rw [hcl, HCC.out] at hr3''
            rw [eL]
            exact hr3''
          have hT2 : Rd w11 (.slice (some ⟨gz, 0, none⟩) (CX.length + CY.length) cz) 1 (CX ++ CY).length (tcells (CX ++ CY)) := by
            rw [eL, eT]
            exact hr9
          refine (texts_any (CX ++ CY) _ _ w11 hT1 hT2).mono ?_; rintro e w12 ⟨rfl, hbT⟩
          go_wp2_with fail
          refine (HA4.out _).mono ?_; rintro e w13 ⟨rfl, hbZ⟩
          go_wp2
          go_ret
          exact ⟨rfl, hb1.trans (hbw3.trans (hb4.trans (hb9.trans (hb12.trans (hb13.trans (hbB.trans (hbT.trans hbZ)))))))⟩
        · rw [if_pos rfl] at HCC
          have r0 := (hJ8).1.2 0 _ rfl
          have r1 := (hJ8).1.2 1 _ rfl
          have r2 := (hJ8).1.2 2 _ rfl
          have r3 := (hJ8).1.2 3 _ rfl
          have r4 := (hJ8).1.2 4 _ rfl
          have r5 := (hJ8).1.2 5 _ rfl
          have r6 := (hJ8).1.2 6 _ rfl
          have r7 := (hJ8).1.2 7 _ rfl
          have r8 := (hJ8).1.2 8 _ rfl
          go_wp2_with fail
          refine (HCJ.out _ (hb9.trans hb12) HSJ.out).mono ?_; rintro e w9 ⟨v3, rfl, ho3, hb13⟩
          have hs1 := hb12.size
          have hs2 := hb13.size
          have hs3 : w6.heap.size ≤ w6.drew.heap.size := Nat.le_refl _
          have hcl : CJ.length = CY.length + CX.length := by rw [HCC.out, List.length_append]
          obtain ⟨g3, e3, rfl, hg3, hl3⟩ := ho3.form (by omega)
          have ho2' := ho2
          have hn1 := own_keep ho2' hb13
          have hn2 := own_keep ho1' hb13
          have hr2 := Rd.own hn2
          have hr3 := Rd.own ho3
          clear r0 r1 r2 r3 r4 r5 r6 r7 r8 ho1' ho2' ho2
          go_wp2_with (at_builtin; first
            | (refine wpList_append_own_at _ rfl _ _ 42 rfl w9.heap.size 9 i0 _ 1 16 Try.underlying42 hi0 hz0 hz1 hz2 rfl (by omega) (.slice none 0 0) 0 [] rfl ⟨rfl, Or.inl ⟨rfl, rfl⟩⟩ ⟨g2, 0, none⟩ CY.length e2 (tcells CY) rfl (tcells_len CY) (hn1.cells rfl) (tcells_one CY) (by unfold maxLen; omega) (by omega) (Nat.le_refl _) ?_; intro v' w10 hown' hg' _ hloc; obtain ⟨gn, cn, hvn, hga, _⟩ := hown'.form (by omega); subst hvn; have hr2' := hr2.grown hg' (fun b hb e => by simp [Value.ownBlock] at e); have hr3' := hr3.grown hg' (fun b hb e => by simp [Value.ownBlock] at e); have hbA := bel_own (Bel.refl w9) (base := w9.heap.size) (e := 9) (size := 1) (v := .slice none 0 0) (n := 0) (xs := []) ⟨rfl, Or.inl ⟨rfl, rfl⟩⟩ hg' (Nat.le_refl _); have hn2' := own_keep hn2 hbA; have hs4 := hbA.size; simp only [Nat.zero_add, List.nil_append] at hown')
            | (refine wpList_append_own_at _ rfl _ _ 42 rfl w9.heap.size 9 i0 _ 1 16 Try.underlying42 hi0 hz0 hz1 hz2 rfl (by omega) (.slice (some ⟨gn, 0, none⟩) CY.length cn) CY.length _ rfl hown' ⟨g1, 0, none⟩ CX.length e1 (tcells CX) rfl (tcells_len CX) (hn2'.cells rfl) (tcells_one CX) (by unfold maxLen; omega) (by omega) hs4 ?_; intro v9 w11 hown9 hg9 _ _; obtain ⟨gz, cz, hvz, _, _⟩ := hown9.form (by omega); subst hvz))
          have hr3'' := hr3'.grown hg9 (fun b hb e => by simp [Value.ownBlock] at hb e; omega)
          have hr9 := Rd.own hown9
          have hbB : Bel w9 w11 := bel_own hbA hown' hg9 (Nat.le_refl _)
          have eL : (CY ++ CX).length = CY.length + CX.length := List.length_append
          have eT : tcells (CY ++ CX) = tcells CY ++ tcells CX := by simp [tcells]
          have hT1 : Rd w11 (.slice (some ⟨g3, 0, none⟩) (CY.length + CX.length) e3) 1 (CY ++ CX).length (tcells (CY ++ CX)) := by
            rw [hcl, HCC.out] at hr3''
            rw [eL]
            exact hr3''
          have hT2 : Rd w11 (.slice (some ⟨gz, 0, none⟩) (CY.length + CX.length) cz) 1 (CY ++ CX).length (tcells (CY ++ CX)) := by
            rw [eL, eT]
            exact hr9
          refine (texts_any (CY ++ CX) _ _ w11 hT1 hT2).mono ?_; rintro e w12 ⟨rfl, hbT⟩
          go_wp2_with fail
          refine (HA4.out _).mono ?_; rintro e w13 ⟨rfl, hbZ⟩
          go_wp2
          go_ret
          exact ⟨rfl, hb1.trans (hbw3.trans (hb4.trans (hb9.trans (hb12.trans (hb13.trans (hbB.trans (hbT.trans hbZ)))))))⟩
end Go.Proofs.Ytbijfmpmgmfpgaa
