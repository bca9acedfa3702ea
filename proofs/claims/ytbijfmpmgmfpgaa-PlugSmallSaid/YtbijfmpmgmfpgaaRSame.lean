/- The reference's SameBunches, of two that are the same. -/
import Derived.Test.YtbijfmpmgmfpgaaSameB
import Derived.Test.YtbijfmpmgmfpgaaQ
import Derived.Test.YtbijfmpmgmfpgaaJoin
namespace Go.Proofs.Ytbijfmpmgmfpgaa
open Go.RowKit Go.Maps
set_option linter.unusedSimpArgs false

theorem bu_cells {x y : BM} (h : x.bu = y.bu) : x.b.id = y.b.id ∧ x.b.ten = y.b.ten ∧ x.b.knd = y.b.knd ∧ x.b.sec = y.b.sec ∧ x.b.cnt = y.b.cnt ∧ x.b.dat = y.b.dat ∧ x.b.fua = y.b.fua ∧ x.ms = y.ms ∧ x.b.tim = y.b.tim := by
  unfold BM.bu at h
  injection h with h1 h2 h3 h4 h5 h6 h7 h8 h9
  exact ⟨h1, h2, h3, h4, h5, h6, h7, h8, h9⟩

set_option maxRecDepth 100000 in
set_option maxHeartbeats 8000000 in
theorem refSames_any (L L' : List BM) (va vb : Value) (w : World) (ha : BL w va L) (hb : BL w vb L') (he : L.map BM.bu = L'.map BM.bu) :
    Calls Try.prog 31 #[va, vb] w fun e w' => e = .returned (.bool true) ∧ Bel w w' := by
  obtain ⟨A, c, rfl, hc1, hc2⟩ := ha.form
  obtain ⟨A', c', rfl, hc3, hc4⟩ := hb.form
  have hll : L'.length = L.length := by have := congrArg List.length he; simpa using this.symm
  obtain ⟨n, Hn⟩ : ∃ n, Hid (n = L.length) := ⟨_, rfl⟩
  have HA := Lib.hid ha
  have HB := Lib.hid hb
  have HEQ : Hid (∀ (k : Nat) (x y : BM), L[k]? = some x → L'[k]? = some y → x.bu = y.bu) := fun k x y hx hy => by
    have h1 : (L.map BM.bu)[k]? = some x.bu := by rw [List.getElem?_map, hx]; rfl
    have h2 : (L'.map BM.bu)[k]? = some y.bu := by rw [List.getElem?_map, hy]; rfl
    rw [he, h2] at h1
    exact (Option.some.inj h1).symm
  have HL2 : Hid (L'.length = n) := by show _ = _; rw [hll, Hn.out]
  rw [hll, ← Hn.out]
  unfold maxLen at hc2
  have hnm : n ≤ 9223372036854775807 := by rw [Hn.out]; omega
  clear ha hb he hll hc1 hc2 hc3 hc4
  have hne : ((n : Int) != (n : Int)) = false := by simp
  go_enter Try.func31, Try.ntmps31
  go_wp2
  go_loopw [5] (fun iv wr => ∃ i : Nat, iv = .int .i64 i ∧ i ≤ n ∧ Bel w wr) (fun iv _ => n - (intOf iv).toNat)
  case atStart => exact ⟨0, rfl, by omega, Bel.refl _⟩
  case round =>
    obtain ⟨i, rfl, p1, hbr⟩ := hrel
    obtain ⟨W1, rfl⟩ : ∃ X, X = wr := ⟨_, rfl⟩
    by_cases hlt : i < n
    · have hin : (i : Int) < (n : Int) := by omega
      obtain ⟨x, hx⟩ : ∃ x, L[i]? = some x := ⟨L[i]'(by have := Hn.out; omega), List.getElem?_eq_getElem _⟩
      obtain ⟨y, hy⟩ : ∃ y, L'[i]? = some y := ⟨L'[i]'(by have := HL2.out; omega), List.getElem?_eq_getElem _⟩
      have hxy := HEQ.out i x y hx hy
      obtain ⟨g, o, cx, hatx⟩ := HA.out.at hx
      obtain ⟨g', o', cy, haty⟩ := HB.out.at hy
      have hfx := hatx.form
      injection hfx with h1 h2 h3
      subst h1
      have hfy := haty.form
      injection hfy with h4 h5 h6
      subst h4
      clear h2 h3 h5 h6 hx hy
      have hX := hatx.bel hbr
      have hY := haty.bel hbr
      have hrx := hX.row
      have hry := hY.row
      have hmx := hX.mem
      have hmy := hY.mem
      clear hatx haty hX hY
      obtain ⟨e1, e2, e3, e4, e5, e6, e7, e8, e9⟩ := bu_cells hxy
      obtain ⟨⟨i1, t1, k1, s1, n1, d1, f1, a1, l1, c1, m1⟩, ms1⟩ := x
      obtain ⟨⟨i2, t2, k2, s2, n2, d2, f2, a2, l2, c2, m2⟩, ms2⟩ := y
      obtain ⟨hl1, hr1, -, -⟩ := hmx
      obtain ⟨hl2, hr2, -, -⟩ := hmy
      simp only at e1 e2 e3 e4 e5 e6 e7 e8 e9 hl1 hr1 hl2 hr2 hrx hry
      subst e1 e2 e3 e4 e5 e6 e7 e8 e9
      subst hl1 hl2
      have HS := Lib.hid (fun W (hb : Bel W1 W) => sameBunch_any i1 t1 k1 s1 n1 d1 f1 m1 ms1 a1 a2 c1 c2 W (hr1.bel hb) (hr2.bel hb))
      clear hxy hr1 hr2
      have p0 := (hrx).cell 0 rfl
      have p1 := (hrx).cell 1 rfl
      have p2 := (hrx).cell 2 rfl
      have p3 := (hrx).cell 3 rfl
      have p4 := (hrx).cell 4 rfl
      have p5 := (hrx).cell 5 rfl
      have p6 := (hrx).cell 6 rfl
      have p7 := (hrx).cell 7 rfl
      have p8 := (hrx).cell 8 rfl
      rw [Nat.add_zero] at p0
      have q0 := (hry).cell 0 rfl
      have q1 := (hry).cell 1 rfl
      have q2 := (hry).cell 2 rfl
      have q3 := (hry).cell 3 rfl
      have q4 := (hry).cell 4 rfl
      have q5 := (hry).cell 5 rfl
      have q6 := (hry).cell 6 rfl
      have q7 := (hry).cell 7 rfl
      have q8 := (hry).cell 8 rfl
      rw [Nat.add_zero] at q0
      clear hrx hry
      go_wp2_with fail
      have rp0 := fun d os => cell_regrown p0 d os
      have rp1 := fun d os => cell_regrown p1 d os
      have rp2 := fun d os => cell_regrown p2 d os
      have rp3 := fun d os => cell_regrown p3 d os
      have rp4 := fun d os => cell_regrown p4 d os
      have rp5 := fun d os => cell_regrown p5 d os
      have rp6 := fun d os => cell_regrown p6 d os
      have rp7 := fun d os => cell_regrown p7 d os
      have rp8 := fun d os => cell_regrown p8 d os
      have rq0 := fun d os => cell_regrown q0 d os
      have rq1 := fun d os => cell_regrown q1 d os
      have rq2 := fun d os => cell_regrown q2 d os
      have rq3 := fun d os => cell_regrown q3 d os
      have rq4 := fun d os => cell_regrown q4 d os
      have rq5 := fun d os => cell_regrown q5 d os
      have rq6 := fun d os => cell_regrown q6 d os
      have rq7 := fun d os => cell_regrown q7 d os
      have rq8 := fun d os => cell_regrown q8 d os
      refine wp_region_lex [8] 10 (by kernel_rfl) (by kernel_rfl) ?_
      simp only [List.take_succ_cons, List.take_zero, List.drop_succ_cons, List.drop_zero]
      with_reducible refine lex_seg 8 _ _ _ _ (by kernel_rfl) ?_
      simp only [List.take_succ_cons, List.take_zero, List.drop_succ_cons, List.drop_zero]
      try simp only [Act.put, List.setIfInBounds_toArray, List.set_cons_succ, List.set_cons_zero]
      repeat (go_big_quiet_step (fail))
      with_reducible refine wpQuiet_nil ?_
      refine lex_call 19 rfl rfl (by simp [go_sem]; rfl) ?_
      refine (HS.out _ (by repeat (first | (with_reducible exact Bel.refl _) | (with_reducible assumption) | (with_reducible refine Bel.drewN ?_ _) | (with_reducible refine Bel.drew ?_) | (with_reducible refine Bel.alloc ?_ _) | (with_reducible refine Bel.setNew ?_ ?_ _) | (with_reducible refine Bel.trans ?_ (by assumption)) | (focus (simp; done)) | (focus (simp; omega))))).mono ?_; rintro e w4 ⟨rfl, hb4⟩
      refine ⟨_, rfl, hb4, ?_⟩
      with_reducible refine lex_seg 1 _ _ _ _ (by kernel_rfl) ?_
      simp only [List.take_succ_cons, List.take_zero, List.drop_succ_cons, List.drop_zero]
      try simp only [Act.put, List.setIfInBounds_toArray, List.set_cons_succ, List.set_cons_zero]
      repeat (go_big_quiet_step (fail))
      with_reducible refine wpQuiet_nil ?_
      with_reducible refine lex_nil ?_
      clear rp0 rp1 rp2 rp3 rp4 rp5 rp6 rp7 rp8
      clear rq0 rq1 rq2 rq3 rq4 rq5 rq6 rq7 rq8
      clear p0 p1 p2 p3 p4 p5 p6 p7 p8
      clear q0 q1 q2 q3 q4 q5 q6 q7 q8
      have hbf := hbr.drew.trans hb4
      go_wp2
      go_roundw
      case rel => exact ⟨i + 1, by go_num, by omega, hbf⟩
      case measure => simp [intOf]; omega
    · obtain rfl : i = n := by omega
      have hii : decide ((i : Int) < (i : Int)) = false := by simp
      go_wp2
      go_ret
      exact ⟨rfl, hbr⟩
end Go.Proofs.Ytbijfmpmgmfpgaa
