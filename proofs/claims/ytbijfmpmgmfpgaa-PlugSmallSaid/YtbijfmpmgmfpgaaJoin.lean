/- merge.Join. -/
import Derived.Test.YtbijfmpmgmfpgaaCan
import Derived.Test.YtbijfmpmgmfpgaaCln
import Derived.Deep.DeepCutAuto
namespace Go.Proofs.Ytbijfmpmgmfpgaa
open Go.RowKit Go.Maps
set_option linter.unusedSimpArgs false

/-- The bunch u, its members in A. -/
def Bu.at (u : Bu) (A : Option Addr) (c : Nat) : Bun := ⟨u.id, u.ten, u.knd, u.sec, u.cnt, u.dat, u.fua, A, u.ms.length, c, u.tim⟩
theorem Bu.at_bu (u : Bu) (A : Option Addr) (c : Nat) : BM.bu ⟨u.at A c, u.ms⟩ = u := rfl
theorem offs_bdJ : ∀ (l : List Mem) (n : Int), offs n l → (∀ m ∈ l, 1 ≤ m.cnt) → ∀ m ∈ l, n ≤ m.off ∧ m.off < n + msum l
  | [], _, _, _, m, hm => by simp at hm
  | a :: l, n, h, hc, m, hm => by
    have h1 := hc a (by simp)
    have h2 := msum_nonneg (l := l) (fun x hx => hc x (by simp [hx]))
    simp only [msum]
    rcases List.mem_cons.1 hm with rfl | hm
    · have := h.1; omega
    · have := offs_bdJ l _ h.2 (fun x hx => hc x (by simp [hx])) m hm
      omega
theorem len_sum : ∀ l : List Mem, (∀ m ∈ l, 1 ≤ m.cnt) → (l.length : Int) ≤ msum l
  | [], _ => by simp [msum]
  | a :: l, hc => by
    have h1 := hc a (by simp)
    have h2 := len_sum l (fun x hx => hc x (by simp [hx]))
    simp only [msum, List.length_cons]
    omega
theorem ok_small {u : Bu} (h : okU u = true) : u.ms.length ≤ 128 ∧ (∀ m ∈ u.ms, 0 ≤ m.off ∧ m.off ≤ 128) ∧ u.dat.size ≤ 1024 := by
  have r := okU_range h
  obtain ⟨_, d, m⟩ := okU_parts.1 h
  rw [memOk_iff] at m
  obtain ⟨a1, a2, a3, _, _⟩ := m
  have a4 := len_sum _ a2
  refine ⟨by omega, fun z hz => ?_, ?_⟩
  · have := offs_bdJ _ _ a1 a2 z hz; omega
  · rcases dataOk_size d with ⟨_, s⟩ | ⟨_, s⟩ <;> omega
theorem join_yes {u v : Bu} {how : Int} (h0 : how ≠ 0) (hc : canU 128 0 u v = how) :
    okU u = true ∧ okU v = true ∧ ((how = 1 ∧ joinU u v how = pairU u v u v) ∨ (how = 2 ∧ joinU u v how = pairU u v v u)) ∧ u.cnt + v.cnt ≤ 128 ∧ u.ten = v.ten ∧ u.knd = v.knd ∧ u.fua = v.fua := by
  have ha := alike_ok (canU_alike (M := 128) (B := 0) (by rw [hc]; exact h0))
  have r1 := okU_range ha.1
  have r2 := okU_range ha.2.1
  have hj : joinU u v how = if how = 2 then pairU u v v u else pairU u v u v := by
    unfold joinU
    rw [if_neg]
    rintro (h | h)
    · exact h0 h
    · exact h hc
  refine ⟨ha.1, ha.2.1, ?_, ?_, ha.2.2.1, ha.2.2.2.1, ha.2.2.2.2.1⟩
  · unfold canU at hc
    split at hc
    · split at hc
      · subst hc; exact .inl ⟨rfl, hj⟩
      · split at hc
        · subst hc; exact .inr ⟨rfl, hj⟩
        · exact absurd hc.symm h0
    · exact absurd hc.symm h0
  · unfold canU at hc
    split at hc
    · split at hc
      · rename_i hh; have := hh.1; omega
      · split at hc
        · rename_i hh; have := hh.1; omega
        · exact absurd hc.symm h0
    · exact absurd hc.symm h0

def Zb (w' : World) (base : Nat) (J : Bu) (A : Option Addr) (c : Nat) : Prop :=
  Mems w' (J.at A c) J.ms ∧ ∀ k, (Value.slice A J.ms.length c).ownBlock = some k → base ≤ k
theorem zb_zero (w : World) (base : Nat) : Zb w base zeroU none 0 := ⟨⟨rfl, Rd.nil w 3, (fun m hm => by cases hm), (by show 0 ≤ maxLen; unfold maxLen; omega)⟩, fun k h => by cases h⟩

set_option maxRecDepth 100000 in
set_option maxHeartbeats 8000000 in
theorem join_any (x y : BM) (how : Int) (w : World) (hx : Mems w x.b x.ms) (hy : Mems w y.b y.ms) :
    Calls Try.prog 17 #[.agg #[.int .i64 (x.b).id, .int .i64 (x.b).ten, .int .i64 (x.b).knd, .int .i64 (x.b).sec, .int .i64 (x.b).cnt, .string (x.b).dat, .bool (x.b).fua, .slice (x.b).mA (x.b).mL (x.b).mC, .int .i64 (x.b).tim], .agg #[.int .i64 (y.b).id, .int .i64 (y.b).ten, .int .i64 (y.b).knd, .int .i64 (y.b).sec, .int .i64 (y.b).cnt, .string (y.b).dat, .bool (y.b).fua, .slice (y.b).mA (y.b).mL (y.b).mC, .int .i64 (y.b).tim], .int .i64 how] w fun e w' => ∃ A c, e = .returned (.agg #[.int .i64 ((Bu.at (joinU x.bu y.bu how) A c)).id, .int .i64 ((Bu.at (joinU x.bu y.bu how) A c)).ten, .int .i64 ((Bu.at (joinU x.bu y.bu how) A c)).knd, .int .i64 ((Bu.at (joinU x.bu y.bu how) A c)).sec, .int .i64 ((Bu.at (joinU x.bu y.bu how) A c)).cnt, .string ((Bu.at (joinU x.bu y.bu how) A c)).dat, .bool ((Bu.at (joinU x.bu y.bu how) A c)).fua, .slice ((Bu.at (joinU x.bu y.bu how) A c)).mA ((Bu.at (joinU x.bu y.bu how) A c)).mL ((Bu.at (joinU x.bu y.bu how) A c)).mC, .int .i64 ((Bu.at (joinU x.bu y.bu how) A c)).tim]) ∧ Zb w' w.heap.size (joinU x.bu y.bu how) A c ∧ Bel w w' := by
  have HC := Lib.hid (fun w' (h : Bel w w') => can_any 128 0 x y w' (hx.bel h) (hy.bel h))
  have HZ := Lib.hid (fun (h : how = 0 ∨ canU 128 0 x.bu y.bu ≠ how) => show joinU x.bu y.bu how = zeroU from if_pos h)
  have HN := Lib.hid (fun h0 hc => join_yes (u := x.bu) (v := y.bu) (how := how) h0 hc)
  obtain ⟨J, HJ⟩ : ∃ J, Hid (J = joinU x.bu y.bu how) := ⟨_, rfl⟩
  rw [← HJ.out]
  rw [← HJ.out] at HZ HN
  generalize canU 128 0 x.bu y.bu = cu at *
  by_cases h0 : how = 0
  · subst h0
    have HF := Lib.hid (HZ.out (.inl rfl))
    obtain ⟨⟨i1, t1, k1, s1, n1, d1, f1, a1, l1, c1, m1⟩, ms1⟩ := x
    obtain ⟨⟨i2, t2, k2, s2, n2, d2, f2, a2, l2, c2, m2⟩, ms2⟩ := y
    clear HC HZ HN HJ hx hy
    simp only
    go_enter Try.func17, Try.ntmps17
    go_wp2
    exact bodyPost_ret (v := .agg #[.int .i64 0, .int .i64 0, .int .i64 0, .int .i64 0, .int .i64 0, .string ⟨#[]⟩, .bool false, .slice none 0 0, .int .i64 0]) (by simp [results, Try.results17, go_sem]) rfl ⟨none, 0, by rw [HF.out]; rfl, by rw [HF.out]; exact zb_zero _ _, (by repeat (first | (with_reducible exact Bel.refl _) | (with_reducible assumption) | (with_reducible refine Bel.drewN ?_ _) | (with_reducible refine Bel.drew ?_) | (with_reducible refine Bel.alloc ?_ _) | (with_reducible refine Bel.setNew ?_ ?_ _) | (with_reducible refine Bel.trans ?_ (by assumption)) | (focus (simp; done)) | (focus (simp; omega))))⟩
  · have h0b : (how == 0) = false := by simpa using h0
    have HBX := Lib.hid (And.intro hx hy)
    by_cases hc : cu = how
    · obtain ⟨o1, o2, o3, o4, o5, o6, o7⟩ := HN.out h0 hc
      have HS1 := Lib.hid (ok_small o1)
      have HS2 := Lib.hid (ok_small o2)
      have HR1 := okU_range o1
      have HR2 := okU_range o2
      have HO := Lib.hid (And.intro o1 (And.intro o2 (And.intro o5 (And.intro o6 o7))))
      have hcb : (cu != how) = false := by simpa using hc
      clear HZ HN HJ h0 hc hx hy
      obtain ⟨X, HX⟩ : ∃ X : BM, Hid (X = if how = 2 then y else x) := ⟨_, rfl⟩
      obtain ⟨Y, HY⟩ : ∃ X : BM, Hid (X = if how = 2 then x else y) := ⟨_, rfl⟩
      have HJ : Hid (J = pairU x.bu y.bu X.bu Y.bu) := by
        show _ = _
        rw [HX.out, HY.out]
        rcases o3 with ⟨rfl, h⟩ | ⟨rfl, h⟩
        · rw [h]; rfl
        · rw [h]; rfl
      have HMX : Hid (Mems w X.b X.ms ∧ okU X.bu = true) := by
        show _ ∧ _
        rw [HX.out]
        split
        · exact ⟨HBX.out.2, o2⟩
        · exact ⟨HBX.out.1, o1⟩
      have HMY : Hid (Mems w Y.b Y.ms ∧ okU Y.bu = true) := by
        show _ ∧ _
        rw [HY.out]
        split
        · exact ⟨HBX.out.1, o1⟩
        · exact ⟨HBX.out.2, o2⟩
      have HT : Hid (X.b.ten = x.b.ten ∧ X.b.knd = x.b.knd ∧ X.b.fua = x.b.fua) := by
        show _ ∧ _
        rw [HX.out]
        split
        · exact ⟨o5.symm, o6.symm, o7.symm⟩
        · exact ⟨rfl, rfl, rfl⟩
      have HN3 : Hid (1 ≤ X.b.cnt ∧ X.b.cnt ≤ 128 ∧ Y.b.cnt ≤ 128 - X.b.cnt ∧ 1 ≤ Y.b.cnt) := by
        show _ ∧ _
        have h1 : x.b.cnt + y.b.cnt ≤ 128 := o4
        have h2 : 1 ≤ x.b.cnt := (okU_range o1).2.2.1
        have h3 : 1 ≤ y.b.cnt := (okU_range o2).2.2.1
        rw [HX.out, HY.out]
        split <;> omega
      have o8 : how = 1 ∨ how = 2 := o3.elim (fun h => .inl h.1) (fun h => .inr h.1)
      clear o1 o2 o3 o4 o5 o6 o7 HR1 HR2 HS1 HS2
      obtain ⟨⟨i1, t1, k1, s1, n1, d1, f1, a1, l1, c1, m1⟩, ms1⟩ := x
      obtain ⟨⟨i2, t2, k2, s2, n2, d2, f2, a2, l2, c2, m2⟩, ms2⟩ := y
      simp only at HC ⊢
      obtain ⟨W0, HW0⟩ : ∃ W0, Hid (W0 = ((w.alloc (.cells #[.int .i64 i1, .int .i64 t1, .int .i64 k1, .int .i64 s1, .int .i64 n1, .string d1, .bool f1, .slice a1 l1 c1, .int .i64 m1] 27)).alloc (.cells #[.int .i64 i2, .int .i64 t2, .int .i64 k2, .int .i64 s2, .int .i64 n2, .string d2, .bool f2, .slice a2 l2 c2, .int .i64 m2] 27)).alloc (.cells #[.int .i64 0, .int .i64 0, .int .i64 0, .int .i64 0, .int .i64 0, .string ⟨#[]⟩, .bool false, .slice none 0 0, .int .i64 0] 27)) := ⟨_, rfl⟩
      have hA : AtF W0 w.heap.size [.int .i64 i1, .int .i64 t1, .int .i64 k1, .int .i64 s1, .int .i64 n1, .string d1, .bool f1, .slice a1 l1 c1, .int .i64 m1] := by rw [HW0.out]; exact ((AtF.new_at rfl _ _).alloc _).alloc _
      have hB : AtF W0 (w.heap.size + 1) [.int .i64 i2, .int .i64 t2, .int .i64 k2, .int .i64 s2, .int .i64 n2, .string d2, .bool f2, .slice a2 l2 c2, .int .i64 m2] := by rw [HW0.out]; exact (AtF.new_at (by simp) _ _).alloc _
      have hR : AtF W0 (w.heap.size + 1 + 1) [.int .i64 0, .int .i64 0, .int .i64 0, .int .i64 0, .int .i64 0, .string ⟨#[]⟩, .bool false, .slice none 0 0, .int .i64 0] := by rw [HW0.out]; exact AtF.new_at (by simp) _ _
      have hbW : Bel w W0 := by rw [HW0.out]; exact (by repeat (first | (with_reducible exact Bel.refl _) | (with_reducible assumption) | (with_reducible refine Bel.drewN ?_ _) | (with_reducible refine Bel.drew ?_) | (with_reducible refine Bel.alloc ?_ _) | (with_reducible refine Bel.setNew ?_ ?_ _) | (with_reducible refine Bel.trans ?_ (by assumption)) | (focus (simp; done)) | (focus (simp; omega))))
      go_enter Try.func17, Try.ntmps17
      go_wp2_with fail
      rw [← HW0.out]
      refine (HC.out _ hbW).mono ?_; rintro e w1 ⟨rfl, hb1⟩
      replace hA := hA.bel hb1
      replace hB := hB.bel hb1
      replace hR := hR.bel hb1
      have hbw := hbW.trans hb1
      clear hb1 hbW
      have p0 := (hA).1.2 0 _ rfl
      have p1 := (hA).1.2 1 _ rfl
      have p2 := (hA).1.2 2 _ rfl
      have p3 := (hA).1.2 3 _ rfl
      have p4 := (hA).1.2 4 _ rfl
      have p5 := (hA).1.2 5 _ rfl
      have p6 := (hA).1.2 6 _ rfl
      have p7 := (hA).1.2 7 _ rfl
      have p8 := (hA).1.2 8 _ rfl
      have q0 := (hB).1.2 0 _ rfl
      have q1 := (hB).1.2 1 _ rfl
      have q2 := (hB).1.2 2 _ rfl
      have q3 := (hB).1.2 3 _ rfl
      have q4 := (hB).1.2 4 _ rfl
      have q5 := (hB).1.2 5 _ rfl
      have q6 := (hB).1.2 6 _ rfl
      have q7 := (hB).1.2 7 _ rfl
      have q8 := (hB).1.2 8 _ rfl
      obtain ⟨ni, Hni⟩ : ∃ n : Int, Hid (n = if i2 < i1 then i2 else i1) := ⟨_, rfl⟩
      obtain ⟨nt, Hnt⟩ : ∃ n : Int, Hid (n = if m2 < m1 then m2 else m1) := ⟨_, rfl⟩
      go_wp2_with fail
      have r0 := fun d os => cell_regrown p0 d os
      have r8 := fun d os => cell_regrown p8 d os
      have u0 := fun d os => cell_regrown q0 d os
      have u8 := fun d os => cell_regrown q8 d os
      refine wp_region_st [] 12 (by kernel_rfl) (by kernel_rfl) ?_
      with_reducible refine st_sel [0, 1, 2, 3, 4, 5, 6, 7, 8, 9, 10, 11] (by kernel_rfl) (by kernel_rfl) ?_
      simp only [picked, List.getElem?_cons_succ, List.getElem?_cons_zero, Option.toList_some, List.nil_append, List.cons_append, List.append_nil]
      try simp only [Act.put, List.setIfInBounds_toArray, List.set_cons_succ, List.set_cons_zero]
      repeat (go_big_quiet_step (fail))
      with_reducible refine wpQuiet_nil ?_
      refine st_end (by kernel_rfl) ?_
      simp only [List.drop_succ_cons, List.drop_zero, List.drop_nil]
      skip
      rw [← Hni.out, ← Hnt.out]
      clear r0 r8 u0 u8 p0 p1 p2 p3 p4 p5 p6 p7 p8 q0 q1 q2 q3 q4 q5 q6 q7 q8
      replace hA := hA.drew
      replace hB := hB.drew
      replace hR := hR.drew
      have hbw2 : Bel w w1.drew := hbw.drew
      clear hbw
      generalize w1.drew = w2 at *
      have p0 := (hA).1.2 0 _ rfl
      have p1 := (hA).1.2 1 _ rfl
      have p2 := (hA).1.2 2 _ rfl
      have p3 := (hA).1.2 3 _ rfl
      have p4 := (hA).1.2 4 _ rfl
      have p5 := (hA).1.2 5 _ rfl
      have p6 := (hA).1.2 6 _ rfl
      have p7 := (hA).1.2 7 _ rfl
      have p8 := (hA).1.2 8 _ rfl
      have q0 := (hB).1.2 0 _ rfl
      have q1 := (hB).1.2 1 _ rfl
      have q2 := (hB).1.2 2 _ rfl
      have q3 := (hB).1.2 3 _ rfl
      have q4 := (hB).1.2 4 _ rfl
      have q5 := (hB).1.2 5 _ rfl
      have q6 := (hB).1.2 6 _ rfl
      have q7 := (hB).1.2 7 _ rfl
      have q8 := (hB).1.2 8 _ rfl
      have pf := hA.2
      have pl := hA.1.1
      have qf := hB.2
      have ql := hB.1.1
      go_upto_if 34 with fail
      go_cut [34] (fun _ wx => AtF wx w.heap.size [.int .i64 (X.b).id, .int .i64 (X.b).ten, .int .i64 (X.b).knd, .int .i64 (X.b).sec, .int .i64 (X.b).cnt, .string (X.b).dat, .bool (X.b).fua, .slice (X.b).mA (X.b).mL (X.b).mC, .int .i64 (X.b).tim] ∧ AtF wx (w.heap.size + 1) [.int .i64 (Y.b).id, .int .i64 (Y.b).ten, .int .i64 (Y.b).knd, .int .i64 (Y.b).sec, .int .i64 (Y.b).cnt, .string (Y.b).dat, .bool (Y.b).fua, .slice (Y.b).mA (Y.b).mL (Y.b).mC, .int .i64 (Y.b).tim] ∧ AtF wx (w.heap.size + 1 + 1) [.int .i64 0, .int .i64 0, .int .i64 0, .int .i64 0, .int .i64 0, .string ⟨#[]⟩, .bool false, .slice none 0 0, .int .i64 0] ∧ Bel w wx)
      case first =>
        rcases o8 with rfl | rfl
        · have EX := HX.out
          have EY := HY.out
          rw [if_neg (by decide)] at EX EY
          go_wp2_with fail
          go_meet
          rw [EX, EY]
          exact ⟨hA, hB, hR, hbw2⟩
        · have EX := HX.out
          have EY := HY.out
          rw [if_pos rfl] at EX EY
          clear HX HY HJ HMX HMY HN3 HT
          go_wp2_with fail
          go_meet
          rw [EX, EY]
          have hA2 := (hA.setRow [.int .i64 i2, .int .i64 t2, .int .i64 k2, .int .i64 s2, .int .i64 n2, .string d2, .bool f2, .slice a2 l2 c2, .int .i64 m2] rfl).setRow_other (B := w.heap.size + 1) (i := 0) [.int .i64 i1, .int .i64 t1, .int .i64 k1, .int .i64 s1, .int .i64 n1, .string d1, .bool f1, .slice a1 l1 c1, .int .i64 m1] (by omega)
          have hB2 := (hB.setRow_other (B := w.heap.size) (i := 0) [.int .i64 i2, .int .i64 t2, .int .i64 k2, .int .i64 s2, .int .i64 n2, .string d2, .bool f2, .slice a2 l2 c2, .int .i64 m2] (by omega)).setRow [.int .i64 i1, .int .i64 t1, .int .i64 k1, .int .i64 s1, .int .i64 n1, .string d1, .bool f1, .slice a1 l1 c1, .int .i64 m1] rfl
          have hR2 := (hR.setRow_other (B := w.heap.size) (i := 0) [.int .i64 i2, .int .i64 t2, .int .i64 k2, .int .i64 s2, .int .i64 n2, .string d2, .bool f2, .slice a2 l2 c2, .int .i64 m2] (by omega)).setRow_other (B := w.heap.size + 1) (i := 0) [.int .i64 i1, .int .i64 t1, .int .i64 k1, .int .i64 s1, .int .i64 n1, .string d1, .bool f1, .slice a1 l1 c1, .int .i64 m1] (by omega)
          exact ⟨hA2, hB2, hR2, Bel.setRow (B := w.heap.size + 1) (i := 0) [.int .i64 i1, .int .i64 t1, .int .i64 k1, .int .i64 s1, .int .i64 n1, .string d1, .bool f1, .slice a1 l1 c1, .int .i64 m1] (Bel.setRow (B := w.heap.size) (i := 0) [.int .i64 i2, .int .i64 t2, .int .i64 k2, .int .i64 s2, .int .i64 n2, .string d2, .bool f2, .slice a2 l2 c2, .int .i64 m2] hbw2 (by omega)) (by omega)⟩
      case rest =>
        clear pf pl qf ql p0 p1 p2 p3 p4 p5 p6 p7 p8 q0 q1 q2 q3 q4 q5 q6 q7 q8 hA hB hR hbw2
        obtain ⟨hA, hB, hR, hbc⟩ := hcut
        obtain ⟨⟨i3, t3, k3, s3, n3, d3, f3, a3, l3, c3, m3⟩, ms3⟩ := X
        obtain ⟨⟨i4, t4, k4, s4, n4, d4, f4, a4, l4, c4, m4⟩, ms4⟩ := Y
        simp only at hA hB
        obtain ⟨⟨hl3, hr3, hi3, -⟩, ho3⟩ := HMX.out
        obtain ⟨⟨hl4, hr4, hi4, -⟩, ho4⟩ := HMY.out
        simp only at hl3 hr3 hi3 hl4 hr4 hi4
        subst hl3 hl4
        have HS3 := Lib.hid (ok_small ho3)
        have HS4 := Lib.hid (ok_small ho4)
        have HCL := Lib.hid (fun w' (h : Bel w w') => cloneMem_any _ _ _ w' (hr3.bel h) (flat_one (f := Mem.cells) (fun m u hu => by simp [Mem.cells] at hu; rcases hu with rfl | rfl | rfl <;> rfl) ms3) (by have := HS3.out.1; show ms3.length ≤ 1000; have : ms3.length ≤ 128 := HS3.out.1; omega))
        have HR4 := Lib.hid hr4
        have HI := Lib.hid (And.intro hi3 hi4)
        obtain ⟨n, Hn⟩ : ∃ n, Hid (n = ms3.length) := ⟨_, rfl⟩
        obtain ⟨n', Hn'⟩ : ∃ n, Hid (n = ms4.length) := ⟨_, rfl⟩
        rw [← Hn.out] at HCL hA
        rw [← Hn'.out] at HR4 hB
        clear hr3 hi3 hr4 hi4 ho3 ho4 HMX HMY HX HY
        have p0 := (hA).1.2 0 _ rfl
        have p1 := (hA).1.2 1 _ rfl
        have p2 := (hA).1.2 2 _ rfl
        have p3 := (hA).1.2 3 _ rfl
        have p4 := (hA).1.2 4 _ rfl
        have p5 := (hA).1.2 5 _ rfl
        have p6 := (hA).1.2 6 _ rfl
        have p7 := (hA).1.2 7 _ rfl
        have p8 := (hA).1.2 8 _ rfl
        have q0 := (hB).1.2 0 _ rfl
        have q1 := (hB).1.2 1 _ rfl
        have q2 := (hB).1.2 2 _ rfl
        have q3 := (hB).1.2 3 _ rfl
        have q4 := (hB).1.2 4 _ rfl
        have q5 := (hB).1.2 5 _ rfl
        have q6 := (hB).1.2 6 _ rfl
        have q7 := (hB).1.2 7 _ rfl
        have q8 := (hB).1.2 8 _ rfl
        have pl := hA.1.1
        have ql := hB.1.1
        obtain ⟨cl, Hcl⟩ : ∃ l : List Value, l = [.int .i64 ni, .int .i64 t3, .int .i64 k3, .int .i64 s3, .int .i64 n3, .string d3, .bool f3, .slice a3 n c3, .int .i64 nt] := ⟨_, rfl⟩
        have hO := AtF.new wc 27 cl
        rw [Hcl] at hO
        have hbo : Bel w (wc.alloc (.cells [.int .i64 ni, .int .i64 t3, .int .i64 k3, .int .i64 s3, .int .i64 n3, .string d3, .bool f3, .slice a3 n c3, .int .i64 nt].toArray 27)) := hbc.alloc _
        have hA1 := hA.alloc (.cells [.int .i64 ni, .int .i64 t3, .int .i64 k3, .int .i64 s3, .int .i64 n3, .string d3, .bool f3, .slice a3 n c3, .int .i64 nt].toArray 27)
        have hB1 := hB.alloc (.cells [.int .i64 ni, .int .i64 t3, .int .i64 k3, .int .i64 s3, .int .i64 n3, .string d3, .bool f3, .slice a3 n c3, .int .i64 nt].toArray 27)
        have hR1 := hR.alloc (.cells [.int .i64 ni, .int .i64 t3, .int .i64 k3, .int .i64 s3, .int .i64 n3, .string d3, .bool f3, .slice a3 n c3, .int .i64 nt].toArray 27)
        simp only [List.toArray] at hO hA1 hB1 hR1 hbo
        go_wp2_with fail
        refine (HCL.out _ hbo).mono ?_; rintro e w4 ⟨v', rfl, hown, hb4⟩
        replace hA1 := hA1.bel hb4
        replace hB1 := hB1.bel hb4
        replace hR1 := hR1.bel hb4
        replace hO := hO.bel hb4
        have hbw4 := hbo.trans hb4
        have hOs : w.heap.size + 1 + 1 < wc.heap.size := hR.1.1
        have hown1 : w4.ownsRow (wc.heap.size + 1) 59 3 v' n (mcells ms3) := by simpa [World.size_alloc] using hown
        clear hA hB hR hbo hown hb4 p0 p1 p2 p3 p4 p5 p6 p7 p8 q0 q1 q2 q3 q4 q5 q6 q7 q8 pl ql hbc
        generalize wc.heap.size = O at *
        obtain ⟨A', c', rfl⟩ := own_slice hown1
        have hO4 := hO.set 7 (by simp) (.slice A' n c')
        have hA4 := hA1.other (C := O) (by omega) 7 (.slice A' n c')
        have hB4 := hB1.other (C := O) (by omega) 7 (.slice A' n c')
        have hR4 := hR1.other (C := O) (by omega) 7 (.slice A' n c')
        have hown4 := own_other hown1 (p := ⟨O, 7, none⟩) (by simp) (.slice A' n c')
        have hbw5 : Bel w (w4.setCell ⟨O, 7, none⟩ (.slice A' n c')) := hbw4.setNew (by show w.heap.size ≤ O; omega) _
        have of7 := hO.2 7
        have ol := hO.1.1
        have o7 := hO.1.2 7 _ rfl
        have q7 := hB4.1.2 7 _ rfl
        clear hA1 hB1 hR1 hO hown1 hbw4
        obtain ⟨i0, hi, hz0, hz1, hz2⟩ := info_parts Try.infoMem
        have HAT := Lib.hid (fun k m (hk : ms4[k]? = some m) => mems_at (c := c4) (by rw [← Hn'.out]; exact HR4.out) hk)
        have HNB := Lib.hid (show 1 ≤ n3 ∧ n3 ≤ 128 ∧ n4 ≤ 128 - n3 ∧ 1 ≤ n4 from HN3.out)
        have HL3 : n ≤ 128 := by rw [Hn.out]; exact HS3.out.1
        have HL4 : n' ≤ 128 := by rw [Hn'.out]; exact HS4.out.1
        have HOF := Lib.hid (fun m (hm : m ∈ ms4) => HS4.out.2.1 m hm)
        go_wp2
        clear of7 ol o7 q7
        go_loopw [49] (fun iv wr => ∃ (i : Nat) (A : Option Addr) (cp : Nat), iv = .int .i64 i ∧ i ≤ n' ∧ wr.ownsRow (O + 1) 59 3 (.slice A (n + i) cp) (n + i) (mcells (ms3 ++ shift n3 (ms4.take i))) ∧ AtF wr O [.int .i64 ni, .int .i64 t3, .int .i64 k3, .int .i64 s3, .int .i64 n3, .string d3, .bool f3, .slice A (n + i) cp, .int .i64 nt] ∧ AtF wr w.heap.size [.int .i64 i3, .int .i64 t3, .int .i64 k3, .int .i64 s3, .int .i64 n3, .string d3, .bool f3, .slice a3 n c3, .int .i64 m3] ∧ AtF wr (w.heap.size + 1) [.int .i64 i4, .int .i64 t4, .int .i64 k4, .int .i64 s4, .int .i64 n4, .string d4, .bool f4, .slice a4 n' c4, .int .i64 m4] ∧ AtF wr (w.heap.size + 1 + 1) [.int .i64 0, .int .i64 0, .int .i64 0, .int .i64 0, .int .i64 0, .string ⟨#[]⟩, .bool false, .slice none 0 0, .int .i64 0] ∧ Bel w wr) (fun iv _ => n' - (intOf iv).toNat)
        case atStart => exact ⟨0, A', c', rfl, by omega, by simpa [shift] using hown4, hO4, hA4, hB4, hR4, hbw5⟩
        case round =>
          clear hown4 hO4 hA4 hB4 hR4 hbw5
          obtain ⟨i, A, cp, rfl, p1, hown, hO, hA, hB, hR, hbr⟩ := hrel
          have a4 := hA.1.2 4 _ rfl
          have al := hA.1.1
          have o7 := hO.1.2 7 _ rfl
          have ol := hO.1.1
          have of7 := hO.2 7
          by_cases hlt : i < n'
          · have i1 : (i : Int) < (n' : Int) := by omega
            obtain ⟨x, hx⟩ : ∃ x, ms4[i]? = some x := ⟨ms4[i]'(by have := Hn'.out; omega), List.getElem?_eq_getElem _⟩
            obtain ⟨b, o, rfl, hlb, hrow⟩ := HAT.out i x hx
            have hrow := hrow.bel hbr hlb
            have d0 := hrow.cell 0 rfl
            have d1 := hrow.cell 1 rfl
            have d2 := hrow.cell 2 rfl
            rw [Nat.add_zero] at d0
            have HX := Lib.hid hx
            obtain ⟨b0, b1⟩ := HOF.out x (List.mem_of_getElem? hx)
            obtain ⟨b2, b3, b4, b5⟩ := HNB.out
            have hbs := hbr.size
            have hlw : b < wr.heap.size := by omega
            clear hx hrow
            have hne := own_ne hown (k := O) (.inl (by omega))
            have hneA := own_ne hown (k := w.heap.size) (.inl (by omega))
            have hneB := own_ne hown (k := w.heap.size + 1) (.inl (by omega))
            have hneR := own_ne hown (k := w.heap.size + 1 + 1) (.inl (by omega))
            have bw : -9223372036854775808 ≤ x.off + n3 ∧ x.off + n3 < 9223372036854775808 := by omega
            go_wp2_with (at_builtin; go_must (refine wpList_append_own_at _ rfl _ _ 25 rfl (O + 1) 59 i0 _ 3 24 Try.underlying25 hi hz0 hz1 hz2 rfl (by omega) (.slice A (n + i) cp) _ _ rfl ((hown.alloc _).alloc _) ⟨wr.heap.size + 1, 0, none⟩ 1 1 (Mem.cells ⟨x.id, x.off + n3, x.cnt⟩) rfl rfl (World.news_of_block (cs := #[.int .i64 x.id, .int .i64 (x.off + n3), .int .i64 x.cnt]) (t := 59) (fr := (0, 0)) (heap_new_at (by simp))) (fun u hu => by simp [Mem.cells] at hu; rcases hu with rfl | rfl | rfl <;> rfl) (by unfold maxLen; omega) (by omega) (by simp; omega) ?_); intro v' w3 hown' hg' _ hloc; obtain ⟨gn, cn, hvn, _, _⟩ := hown'.form (by omega); subst hvn; have hO3 := ((hO.alloc _).alloc _).grown hg' (Ne.symm hne); have og := hO3.2 7; have ok := hO3.1.1; have oc := hO3.1.2 7 _ rfl)
            have hA3 := ((hA.alloc _).alloc _).grown hg' (Ne.symm hneA)
            have hB3 := ((hB.alloc _).alloc _).grown hg' (Ne.symm hneB)
            have hR3 := ((hR.alloc _).alloc _).grown hg' (Ne.symm hneR)
            have hbw3 := bel_own ((hbr.alloc _).alloc _) ((hown.alloc _).alloc _) hg' (by omega)
            have hown5 := own_other hown' (p := ⟨O, 7, none⟩) (by simp) (.slice (some ⟨gn, 0, none⟩) (n + i + 1) cn)
            have hO5 := hO3.set 7 (by simp) (.slice (some ⟨gn, 0, none⟩) (n + i + 1) cn)
            have hA5 := hA3.other (C := O) (by omega) 7 (.slice (some ⟨gn, 0, none⟩) (n + i + 1) cn)
            have hB5 := hB3.other (C := O) (by omega) 7 (.slice (some ⟨gn, 0, none⟩) (n + i + 1) cn)
            have hR5 := hR3.other (C := O) (by omega) 7 (.slice (some ⟨gn, 0, none⟩) (n + i + 1) cn)
            have hbw5 := hbw3.setNew (p := ⟨O, 7, none⟩) (by show w.heap.size ≤ O; omega) (.slice (some ⟨gn, 0, none⟩) (n + i + 1) cn)
            have HTK := Lib.hid (show mcells (ms3 ++ shift n3 (ms4.take (i + 1))) = mcells (ms3 ++ shift n3 (ms4.take i)) ++ Mem.cells ⟨x.id, x.off + n3, x.cnt⟩ from by
              rw [List.take_add_one, HX.out]; simp [shift, mcells])
            go_roundw
            case rel => exact ⟨i + 1, _, _, by go_num, by omega, by rw [HTK.out]; exact hown5, hO5, hA5, hB5, hR5, hbw5⟩
            case measure => simp [intOf]; omega
          · obtain rfl : i = n' := by omega
            have jk : decide ((i : Int) < (i : Int)) = false := by simp
            clear o7 of7
            have o0 := (hO).1.2 0 _ rfl
            have o1 := (hO).1.2 1 _ rfl
            have o2 := (hO).1.2 2 _ rfl
            have o3 := (hO).1.2 3 _ rfl
            have o4 := (hO).1.2 4 _ rfl
            have o5 := (hO).1.2 5 _ rfl
            have o6 := (hO).1.2 6 _ rfl
            have o7 := (hO).1.2 7 _ rfl
            have o8 := (hO).1.2 8 _ rfl
            have of := hO.2
            have q4 := hB.1.2 4 _ rfl
            have q5 := hB.1.2 5 _ rfl
            have ql := hB.1.1
            have r0 := (hR).1.2 0 _ rfl
            have r1 := (hR).1.2 1 _ rfl
            have r2 := (hR).1.2 2 _ rfl
            have r3 := (hR).1.2 3 _ rfl
            have r4 := (hR).1.2 4 _ rfl
            have r5 := (hR).1.2 5 _ rfl
            have r6 := (hR).1.2 6 _ rfl
            have r7 := (hR).1.2 7 _ rfl
            have r8 := (hR).1.2 8 _ rfl
            have rf := hR.2
            have rl := hR.1.1
            obtain ⟨b2, b3, b4, b5⟩ := HNB.out
            have hds : d3.size + d4.size ≤ maxLen := by
              have h1 : d3.size ≤ 1024 := HS3.out.2.2
              have h2 : d4.size ≤ 1024 := HS4.out.2.2
              unfold maxLen; omega
            have hds2 : ¬ 9223372036854775807 < d3.size + d4.size := by unfold maxLen at hds; omega
            have HM : Hid (J.ms = ms3 ++ shift n3 ms4) := by show _ = _; rw [HJ.out]; rfl
            have HJA : Hid (J.at A cp = ⟨ni, t3, k3, s3, n3 + n4, d3 ++ d4, f3, A, n + i, cp, nt⟩) := by
              show _ = _
              obtain ⟨g1, g2, g3⟩ := HT.out
              have e1 : ni = min i1 i2 := by rw [Hni.out]; split <;> omega
              have e2 : nt = min m1 m2 := by rw [Hnt.out]; split <;> omega
              have e3 : (ms3 ++ shift n3 ms4).length = n + i := by rw [List.length_append, Hn.out, Hn'.out]; simp [shift]
              rw [HJ.out]
              show (⟨min i1 i2, t1, k1, s3, n3 + n4, d3 ++ d4, f1, A, (ms3 ++ shift n3 ms4).length, cp, min m1 m2⟩ : Bun) = _
              rw [e1, e2, e3, g1, g2, g3]
            have hR2 := ((hR.other (C := O) (by omega) 4 (.int .i64 (n3 + n4))).other (C := O) (by omega) 5 (.string (d3 ++ d4))).setRow [.int .i64 ni, .int .i64 t3, .int .i64 k3, .int .i64 s3, .int .i64 (n3 + n4), .string (d3 ++ d4), .bool f3, .slice A (n + i) cp, .int .i64 nt] rfl
            have hX := setRow_own (B := w.heap.size + 1 + 1) (i := 0) [.int .i64 ni, .int .i64 t3, .int .i64 k3, .int .i64 s3, .int .i64 (n3 + n4), .string (d3 ++ d4), .bool f3, .slice A (n + i) cp, .int .i64 nt] (own_other (own_other hown (p := ⟨O, 4, none⟩) (by simp) (.int .i64 (n3 + n4))) (p := ⟨O, 5, none⟩) (by simp) (.string (d3 ++ d4))) (own_ne hown (.inl (by omega)))
            have hZ : Zb (setRow ((wr.setCell ⟨O, 4, none⟩ (.int .i64 (n3 + n4))).setCell ⟨O, 5, none⟩ (.string (d3 ++ d4))) (w.heap.size + 1 + 1) 0 [.int .i64 ni, .int .i64 t3, .int .i64 k3, .int .i64 s3, .int .i64 (n3 + n4), .string (d3 ++ d4), .bool f3, .slice A (n + i) cp, .int .i64 nt]) w.heap.size J A cp := by
              have e3 : J.ms.length = n + i := by rw [HM.out, List.length_append, Hn.out, Hn'.out]; simp [shift]
              have e4 : ms4.take i = ms4 := List.take_of_length_le (by rw [← Hn'.out]; exact Nat.le_refl _)
              rw [e4] at hX
              refine ⟨⟨rfl, ?_, ?_, ?_⟩, ?_⟩
              · show Rd _ (.slice A J.ms.length cp) 3 J.ms.length (mcells J.ms)
                rw [e3, HM.out]
                exact Rd.own hX
              · intro m hm
                rw [HM.out, List.mem_append] at hm
                rcases hm with hm | hm
                · exact HI.out.1 m hm
                · unfold shift at hm
                  rw [List.mem_map] at hm
                  obtain ⟨z, hz, rfl⟩ := hm
                  exact HI.out.2 z hz
              · rw [HJA.out]
                show (d3 ++ d4).size ≤ maxLen
                rw [ByteArray.size_append]; exact hds
              · intro k hk
                rw [e3] at hk
                have := (hown.lt k hk).1
                omega
            have hbz := Bel.setRow (B := w.heap.size + 1 + 1) (i := 0) [.int .i64 ni, .int .i64 t3, .int .i64 k3, .int .i64 s3, .int .i64 (n3 + n4), .string (d3 ++ d4), .bool f3, .slice A (n + i) cp, .int .i64 nt] ((hbr.setNew (p := ⟨O, 4, none⟩) (by show w.heap.size ≤ O; omega) (.int .i64 (n3 + n4))).setNew (p := ⟨O, 5, none⟩) (by show w.heap.size ≤ O; omega) (.string (d3 ++ d4))) (by omega)
            have HZZ := Lib.hid hZ
            clear hX hZ
            go_wp2
            clear r0 r1 r2 r3 r4 r5 r6 r7 r8
            have r0 := (hR2).1.2 0 _ rfl
            have r1 := (hR2).1.2 1 _ rfl
            have r2 := (hR2).1.2 2 _ rfl
            have r3 := (hR2).1.2 3 _ rfl
            have r4 := (hR2).1.2 4 _ rfl
            have r5 := (hR2).1.2 5 _ rfl
            have r6 := (hR2).1.2 6 _ rfl
            have r7 := (hR2).1.2 7 _ rfl
            have r8 := (hR2).1.2 8 _ rfl
            exact bodyPost_ret (v := .agg #[.int .i64 ni, .int .i64 t3, .int .i64 k3, .int .i64 s3, .int .i64 (n3 + n4), .string (d3 ++ d4), .bool f3, .slice A (n + i) cp, .int .i64 nt]) (by simp only [setRow] at r0 r1 r2 r3 r4 r5 r6 r7 r8; simp [results, Try.results17, go_sem, r0, r1, r2, r3, r4, r5, r6, r7, r8]) rfl ⟨A, cp, by rw [HJA.out], HZZ.out, hbz⟩
    · have HF := Lib.hid (HZ.out (.inr hc))
      have hcb : (cu != how) = true := by simpa using hc
      obtain ⟨⟨i1, t1, k1, s1, n1, d1, f1, a1, l1, c1, m1⟩, ms1⟩ := x
      obtain ⟨⟨i2, t2, k2, s2, n2, d2, f2, a2, l2, c2, m2⟩, ms2⟩ := y
      clear HZ HN HJ hx hy h0 hc HBX
      simp only at HC ⊢
      have hR : AtF (((w.alloc (.cells #[.int .i64 i1, .int .i64 t1, .int .i64 k1, .int .i64 s1, .int .i64 n1, .string d1, .bool f1, .slice a1 l1 c1, .int .i64 m1] 27)).alloc (.cells #[.int .i64 i2, .int .i64 t2, .int .i64 k2, .int .i64 s2, .int .i64 n2, .string d2, .bool f2, .slice a2 l2 c2, .int .i64 m2] 27)).alloc (.cells #[.int .i64 0, .int .i64 0, .int .i64 0, .int .i64 0, .int .i64 0, .string ⟨#[]⟩, .bool false, .slice none 0 0, .int .i64 0] 27)) (w.heap.size + 1 + 1) [.int .i64 0, .int .i64 0, .int .i64 0, .int .i64 0, .int .i64 0, .string ⟨#[]⟩, .bool false, .slice none 0 0, .int .i64 0] := AtF.new_at (by simp) _ _
      go_enter Try.func17, Try.ntmps17
      go_wp2_with fail
      refine (HC.out _ (by repeat (first | (with_reducible exact Bel.refl _) | (with_reducible assumption) | (with_reducible refine Bel.drewN ?_ _) | (with_reducible refine Bel.drew ?_) | (with_reducible refine Bel.alloc ?_ _) | (with_reducible refine Bel.setNew ?_ ?_ _) | (with_reducible refine Bel.trans ?_ (by assumption)) | (focus (simp; done)) | (focus (simp; omega))))).mono ?_; rintro e w1 ⟨rfl, hb1⟩
      have hR1 := hR.bel hb1
      have r0 := (hR1).1.2 0 _ rfl
      have r1 := (hR1).1.2 1 _ rfl
      have r2 := (hR1).1.2 2 _ rfl
      have r3 := (hR1).1.2 3 _ rfl
      have r4 := (hR1).1.2 4 _ rfl
      have r5 := (hR1).1.2 5 _ rfl
      have r6 := (hR1).1.2 6 _ rfl
      have r7 := (hR1).1.2 7 _ rfl
      have r8 := (hR1).1.2 8 _ rfl
      have rf := hR1.2
      have rl := hR1.1.1
      have hbw1 : Bel w w1 := (by repeat (first | (with_reducible exact Bel.refl _) | (with_reducible assumption) | (with_reducible refine Bel.drewN ?_ _) | (with_reducible refine Bel.drew ?_) | (with_reducible refine Bel.alloc ?_ _) | (with_reducible refine Bel.setNew ?_ ?_ _) | (with_reducible refine Bel.trans ?_ (by assumption)) | (focus (simp; done)) | (focus (simp; omega))))
      clear hb1 hR
      go_wp2
      have hR2 := hR1.setRow [.int .i64 0, .int .i64 0, .int .i64 0, .int .i64 0, .int .i64 0, .string ⟨#[]⟩, .bool false, .slice none 0 0, .int .i64 0] rfl
      clear r0 r1 r2 r3 r4 r5 r6 r7 r8
      have r0 := (hR2).1.2 0 _ rfl
      have r1 := (hR2).1.2 1 _ rfl
      have r2 := (hR2).1.2 2 _ rfl
      have r3 := (hR2).1.2 3 _ rfl
      have r4 := (hR2).1.2 4 _ rfl
      have r5 := (hR2).1.2 5 _ rfl
      have r6 := (hR2).1.2 6 _ rfl
      have r7 := (hR2).1.2 7 _ rfl
      have r8 := (hR2).1.2 8 _ rfl
      exact bodyPost_ret (v := .agg #[.int .i64 0, .int .i64 0, .int .i64 0, .int .i64 0, .int .i64 0, .string ⟨#[]⟩, .bool false, .slice none 0 0, .int .i64 0]) (by simp only [setRow] at r0 r1 r2 r3 r4 r5 r6 r7 r8; simp [results, Try.results17, go_sem, r0, r1, r2, r3, r4, r5, r6, r7, r8]) rfl ⟨none, 0, by rw [HF.out]; rfl, by rw [HF.out]; exact zb_zero _ _, Bel.setRow (B := w.heap.size + 1 + 1) (i := 0) [.int .i64 0, .int .i64 0, .int .i64 0, .int .i64 0, .int .i64 0, .string ⟨#[]⟩, .bool false, .slice none 0 0, .int .i64 0] hbw1 (by omega)⟩
end Go.Proofs.Ytbijfmpmgmfpgaa
