/- The walk of MergeOrder. -/
import Derived.Test.YtbijfmpmgmfpgaaMix
import Derived.Test.YtbijfmpmgmfpgaaAwk25
import Derived.Deep.DeepCutAuto
namespace Go.Proofs.Ytbijfmpmgmfpgaa
open Go.RowKit Go.Maps
set_option linter.unusedSimpArgs false

/-- The block of a bunch's members; of a pointer. -/
def blkV : Value → Nat
  | .pointer (some a) => a.block
  | .agg cs => ((cs.getD 7 undef).ownBlock).getD 0
  | _ => 0
def mbV (u : Bu) (A : Nat) : Value := .agg #[.int .i64 u.id, .int .i64 u.ten, .int .i64 u.knd, .int .i64 u.sec, .int .i64 u.cnt, .string u.dat, .bool u.fua, .slice (some ⟨A, 0, none⟩) u.ms.length 1, .int .i64 u.tim]
def MbF (u : Bu) (v : Value) (w : World) : Prop := ∃ A, v = mbV u A ∧ Mems w (u.at (some ⟨A, 0, none⟩) 1) u.ms ∧ A < w.heap.size
def PtF (n0 : Nat) (v : Value) (w : World) : Prop := ∃ B, v = .pointer (some ⟨B, 0, none⟩) ∧ AtF w B [.int .i64 0, .int .i64 0, .int .i64 0, .int .i64 0, .int .i64 0, .string ⟨#[]⟩, .bool false, .slice none 0 0, .int .i64 0] ∧ n0 ≤ B
def MorF (n0 : Nat) (a b c : Bu) (j : Nat) (v : Value) (w : World) : Prop := if j = 5 then MbF a v w else if j = 13 then MbF b v w else if j = 23 then MbF c v w else PtF n0 v w
theorem MorF.bel {n0 : Nat} {a b c : Bu} {j : Nat} {v : Value} {w w' : World} (h : MorF n0 a b c j v w) (hb : Bel w w') : MorF n0 a b c j v w' := by
  have hm : ∀ u, MbF u v w → MbF u v w' := fun u ⟨A, h1, h2, h3⟩ => ⟨A, h1, h2.bel hb, Nat.lt_of_lt_of_le h3 hb.size⟩
  have hp : PtF n0 v w → PtF n0 v w' := fun ⟨B, h1, h2, h3⟩ => ⟨B, h1, h2.bel hb, h3⟩
  unfold MorF at *
  split
  · rename_i e; rw [if_pos e] at h; exact hm a h
  · rename_i e1; rw [if_neg e1] at h
    split
    · rename_i e; rw [if_pos e] at h; exact hm b h
    · rename_i e2; rw [if_neg e2] at h
      split
      · rename_i e; rw [if_pos e] at h; exact hm c h
      · rename_i e; rw [if_neg e] at h; exact hp h
theorem MorF.blk {n0 : Nat} {a b c : Bu} {j : Nat} {v : Value} {w : World} (h : MorF n0 a b c j v w) : blkV v < w.heap.size := by
  have hm : ∀ u, MbF u v w → blkV v < w.heap.size := fun u ⟨A, h1, h2, h3⟩ => by subst h1; exact h3
  have hp : PtF n0 v w → blkV v < w.heap.size := fun ⟨B, h1, h2, _⟩ => by subst h1; exact h2.1.1
  unfold MorF at h
  split at h
  · exact hm a h
  · split at h
    · exact hm b h
    · split at h
      · exact hm c h
      · exact hp h

theorem mor_mem {W : World} {u : Bun} {ms : List Mem} {A B1 B2 B3 : Nat} {va vb vc : List Value} (h : Mems W u ms) (hA : u.mA = some ⟨A, 0, none⟩) (h1 : A ≠ B1) (h2 : A ≠ B2) (h3 : A ≠ B3) : Mems (setRow (setRow (setRow W B1 0 va) B2 0 vb) B3 0 vc) u ms := by
  refine ⟨h.len, ?_, h.ids, h.dl⟩
  refine ((h.rd.setRow va ?_).setRow vb ?_).setRow vc ?_ <;> (rw [hA]; simp [Value.ownBlock]; assumption)
theorem eff_enter {P : Program} {o : Oper} {a : Act} {w : World} {K : Value → World → Prop} (f : FuncId) {args : Array Value} (hr : (execOp a.eval o).run P w = .ok (.enter f args) w) (h : Calls P f args w (fun e w'' => ∃ v, e = .returned v ∧ Bel w w'' ∧ K v w'')) : EffUpon P w K ((execOp a.eval o).run P w) := by
  rw [hr]; exact ⟨Bel.refl _, h⟩
theorem eff_value {P : Program} {o : Oper} {a : Act} {w w' : World} {K : Value → World → Prop} {v : Value} (hr : (execOp a.eval o).run P w = .ok (.value v) w') (hb : Bel w w') (hk : K v w') : EffUpon P w K ((execOp a.eval o).run P w) := by
  rw [hr]; exact ⟨hb, hk⟩

set_option maxRecDepth 100000 in
set_option maxHeartbeats 8000000 in
theorem mergeOrder_walk (n x y z kind : Int) (w : World) (_ : IsInt n) (_ : IsInt x) (_ : IsInt y) (_ : IsInt z) (_ : IsInt kind) :
    Calls Try.prog 3 #[.int .i64 n, .int .i64 x, .int .i64 y, .int .i64 z, .int .i64 kind] w fun e w' => e = .returned (.bool true) ∧ Bel w w' := by
  have hk1 := rnd_lo kind 2
  have hk2 := rnd_hi kind 2 (by omega)
  have hp1 := rnd_lo x 3
  have hp2 := rnd_hi x 3 (by omega)
  have hq1 := rnd_lo y 3
  have hq2 := rnd_hi y 3 (by omega)
  have hr1 := rnd_lo z 3
  have hr2 := rnd_hi z 3 (by omega)
  have hs1 := rnd_lo n 20
  have hs2 := rnd_hi n 20 (by omega)
  have HR1 := Lib.hid (fun w' => round_any kind 2 w' (by omega))
  have HR2 := Lib.hid (fun w' => round_any x 3 w' (by omega))
  have HR3 := Lib.hid (fun w' => round_any y 3 w' (by omega))
  have HR4 := Lib.hid (fun w' => round_any z 3 w' (by omega))
  have HR5 := Lib.hid (fun w' => round_any n 20 w' (by omega))
  generalize rnd kind 2 = kr at *
  generalize rnd x 3 = pr at *
  generalize rnd y 3 = qr at *
  generalize rnd z 3 = rr at *
  generalize rnd n 20 = s at *
  obtain ⟨k, Hk⟩ : ∃ k, Hid (k = 1 + kr) := ⟨_, rfl⟩
  obtain ⟨p, Hp⟩ : ∃ k, Hid (k = 1 + pr) := ⟨_, rfl⟩
  obtain ⟨q, Hq⟩ : ∃ k, Hid (k = 1 + qr) := ⟨_, rfl⟩
  obtain ⟨r, Hr⟩ : ∃ k, Hid (k = 1 + rr) := ⟨_, rfl⟩
  have ek : 1 + kr = k := Hk.out.symm
  have ep : 1 + pr = p := Hp.out.symm
  have eq : 1 + qr = q := Hq.out.symm
  have er : 1 + rr = r := Hr.out.symm
  have hkk : k = 1 ∨ k = 2 := by omega
  have bp : 1 ≤ p ∧ p ≤ 3 := by omega
  have bq : 1 ≤ q ∧ q ≤ 3 := by omega
  have br : 1 ≤ r ∧ r ≤ 3 := by omega
  have HD1 : Hid (∀ w', Calls Try.prog 15 #[.int .i64 x, .int .i64 p] w' fun e w2 => ∃ d : ByteArray, e = .returned (.string d) ∧ (d.size : Int) = p * 8 ∧ Bel w' w2) := Lib.hid (fun w' => by
    have h := data_any x p.toNat w' (by omega) (by omega)
    rw [show ((p.toNat : Nat) : Int) = p by omega] at h
    exact h.mono fun e w2 ⟨h1, h2⟩ => ⟨_, h1, by rw [dataB_size]; omega, h2⟩)
  have HD2 : Hid (∀ w', Calls Try.prog 15 #[.int .i64 y, .int .i64 q] w' fun e w2 => ∃ d : ByteArray, e = .returned (.string d) ∧ (d.size : Int) = q * 8 ∧ Bel w' w2) := Lib.hid (fun w' => by
    have h := data_any y q.toNat w' (by omega) (by omega)
    rw [show ((q.toNat : Nat) : Int) = q by omega] at h
    exact h.mono fun e w2 ⟨h1, h2⟩ => ⟨_, h1, by rw [dataB_size]; omega, h2⟩)
  have HD3 : Hid (∀ w', Calls Try.prog 15 #[.int .i64 z, .int .i64 r] w' fun e w2 => ∃ d : ByteArray, e = .returned (.string d) ∧ (d.size : Int) = r * 8 ∧ Bel w' w2) := Lib.hid (fun w' => by
    have h := data_any z r.toNat w' (by omega) (by omega)
    rw [show ((r.toNat : Nat) : Int) = r by omega] at h
    exact h.mono fun e w2 ⟨h1, h2⟩ => ⟨_, h1, by rw [dataB_size]; omega, h2⟩)
  clear hk1 hk2 hp1 hp2 hq1 hq2 hr1 hr2
  go_enter Try.func3, Try.ntmps3
  go_wp2_with fail
  refine (HR1.out _).mono ?_; rintro e w1 ⟨rfl, rfl⟩
  go_wp2_with fail
  refine (HR2.out _).mono ?_; rintro e w1 ⟨rfl, rfl⟩
  go_wp2_with fail
  refine (HR3.out _).mono ?_; rintro e w1 ⟨rfl, rfl⟩
  go_wp2_with fail
  refine (HR4.out _).mono ?_; rintro e w1 ⟨rfl, rfl⟩
  go_wp2_with fail
  refine (HR5.out _).mono ?_; rintro e w1 ⟨rfl, rfl⟩
  go_upto_if 39 with fail
  go_cut [39] (fun _ wx => ∃ d1 d2 d3 : ByteArray, ((k = 1 ∧ d1.size = 0) ∨ (k = 2 ∧ (d1.size : Int) = p * 8)) ∧ ((k = 1 ∧ d2.size = 0) ∨ (k = 2 ∧ (d2.size : Int) = q * 8)) ∧ ((k = 1 ∧ d3.size = 0) ∨ (k = 2 ∧ (d3.size : Int) = r * 8)) ∧ AtF wx w.heap.size [.string d1, .string d2, .string d3] ∧ Bel w wx)
  case first =>
    have hT := AtF.new w 23 [.string ⟨#[]⟩, .string ⟨#[]⟩, .string ⟨#[]⟩]
    have hbT : Bel w (w.alloc (.cells #[.string ⟨#[]⟩, .string ⟨#[]⟩, .string ⟨#[]⟩] 23)) := (by repeat (first | (with_reducible exact Bel.refl _) | (with_reducible assumption) | (with_reducible refine Bel.drewN ?_ _) | (with_reducible refine Bel.drew ?_) | (with_reducible refine Bel.alloc ?_ _) | (with_reducible refine Bel.setNew ?_ ?_ _) | (with_reducible refine Bel.trans ?_ (by assumption)) | (focus (simp; done)) | (focus (simp; omega))))
    simp only [List.toArray] at hT
    rcases hkk with hkk | hkk
    · have hkb : (k == 2) = false := by rw [hkk]; rfl
      have HKK := Lib.hid hkk
      clear hkk
      go_wp2_with fail
      go_meet
      exact ⟨⟨#[]⟩, ⟨#[]⟩, ⟨#[]⟩, .inl ⟨HKK.out, rfl⟩, .inl ⟨HKK.out, rfl⟩, .inl ⟨HKK.out, rfl⟩, hT, hbT⟩
    · have hkb : (k == 2) = true := by rw [hkk]; rfl
      have HKK := Lib.hid hkk
      clear hkk
      go_wp2_with fail
      refine (HD1.out _).mono ?_; rintro e w1 ⟨d1, rfl, z1, hb1⟩
      go_wp2_with fail
      refine (HD2.out _).mono ?_; rintro e w2 ⟨d2, rfl, z2, hb2⟩
      go_wp2_with fail
      refine (HD3.out _).mono ?_; rintro e w3 ⟨d3, rfl, z3, hb3⟩
      have hT3 := ((hT.bel hb1).bel hb2).bel hb3
      have t0 := hT3.1.2 0 _ rfl
      have t1 := hT3.1.2 1 _ rfl
      have t2 := hT3.1.2 2 _ rfl
      have tf := hT3.2
      have tl := hT3.1.1
      have hT4 := hT3.setRow [.string d1, .string d2, .string d3] rfl
      have hb4 := Bel.setRow (B := w.heap.size) (i := 0) [.string d1, .string d2, .string d3] (((hbT.trans hb1).trans hb2).trans hb3) (Nat.le_refl _)
      have HX := Lib.hid (And.intro hT4 hb4)
      clear hT4 hb4
      go_wp2_with fail
      go_meet
      exact ⟨d1, d2, d3, .inr ⟨HKK.out, z1⟩, .inr ⟨HKK.out, z2⟩, .inr ⟨HKK.out, z3⟩, HX.out.1, HX.out.2⟩
  case rest =>
    obtain ⟨d1, d2, d3, hd1, hd2, hd3, hT, hbc⟩ := hcut
    obtain ⟨p1, p2⟩ := bp
    obtain ⟨q1, q2⟩ := bq
    obtain ⟨r1, r2⟩ := br
    have hm1 : d1.size ≤ maxLen := by unfold maxLen; omega
    have hm2 : d2.size ≤ maxLen := by unfold maxLen; omega
    have hm3 : d3.size ≤ maxLen := by unfold maxLen; omega
    obtain ⟨a, Ha⟩ : ∃ a, Hid (a = mbU 1 0 k s d1 p) := ⟨_, rfl⟩
    obtain ⟨b, Hb⟩ : ∃ a, Hid (a = mbU 2 0 k (s + p) d2 q) := ⟨_, rfl⟩
    obtain ⟨c, Hc⟩ : ∃ a, Hid (a = mbU 3 0 k (s + p + q) d3 r) := ⟨_, rfl⟩
    have HNB1 : Hid (Nb a b) := Lib.hid (by rw [Ha.out, Hb.out]; exact mb_nb (by decide) hs1 p1 q1 (by omega) hd1 hd2)
    have HNB2 : Hid (Nb b c) := Lib.hid (by rw [Hb.out, Hc.out]; exact mb_nb (by decide) (by omega) q1 r1 (by omega) hd2 hd3)
    have HST : Hid (strU a c = true) := Lib.hid (by rw [Ha.out, Hc.out]; exact mb_str (by decide))
    have HMA : Hid (∀ w', Calls Try.prog 16 #[.int .i64 1, .int .i64 0, .int .i64 k, .int .i64 s, .string d1, .int .i64 p] w' fun e w2 => ∃ v, e = .returned v ∧ MbF a v w2 ∧ w'.heap.size ≤ blkV v ∧ Bel w' w2) := Lib.hid (fun w' => (memberF_any 1 0 k s d1 p w' (by unfold IsInt; omega) hm1).mono fun e w2 ⟨A, h0, h1, h2, h3⟩ => ⟨_, h1, ⟨A, by rw [Ha.out]; rfl, by rw [Ha.out]; exact h2, h2.rd.own_lt (by simp) rfl⟩, h0, h3⟩)
    have HMB : Hid (∀ w', Calls Try.prog 16 #[.int .i64 2, .int .i64 0, .int .i64 k, .int .i64 (s + p), .string d2, .int .i64 q] w' fun e w2 => ∃ v, e = .returned v ∧ MbF b v w2 ∧ w'.heap.size ≤ blkV v ∧ Bel w' w2) := Lib.hid (fun w' => (memberF_any 2 0 k (s + p) d2 q w' (by unfold IsInt; omega) hm2).mono fun e w2 ⟨A, h0, h1, h2, h3⟩ => ⟨_, h1, ⟨A, by rw [Hb.out]; rfl, by rw [Hb.out]; exact h2, h2.rd.own_lt (by simp) rfl⟩, h0, h3⟩)
    have HMC : Hid (∀ w', Calls Try.prog 16 #[.int .i64 3, .int .i64 0, .int .i64 k, .int .i64 (s + p + q), .string d3, .int .i64 r] w' fun e w2 => ∃ v, e = .returned v ∧ MbF c v w2 ∧ w'.heap.size ≤ blkV v ∧ Bel w' w2) := Lib.hid (fun w' => (memberF_any 3 0 k (s + p + q) d3 r w' (by unfold IsInt; omega) hm3).mono fun e w2 ⟨A, h0, h1, h2, h3⟩ => ⟨_, h1, ⟨A, by rw [Hc.out]; rfl, by rw [Hc.out]; exact h2, h2.rd.own_lt (by simp) rfl⟩, h0, h3⟩)
    obtain ⟨h3a, h3b, h3c⟩ := join_three HNB1.out HNB2.out HST.out
    obtain ⟨J1, HJ1⟩ : ∃ J, Hid (J = joinU a b 1) := ⟨_, rfl⟩
    obtain ⟨J2, HJ2⟩ : ∃ J, Hid (J = joinU b c 1) := ⟨_, rfl⟩
    obtain ⟨J3, HJ3⟩ : ∃ J, Hid (J = joinU c b 2) := ⟨_, rfl⟩
    rw [← HJ1.out] at h3a h3b h3c
    rw [← HJ2.out] at h3b
    rw [← HJ3.out] at h3c
    obtain ⟨ON, HON⟩ : ∃ J, Hid (J = joinU J1 c 1) := ⟨_, rfl⟩
    rw [← HON.out] at h3a h3b h3c
    have C1 := Lib.hid (fun A B w' hx hy => joinAt_any a b A B 1 1 1 w' hx hy)
    have C2 := Lib.hid (fun A B c' w' hx hy => joinAt_any J1 c A B c' 1 1 w' hx hy)
    have C3 := Lib.hid (fun A B w' hx hy => joinAt_any b c A B 1 1 1 w' hx hy)
    have C4 := Lib.hid (fun A B c' w' hx hy => joinAt_any a J2 A B 1 c' 1 w' hx hy)
    have C5 := Lib.hid (fun A B w' hx hy => joinAt_any c b A B 1 1 2 w' hx hy)
    have C6 := Lib.hid (fun A B c' w' hx hy => joinAt_any J3 a A B c' 1 2 w' hx hy)
    rw [← HJ1.out] at C1
    rw [← HON.out] at C2
    rw [← HJ2.out] at C3
    rw [h3b] at C4
    rw [← HJ3.out] at C5
    rw [h3c] at C6
    have CV := Lib.hid (fun A c' w' hx => validAt_any ON A c' w' hx)
    rw [h3a] at CV
    have CS := Lib.hid (fun A A' c' c'' w' h h' => sameBunch_any ON.id ON.ten ON.knd ON.sec ON.cnt ON.dat ON.fua ON.tim ON.ms A A' c' c'' w' h h')
    have HA4 := Lib.hid (fun w' => awake25_any w')
    clear h3a h3b h3c HJ1 HJ2 HJ3 HON HNB1 HNB2 HST
    have t0 := hT.1.2 0 _ rfl
    have t1 := hT.1.2 1 _ rfl
    have t2 := hT.1.2 2 _ rfl
    have rt0 := fun d os => cell_regrown t0 d os
    have rt1 := fun d os => cell_regrown t1 d os
    have rt2 := fun d os => cell_regrown t2 d os
    clear hd1 hd2 hd3 hm1 hm2 hm3 HD1 HD2 HD3 HR1 HR2 HR3 HR4 HR5 hkk ek ep eq er
    go_upto_region 7 with fail
    refine wp_region_st [5, 13, 23, 24, 25, 26] 27 (by kernel_rfl) (by kernel_rfl) ?_
    with_reducible refine st_sel [0, 1, 2, 3, 4, 6, 7, 8, 9, 10, 11, 12, 14, 15, 16, 17, 18, 19, 20, 21, 22] (by kernel_rfl) (by kernel_rfl) ?_
    simp only [picked, List.getElem?_cons_succ, List.getElem?_cons_zero, Option.toList_some, List.nil_append, List.cons_append, List.append_nil]
    try simp only [Act.put, List.setIfInBounds_toArray, List.set_cons_succ, List.set_cons_zero]
    repeat (go_big_quiet_step (fail))
    with_reducible refine wpQuiet_nil ?_
    refine st_mix (wb := wc) blkV (MorF w.heap.size a b c) (by kernel_rfl) (by kernel_rfl) (by decide) (by repeat (first | (with_reducible exact Bel.refl _) | (with_reducible assumption) | (with_reducible refine Bel.drewN ?_ _) | (with_reducible refine Bel.drew ?_) | (with_reducible refine Bel.alloc ?_ _) | (with_reducible refine Bel.setNew ?_ ?_ _) | (with_reducible refine Bel.trans ?_ (by assumption)) | (focus (simp; done)) | (focus (simp; omega)))) (by kernel_rfl) (fun j v w w' h hb => h.bel hb) (fun j v w h => h.blk) ?_ ?_
    · intro j hj o ho W hW
      simp only [List.mem_cons, List.not_mem_nil, or_false] at hj
      rcases hj with rfl | rfl | rfl | rfl | rfl | rfl
      · simp only [List.getElem?_toArray, List.getElem?_cons_succ, List.getElem?_cons_zero, Option.some.injEq] at ho
        subst ho
        refine ⟨rfl, eff_enter 16 (by simp [go_sem]) ((HMA.out W).mono fun e w2 ⟨v, g1, g2, g3, g4⟩ => ⟨v, g1, g4, by unfold MorF; rw [if_pos rfl]; exact g2, g3⟩)⟩
      · simp only [List.getElem?_toArray, List.getElem?_cons_succ, List.getElem?_cons_zero, Option.some.injEq] at ho
        subst ho
        refine ⟨rfl, eff_enter 16 (by simp [go_sem]) ((HMB.out W).mono fun e w2 ⟨v, g1, g2, g3, g4⟩ => ⟨v, g1, g4, by unfold MorF; rw [if_neg (by decide), if_pos rfl]; exact g2, g3⟩)⟩
      · simp only [List.getElem?_toArray, List.getElem?_cons_succ, List.getElem?_cons_zero, Option.some.injEq] at ho
        subst ho
        refine ⟨rfl, eff_enter 16 (by simp [go_sem]) ((HMC.out W).mono fun e w2 ⟨v, g1, g2, g3, g4⟩ => ⟨v, g1, g4, by unfold MorF; rw [if_neg (by decide), if_neg (by decide), if_pos rfl]; exact g2, g3⟩)⟩
      all_goals
        simp only [List.getElem?_toArray, List.getElem?_cons_succ, List.getElem?_cons_zero, Option.some.injEq] at ho
        subst ho
        refine ⟨rfl, eff_value (v := .pointer (some ⟨W.heap.size, 0, none⟩)) (w' := W.alloc (.cells #[.int .i64 0, .int .i64 0, .int .i64 0, .int .i64 0, .int .i64 0, .string ⟨#[]⟩, .bool false, .slice none 0 0, .int .i64 0] 27)) (by simp [go_sem]) ((Bel.refl _).alloc _) ⟨?_, Nat.le_refl _⟩⟩
        unfold MorF
        rw [if_neg (by decide), if_neg (by decide), if_neg (by decide)]
        exact ⟨W.heap.size, rfl, AtF.new W 27 [.int .i64 0, .int .i64 0, .int .i64 0, .int .i64 0, .int .i64 0, .string ⟨#[]⟩, .bool false, .slice none 0 0, .int .i64 0], Nat.le_trans hbc.size hW.size⟩
    · intro f W hW hf hd
      have f5 := hf 5 (by decide)
      have f13 := hf 13 (by decide)
      have f23 := hf 23 (by decide)
      have f24 := hf 24 (by decide)
      have f25 := hf 25 (by decide)
      have f26 := hf 26 (by decide)
      unfold MorF at f5 f13 f23 f24 f25 f26
      rw [if_pos rfl] at f5
      rw [if_neg (by decide), if_pos rfl] at f13
      rw [if_neg (by decide), if_neg (by decide), if_pos rfl] at f23
      rw [if_neg (by decide), if_neg (by decide), if_neg (by decide)] at f24 f25 f26
      obtain ⟨A1, v1, m1, _⟩ := f5
      obtain ⟨A2, v2, m2, _⟩ := f13
      obtain ⟨A3, v3, m3, _⟩ := f23
      obtain ⟨B1, v4, g1, o1⟩ := f24
      obtain ⟨B2, v5, g2, o2⟩ := f25
      obtain ⟨B3, v6, g3, o3⟩ := f26
      have n1 := hd 24 (by decide) 25 (by decide) (by decide)
      have n2 := hd 24 (by decide) 26 (by decide) (by decide)
      have n3 := hd 25 (by decide) 26 (by decide) (by decide)
      have n4 := hd 5 (by decide) 24 (by decide) (by decide)
      have n5 := hd 5 (by decide) 25 (by decide) (by decide)
      have n6 := hd 5 (by decide) 26 (by decide) (by decide)
      have n7 := hd 13 (by decide) 24 (by decide) (by decide)
      have n8 := hd 13 (by decide) 25 (by decide) (by decide)
      have n9 := hd 13 (by decide) 26 (by decide) (by decide)
      have n10 := hd 23 (by decide) 24 (by decide) (by decide)
      have n11 := hd 23 (by decide) 25 (by decide) (by decide)
      have n12 := hd 23 (by decide) 26 (by decide) (by decide)
      rw [v4, v5] at n1
      rw [v4, v6] at n2
      rw [v5, v6] at n3
      rw [v1, v4] at n4
      rw [v1, v5] at n5
      rw [v1, v6] at n6
      rw [v2, v4] at n7
      rw [v2, v5] at n8
      rw [v2, v6] at n9
      rw [v3, v4] at n10
      rw [v3, v5] at n11
      rw [v3, v6] at n12
      replace n1 : B1 ≠ B2 := n1
      replace n2 : B1 ≠ B3 := n2
      replace n3 : B2 ≠ B3 := n3
      replace n4 : A1 ≠ B1 := n4
      replace n5 : A1 ≠ B2 := n5
      replace n6 : A1 ≠ B3 := n6
      replace n7 : A2 ≠ B1 := n7
      replace n8 : A2 ≠ B2 := n8
      replace n9 : A2 ≠ B3 := n9
      replace n10 : A3 ≠ B1 := n10
      replace n11 : A3 ≠ B2 := n11
      replace n12 : A3 ≠ B3 := n12
      refine st_end (by kernel_rfl) ?_
      simp only [actOf, List.map_cons, List.map_nil, List.foldl_cons, List.foldl_nil, List.getElem?_toArray, List.getElem?_cons_succ, List.getElem?_cons_zero, Option.bind_some, Act.put, List.setIfInBounds_toArray, List.set_cons_succ, List.set_cons_zero, List.drop_succ_cons, List.drop_zero, v1, v2, v3, v4, v5, v6]
      obtain ⟨i1, a1, k1, s1, c1, e1, f1, l1, y1⟩ := a
      obtain ⟨i2, a2, k2, s2, c2, e2, f2, l2, y2⟩ := b
      obtain ⟨i3, a3, k3, s3, c3, e3, f3, l3, y3⟩ := c
      obtain ⟨i4, a4, k4, s4, c4, e4, f4, l4, y4⟩ := J1
      obtain ⟨i5, a5, k5, s5, c5, e5, f5, l5, y5⟩ := J2
      obtain ⟨i6, a6, k6, s6, c6, e6, f6, l6, y6⟩ := J3
      obtain ⟨i7, a7, k7, s7, c7, e7, f7, l7, y7⟩ := ON
      simp only [mbV]
      simp only [Bu.at] at C1 C2 C3 C4 C5 C6 CV CS m1 m2 m3
      clear HMA HMB HMC Ha Hb Hc hf hd v1 v2 v3 v4 v5 v6 rt0 rt1 rt2 t0 t1 t2
      have HPQR : Hid (AtF (setRow (setRow (setRow W B1 0 [.int .i64 i1, .int .i64 a1, .int .i64 k1, .int .i64 s1, .int .i64 c1, .string e1, .bool f1, .slice (some ⟨A1, 0, none⟩) l1.length 1, .int .i64 y1]) B2 0 [.int .i64 i2, .int .i64 a2, .int .i64 k2, .int .i64 s2, .int .i64 c2, .string e2, .bool f2, .slice (some ⟨A2, 0, none⟩) l2.length 1, .int .i64 y2]) B3 0 [.int .i64 i3, .int .i64 a3, .int .i64 k3, .int .i64 s3, .int .i64 c3, .string e3, .bool f3, .slice (some ⟨A3, 0, none⟩) l3.length 1, .int .i64 y3]) B1 [.int .i64 i1, .int .i64 a1, .int .i64 k1, .int .i64 s1, .int .i64 c1, .string e1, .bool f1, .slice (some ⟨A1, 0, none⟩) l1.length 1, .int .i64 y1] ∧ AtF (setRow (setRow (setRow W B1 0 [.int .i64 i1, .int .i64 a1, .int .i64 k1, .int .i64 s1, .int .i64 c1, .string e1, .bool f1, .slice (some ⟨A1, 0, none⟩) l1.length 1, .int .i64 y1]) B2 0 [.int .i64 i2, .int .i64 a2, .int .i64 k2, .int .i64 s2, .int .i64 c2, .string e2, .bool f2, .slice (some ⟨A2, 0, none⟩) l2.length 1, .int .i64 y2]) B3 0 [.int .i64 i3, .int .i64 a3, .int .i64 k3, .int .i64 s3, .int .i64 c3, .string e3, .bool f3, .slice (some ⟨A3, 0, none⟩) l3.length 1, .int .i64 y3]) B2 [.int .i64 i2, .int .i64 a2, .int .i64 k2, .int .i64 s2, .int .i64 c2, .string e2, .bool f2, .slice (some ⟨A2, 0, none⟩) l2.length 1, .int .i64 y2] ∧ AtF (setRow (setRow (setRow W B1 0 [.int .i64 i1, .int .i64 a1, .int .i64 k1, .int .i64 s1, .int .i64 c1, .string e1, .bool f1, .slice (some ⟨A1, 0, none⟩) l1.length 1, .int .i64 y1]) B2 0 [.int .i64 i2, .int .i64 a2, .int .i64 k2, .int .i64 s2, .int .i64 c2, .string e2, .bool f2, .slice (some ⟨A2, 0, none⟩) l2.length 1, .int .i64 y2]) B3 0 [.int .i64 i3, .int .i64 a3, .int .i64 k3, .int .i64 s3, .int .i64 c3, .string e3, .bool f3, .slice (some ⟨A3, 0, none⟩) l3.length 1, .int .i64 y3]) B3 [.int .i64 i3, .int .i64 a3, .int .i64 k3, .int .i64 s3, .int .i64 c3, .string e3, .bool f3, .slice (some ⟨A3, 0, none⟩) l3.length 1, .int .i64 y3]) :=
        Lib.hid ⟨((g1.setRow [.int .i64 i1, .int .i64 a1, .int .i64 k1, .int .i64 s1, .int .i64 c1, .string e1, .bool f1, .slice (some ⟨A1, 0, none⟩) l1.length 1, .int .i64 y1] rfl).setRow_other [.int .i64 i2, .int .i64 a2, .int .i64 k2, .int .i64 s2, .int .i64 c2, .string e2, .bool f2, .slice (some ⟨A2, 0, none⟩) l2.length 1, .int .i64 y2] n1).setRow_other [.int .i64 i3, .int .i64 a3, .int .i64 k3, .int .i64 s3, .int .i64 c3, .string e3, .bool f3, .slice (some ⟨A3, 0, none⟩) l3.length 1, .int .i64 y3] n2, ((g2.setRow_other [.int .i64 i1, .int .i64 a1, .int .i64 k1, .int .i64 s1, .int .i64 c1, .string e1, .bool f1, .slice (some ⟨A1, 0, none⟩) l1.length 1, .int .i64 y1] (Ne.symm n1)).setRow [.int .i64 i2, .int .i64 a2, .int .i64 k2, .int .i64 s2, .int .i64 c2, .string e2, .bool f2, .slice (some ⟨A2, 0, none⟩) l2.length 1, .int .i64 y2] rfl).setRow_other [.int .i64 i3, .int .i64 a3, .int .i64 k3, .int .i64 s3, .int .i64 c3, .string e3, .bool f3, .slice (some ⟨A3, 0, none⟩) l3.length 1, .int .i64 y3] n3, ((g3.setRow_other [.int .i64 i1, .int .i64 a1, .int .i64 k1, .int .i64 s1, .int .i64 c1, .string e1, .bool f1, .slice (some ⟨A1, 0, none⟩) l1.length 1, .int .i64 y1] (Ne.symm n2)).setRow_other [.int .i64 i2, .int .i64 a2, .int .i64 k2, .int .i64 s2, .int .i64 c2, .string e2, .bool f2, .slice (some ⟨A2, 0, none⟩) l2.length 1, .int .i64 y2] (Ne.symm n3)).setRow [.int .i64 i3, .int .i64 a3, .int .i64 k3, .int .i64 s3, .int .i64 c3, .string e3, .bool f3, .slice (some ⟨A3, 0, none⟩) l3.length 1, .int .i64 y3] rfl⟩
      have HMM := Lib.hid (And.intro (mor_mem (va := [.int .i64 i1, .int .i64 a1, .int .i64 k1, .int .i64 s1, .int .i64 c1, .string e1, .bool f1, .slice (some ⟨A1, 0, none⟩) l1.length 1, .int .i64 y1]) (vb := [.int .i64 i2, .int .i64 a2, .int .i64 k2, .int .i64 s2, .int .i64 c2, .string e2, .bool f2, .slice (some ⟨A2, 0, none⟩) l2.length 1, .int .i64 y2]) (vc := [.int .i64 i3, .int .i64 a3, .int .i64 k3, .int .i64 s3, .int .i64 c3, .string e3, .bool f3, .slice (some ⟨A3, 0, none⟩) l3.length 1, .int .i64 y3]) m1 rfl n4 n5 n6) (And.intro (mor_mem (va := [.int .i64 i1, .int .i64 a1, .int .i64 k1, .int .i64 s1, .int .i64 c1, .string e1, .bool f1, .slice (some ⟨A1, 0, none⟩) l1.length 1, .int .i64 y1]) (vb := [.int .i64 i2, .int .i64 a2, .int .i64 k2, .int .i64 s2, .int .i64 c2, .string e2, .bool f2, .slice (some ⟨A2, 0, none⟩) l2.length 1, .int .i64 y2]) (vc := [.int .i64 i3, .int .i64 a3, .int .i64 k3, .int .i64 s3, .int .i64 c3, .string e3, .bool f3, .slice (some ⟨A3, 0, none⟩) l3.length 1, .int .i64 y3]) m2 rfl n7 n8 n9) (mor_mem (va := [.int .i64 i1, .int .i64 a1, .int .i64 k1, .int .i64 s1, .int .i64 c1, .string e1, .bool f1, .slice (some ⟨A1, 0, none⟩) l1.length 1, .int .i64 y1]) (vb := [.int .i64 i2, .int .i64 a2, .int .i64 k2, .int .i64 s2, .int .i64 c2, .string e2, .bool f2, .slice (some ⟨A2, 0, none⟩) l2.length 1, .int .i64 y2]) (vc := [.int .i64 i3, .int .i64 a3, .int .i64 k3, .int .i64 s3, .int .i64 c3, .string e3, .bool f3, .slice (some ⟨A3, 0, none⟩) l3.length 1, .int .i64 y3]) m3 rfl n10 n11 n12)))
      have HBW := Lib.hid (Bel.setRow (B := B3) (i := 0) [.int .i64 i3, .int .i64 a3, .int .i64 k3, .int .i64 s3, .int .i64 c3, .string e3, .bool f3, .slice (some ⟨A3, 0, none⟩) l3.length 1, .int .i64 y3] (Bel.setRow (B := B2) (i := 0) [.int .i64 i2, .int .i64 a2, .int .i64 k2, .int .i64 s2, .int .i64 c2, .string e2, .bool f2, .slice (some ⟨A2, 0, none⟩) l2.length 1, .int .i64 y2] (Bel.setRow (B := B1) (i := 0) [.int .i64 i1, .int .i64 a1, .int .i64 k1, .int .i64 s1, .int .i64 c1, .string e1, .bool f1, .slice (some ⟨A1, 0, none⟩) l1.length 1, .int .i64 y1] (hbc.trans ((Bel.drew (Bel.refl _)).trans hW)) o1) o2) o3)
      have u0 := (g1).1.2 0 _ rfl
      have u1 := (g1).1.2 1 _ rfl
      have u2 := (g1).1.2 2 _ rfl
      have u3 := (g1).1.2 3 _ rfl
      have u4 := (g1).1.2 4 _ rfl
      have u5 := (g1).1.2 5 _ rfl
      have u6 := (g1).1.2 6 _ rfl
      have u7 := (g1).1.2 7 _ rfl
      have u8 := (g1).1.2 8 _ rfl
      have v0 := (g2).1.2 0 _ rfl
      have v1 := (g2).1.2 1 _ rfl
      have v2 := (g2).1.2 2 _ rfl
      have v3 := (g2).1.2 3 _ rfl
      have v4 := (g2).1.2 4 _ rfl
      have v5 := (g2).1.2 5 _ rfl
      have v6 := (g2).1.2 6 _ rfl
      have v7 := (g2).1.2 7 _ rfl
      have v8 := (g2).1.2 8 _ rfl
      have x0 := (g3).1.2 0 _ rfl
      have x1 := (g3).1.2 1 _ rfl
      have x2 := (g3).1.2 2 _ rfl
      have x3 := (g3).1.2 3 _ rfl
      have x4 := (g3).1.2 4 _ rfl
      have x5 := (g3).1.2 5 _ rfl
      have x6 := (g3).1.2 6 _ rfl
      have x7 := (g3).1.2 7 _ rfl
      have x8 := (g3).1.2 8 _ rfl
      have uf := g1.2
      have vf := g2.2
      have xf := g3.2
      have ul := g1.1.1
      have vl := g2.1.1
      have xl := g3.1.1
      have n1' := Ne.symm n1
      have n2' := Ne.symm n2
      have n3' := Ne.symm n3
      go_upto_region 8 with fail
      have hP := HPQR.out
      have hM := HMM.out
      have hBW := HBW.out
      simp only [setRow] at hP hM hBW
      generalize World.setCell _ _ _ = W8 at hP hM hBW ⊢
      obtain ⟨hP1, hP2, hP3⟩ := hP
      obtain ⟨hM1, hM2, hM3⟩ := hM
      clear u0 u1 u2 u3 u4 u5 u6 u7 u8 v0 v1 v2 v3 v4 v5 v6 v7 v8 x0 x1 x2 x3 x4 x5 x6 x7 x8 uf vf xf ul vl xl n1' n2' n3' HPQR HMM HBW g1 g2 g3 m1 m2 m3 hW hbc hT
      go_cut [20] (fun hv wx => ∃ (H : Nat) (A : Option Addr) (c : Nat), hv = .pointer (some ⟨H, 0, none⟩) ∧ AtF wx H [.int .i64 i7, .int .i64 a7, .int .i64 k7, .int .i64 s7, .int .i64 c7, .string e7, .bool f7, .slice (A) l7.length (c), .int .i64 y7] ∧ Mems wx ⟨i7, a7, k7, s7, c7, e7, f7, A, l7.length, c, y7⟩ l7 ∧ Bel W8 wx)
      case first =>
        have hQ1 : AtF W8 B1 [.int .i64 i1, .int .i64 a1, .int .i64 k1, .int .i64 s1, .int .i64 c1, .string e1, .bool f1, .slice (some ⟨A1, 0, none⟩) l1.length 1, .int .i64 y1] := hP1.bel (by repeat (first | (with_reducible exact Bel.refl _) | (with_reducible assumption) | (with_reducible refine Bel.drewN ?_ _) | (with_reducible refine Bel.drew ?_) | (with_reducible refine Bel.alloc ?_ _) | (with_reducible refine Bel.setNew ?_ ?_ _) | (with_reducible refine Bel.trans ?_ (by assumption)) | (focus (simp; done)) | (focus (simp; omega))))
        have hQ2 : AtF W8 B2 [.int .i64 i2, .int .i64 a2, .int .i64 k2, .int .i64 s2, .int .i64 c2, .string e2, .bool f2, .slice (some ⟨A2, 0, none⟩) l2.length 1, .int .i64 y2] := hP2.bel (by repeat (first | (with_reducible exact Bel.refl _) | (with_reducible assumption) | (with_reducible refine Bel.drewN ?_ _) | (with_reducible refine Bel.drew ?_) | (with_reducible refine Bel.alloc ?_ _) | (with_reducible refine Bel.setNew ?_ ?_ _) | (with_reducible refine Bel.trans ?_ (by assumption)) | (focus (simp; done)) | (focus (simp; omega))))
        have hQ3 : AtF W8 B3 [.int .i64 i3, .int .i64 a3, .int .i64 k3, .int .i64 s3, .int .i64 c3, .string e3, .bool f3, .slice (some ⟨A3, 0, none⟩) l3.length 1, .int .i64 y3] := hP3.bel (by repeat (first | (with_reducible exact Bel.refl _) | (with_reducible assumption) | (with_reducible refine Bel.drewN ?_ _) | (with_reducible refine Bel.drew ?_) | (with_reducible refine Bel.alloc ?_ _) | (with_reducible refine Bel.setNew ?_ ?_ _) | (with_reducible refine Bel.trans ?_ (by assumption)) | (focus (simp; done)) | (focus (simp; omega))))
        have p0 := (hQ1).1.2 0 _ rfl
        have p1 := (hQ1).1.2 1 _ rfl
        have p2 := (hQ1).1.2 2 _ rfl
        have p3 := (hQ1).1.2 3 _ rfl
        have p4 := (hQ1).1.2 4 _ rfl
        have p5 := (hQ1).1.2 5 _ rfl
        have p6 := (hQ1).1.2 6 _ rfl
        have p7 := (hQ1).1.2 7 _ rfl
        have p8 := (hQ1).1.2 8 _ rfl
        have q0 := (hQ2).1.2 0 _ rfl
        have q1 := (hQ2).1.2 1 _ rfl
        have q2 := (hQ2).1.2 2 _ rfl
        have q3 := (hQ2).1.2 3 _ rfl
        have q4 := (hQ2).1.2 4 _ rfl
        have q5 := (hQ2).1.2 5 _ rfl
        have q6 := (hQ2).1.2 6 _ rfl
        have q7 := (hQ2).1.2 7 _ rfl
        have q8 := (hQ2).1.2 8 _ rfl
        have r0 := (hQ3).1.2 0 _ rfl
        have r1 := (hQ3).1.2 1 _ rfl
        have r2 := (hQ3).1.2 2 _ rfl
        have r3 := (hQ3).1.2 3 _ rfl
        have r4 := (hQ3).1.2 4 _ rfl
        have r5 := (hQ3).1.2 5 _ rfl
        have r6 := (hQ3).1.2 6 _ rfl
        have r7 := (hQ3).1.2 7 _ rfl
        have r8 := (hQ3).1.2 8 _ rfl
        have rp0 := fun d os => cell_regrown p0 d os
        have rp1 := fun d os => cell_regrown p1 d os
        have rp2 := fun d os => cell_regrown p2 d os
        have rp3 := fun d os => cell_regrown p3 d os
        have rp4 := fun d os => cell_regrown p4 d os
        have rp5 := fun d os => cell_regrown p5 d os
        have rp6 := fun d os => cell_regrown p6 d os
        have rp7 := fun d os => cell_regrown p7 d os
        have rp8 := fun d os => cell_regrown p8 d os
        have rq0 := fun d os => cell_regrown q0 d os
        have rq1 := fun d os => cell_regrown q1 d os
        have rq2 := fun d os => cell_regrown q2 d os
        have rq3 := fun d os => cell_regrown q3 d os
        have rq4 := fun d os => cell_regrown q4 d os
        have rq5 := fun d os => cell_regrown q5 d os
        have rq6 := fun d os => cell_regrown q6 d os
        have rq7 := fun d os => cell_regrown q7 d os
        have rq8 := fun d os => cell_regrown q8 d os
        have rr0 := fun d os => cell_regrown r0 d os
        have rr1 := fun d os => cell_regrown r1 d os
        have rr2 := fun d os => cell_regrown r2 d os
        have rr3 := fun d os => cell_regrown r3 d os
        have rr4 := fun d os => cell_regrown r4 d os
        have rr5 := fun d os => cell_regrown r5 d os
        have rr6 := fun d os => cell_regrown r6 d os
        have rr7 := fun d os => cell_regrown r7 d os
        have rr8 := fun d os => cell_regrown r8 d os
        refine wp_region_st [2, 4, 5] 6 (by kernel_rfl) (by kernel_rfl) ?_
        with_reducible refine st_sel [0, 1, 3] (by kernel_rfl) (by kernel_rfl) ?_
        simp only [picked, List.getElem?_cons_succ, List.getElem?_cons_zero, Option.toList_some, List.nil_append, List.cons_append, List.append_nil]
        try simp only [Act.put, List.setIfInBounds_toArray, List.set_cons_succ, List.set_cons_zero]
        repeat (go_big_quiet_step (fail))
        with_reducible refine wpQuiet_nil ?_
        refine st_branch [2, 5] (by kernel_rfl) (branch_cons (by simp only [List.getElem?_toArray, List.getElem?_cons_succ, List.getElem?_cons_zero]; rfl) ?_ (branch_cons (by simp only [List.getElem?_toArray, List.getElem?_cons_succ, List.getElem?_cons_zero]; rfl) ?_ branch_nil))
        · skip
          refine eff_call 17 rfl (by simp [go_sem]; rfl) (by repeat (first | (with_reducible exact Bel.refl _) | (with_reducible assumption) | (with_reducible refine Bel.drewN ?_ _) | (with_reducible refine Bel.drew ?_) | (with_reducible refine Bel.alloc ?_ _) | (with_reducible refine Bel.setNew ?_ ?_ _) | (with_reducible refine Bel.trans ?_ (by assumption)) | (focus (simp; done)) | (focus (simp; omega)))) ?_
          refine (C1.out _ _ _ (hM1.bel (by repeat (first | (with_reducible exact Bel.refl _) | (with_reducible assumption) | (with_reducible refine Bel.drewN ?_ _) | (with_reducible refine Bel.drew ?_) | (with_reducible refine Bel.alloc ?_ _) | (with_reducible refine Bel.setNew ?_ ?_ _) | (with_reducible refine Bel.trans ?_ (by assumption)) | (focus (simp; done)) | (focus (simp; omega))))) (hM2.bel (by repeat (first | (with_reducible exact Bel.refl _) | (with_reducible assumption) | (with_reducible refine Bel.drewN ?_ _) | (with_reducible refine Bel.drew ?_) | (with_reducible refine Bel.alloc ?_ _) | (with_reducible refine Bel.setNew ?_ ?_ _) | (with_reducible refine Bel.trans ?_ (by assumption)) | (focus (simp; done)) | (focus (simp; omega)))))).mono ?_; rintro e w5 ⟨A5, c5, rfl, hz5, hb5⟩
          refine ⟨_, rfl, hb5, ?_⟩
          try simp only [List.nil_append, List.cons_append, Act.put, List.setIfInBounds_toArray, List.set_cons_succ, List.set_cons_zero]
          refine st_branch [4, 5] (by kernel_rfl) (branch_cons (by simp only [List.getElem?_toArray, List.getElem?_cons_succ, List.getElem?_cons_zero]; rfl) ?_ (branch_cons (by simp only [List.getElem?_toArray, List.getElem?_cons_succ, List.getElem?_cons_zero]; rfl) ?_ branch_nil))
          · skip
            refine eff_call 17 rfl (by simp [go_sem]; rfl) (by repeat (first | (with_reducible exact Bel.refl _) | (with_reducible assumption) | (with_reducible refine Bel.drewN ?_ _) | (with_reducible refine Bel.drew ?_) | (with_reducible refine Bel.alloc ?_ _) | (with_reducible refine Bel.setNew ?_ ?_ _) | (with_reducible refine Bel.trans ?_ (by assumption)) | (focus (simp; done)) | (focus (simp; omega)))) ?_
            refine (C2.out _ _ _ _ (hz5.1.bel (by repeat (first | (with_reducible exact Bel.refl _) | (with_reducible assumption) | (with_reducible refine Bel.drewN ?_ _) | (with_reducible refine Bel.drew ?_) | (with_reducible refine Bel.alloc ?_ _) | (with_reducible refine Bel.setNew ?_ ?_ _) | (with_reducible refine Bel.trans ?_ (by assumption)) | (focus (simp; done)) | (focus (simp; omega))))) (hM3.bel (by repeat (first | (with_reducible exact Bel.refl _) | (with_reducible assumption) | (with_reducible refine Bel.drewN ?_ _) | (with_reducible refine Bel.drew ?_) | (with_reducible refine Bel.alloc ?_ _) | (with_reducible refine Bel.setNew ?_ ?_ _) | (with_reducible refine Bel.trans ?_ (by assumption)) | (focus (simp; done)) | (focus (simp; omega)))))).mono ?_; rintro e w6 ⟨A6, c6', rfl, hz6, hb6⟩
            refine ⟨_, rfl, hb6, ?_⟩
            try simp only [List.nil_append, List.cons_append, Act.put, List.setIfInBounds_toArray, List.set_cons_succ, List.set_cons_zero]
            refine st_branch [5] (by kernel_rfl) (branch_cons (by simp only [List.getElem?_toArray, List.getElem?_cons_succ, List.getElem?_cons_zero]; rfl) ?_ branch_nil)
            refine eff_made rfl (by simp [go_sem]; exact ⟨rfl, rfl⟩) (by repeat (first | (with_reducible exact Bel.refl _) | (with_reducible assumption) | (with_reducible refine Bel.drewN ?_ _) | (with_reducible refine Bel.drew ?_) | (with_reducible refine Bel.alloc ?_ _) | (with_reducible refine Bel.setNew ?_ ?_ _) | (with_reducible refine Bel.trans ?_ (by assumption)) | (focus (simp; done)) | (focus (simp; omega)))) ?_
            try simp only [List.nil_append, List.cons_append, Act.put, List.setIfInBounds_toArray, List.set_cons_succ, List.set_cons_zero]
            refine st_end (by kernel_rfl) ?_
            simp only [List.drop_succ_cons, List.drop_zero, List.drop_nil]
            have hb26 : Bel W8 w6 := by
              refine Bel.trans ?_ hb6
              exact (by repeat (first | (with_reducible exact Bel.refl _) | (with_reducible assumption) | (with_reducible refine Bel.drewN ?_ _) | (with_reducible refine Bel.drew ?_) | (with_reducible refine Bel.alloc ?_ _) | (with_reducible refine Bel.setNew ?_ ?_ _) | (with_reducible refine Bel.trans ?_ (by assumption)) | (focus (simp; done)) | (focus (simp; omega))))
            have hmm : Mems w6 ⟨i7, a7, k7, s7, c7, e7, f7, A6, l7.length, c6', y7⟩ l7 := hz6.1
            go_wp2_with fail
            go_meet
            exact ⟨_, A6, c6', rfl, AtF.new_at rfl _ _, hmm.bel ((Bel.refl _).alloc _), hb26.alloc _⟩
          · skip
            refine eff_made rfl (by simp [go_sem]; exact ⟨rfl, rfl⟩) (by repeat (first | (with_reducible exact Bel.refl _) | (with_reducible assumption) | (with_reducible refine Bel.drewN ?_ _) | (with_reducible refine Bel.drew ?_) | (with_reducible refine Bel.alloc ?_ _) | (with_reducible refine Bel.setNew ?_ ?_ _) | (with_reducible refine Bel.trans ?_ (by assumption)) | (focus (simp; done)) | (focus (simp; omega)))) ?_
            try simp only [List.nil_append, List.cons_append, Act.put, List.setIfInBounds_toArray, List.set_cons_succ, List.set_cons_zero]
            refine st_branch [4] (by kernel_rfl) (branch_cons (by simp only [List.getElem?_toArray, List.getElem?_cons_succ, List.getElem?_cons_zero]; rfl) ?_ branch_nil)
            refine eff_call 17 rfl (by simp [go_sem]; rfl) (by repeat (first | (with_reducible exact Bel.refl _) | (with_reducible assumption) | (with_reducible refine Bel.drewN ?_ _) | (with_reducible refine Bel.drew ?_) | (with_reducible refine Bel.alloc ?_ _) | (with_reducible refine Bel.setNew ?_ ?_ _) | (with_reducible refine Bel.trans ?_ (by assumption)) | (focus (simp; done)) | (focus (simp; omega)))) ?_
            refine (C2.out _ _ _ _ (hz5.1.bel (by repeat (first | (with_reducible exact Bel.refl _) | (with_reducible assumption) | (with_reducible refine Bel.drewN ?_ _) | (with_reducible refine Bel.drew ?_) | (with_reducible refine Bel.alloc ?_ _) | (with_reducible refine Bel.setNew ?_ ?_ _) | (with_reducible refine Bel.trans ?_ (by assumption)) | (focus (simp; done)) | (focus (simp; omega))))) (hM3.bel (by repeat (first | (with_reducible exact Bel.refl _) | (with_reducible assumption) | (with_reducible refine Bel.drewN ?_ _) | (with_reducible refine Bel.drew ?_) | (with_reducible refine Bel.alloc ?_ _) | (with_reducible refine Bel.setNew ?_ ?_ _) | (with_reducible refine Bel.trans ?_ (by assumption)) | (focus (simp; done)) | (focus (simp; omega)))))).mono ?_; rintro e w6 ⟨A6, c6', rfl, hz6, hb6⟩
            refine ⟨_, rfl, hb6, ?_⟩
            try simp only [List.nil_append, List.cons_append, Act.put, List.setIfInBounds_toArray, List.set_cons_succ, List.set_cons_zero]
            refine st_end (by kernel_rfl) ?_
            simp only [List.drop_succ_cons, List.drop_zero, List.drop_nil]
            have hcl : ∀ q, (Value.slice A6 l7.length c6').ownBlock = some q → (w5.alloc (.cells #[.int .i64 0, .int .i64 0, .int .i64 0, .int .i64 0, .int .i64 0, .string ⟨#[]⟩, .bool false, .slice none 0 0, .int .i64 0] 27)).heap.size ≤ q := hz6.2
            simp only [World.size_alloc] at hcl
            have hH : AtF w6 w5.heap.size [.int .i64 0, .int .i64 0, .int .i64 0, .int .i64 0, .int .i64 0, .string ⟨#[]⟩, .bool false, .slice none 0 0, .int .i64 0] := (AtF.new_at (w := w5) rfl 27 [.int .i64 0, .int .i64 0, .int .i64 0, .int .i64 0, .int .i64 0, .string ⟨#[]⟩, .bool false, .slice none 0 0, .int .i64 0]).bel hb6
            have hb26 : Bel W8 w6 := by
              refine Bel.trans ?_ hb6
              exact (by repeat (first | (with_reducible exact Bel.refl _) | (with_reducible assumption) | (with_reducible refine Bel.drewN ?_ _) | (with_reducible refine Bel.drew ?_) | (with_reducible refine Bel.alloc ?_ _) | (with_reducible refine Bel.setNew ?_ ?_ _) | (with_reducible refine Bel.trans ?_ (by assumption)) | (focus (simp; done)) | (focus (simp; omega))))
            have hs6 := hb26.size
            have hs7 : W8.heap.size ≤ w5.heap.size := by have := hb5.size; simpa using this
            have hHs := hH.setRow [.int .i64 i7, .int .i64 a7, .int .i64 k7, .int .i64 s7, .int .i64 c7, .string e7, .bool f7, .slice (A6) l7.length (c6'), .int .i64 y7] rfl
            have hmm : Mems w6 ⟨i7, a7, k7, s7, c7, e7, f7, A6, l7.length, c6', y7⟩ l7 := hz6.1
            have hbs := Bel.setRow (B := w5.heap.size) (i := 0) [.int .i64 i7, .int .i64 a7, .int .i64 k7, .int .i64 s7, .int .i64 c7, .string e7, .bool f7, .slice (A6) l7.length (c6'), .int .i64 y7] hb26 (by omega)
            have hms : Mems (setRow w6 (w5.heap.size) 0 [.int .i64 i7, .int .i64 a7, .int .i64 k7, .int .i64 s7, .int .i64 c7, .string e7, .bool f7, .slice (A6) l7.length (c6'), .int .i64 y7]) ⟨i7, a7, k7, s7, c7, e7, f7, A6, l7.length, c6', y7⟩ l7 := ⟨hmm.len, hmm.rd.setRow (B := w5.heap.size) (i := 0) [.int .i64 i7, .int .i64 a7, .int .i64 k7, .int .i64 s7, .int .i64 c7, .string e7, .bool f7, .slice (A6) l7.length (c6'), .int .i64 y7] (fun e => by have := hcl _ e; omega), hmm.ids, hmm.dl⟩
            have HX := Lib.hid (And.intro hHs (And.intro hms hbs))
            have z0 := (hH).1.2 0 _ rfl
            have z1 := (hH).1.2 1 _ rfl
            have z2 := (hH).1.2 2 _ rfl
            have z3 := (hH).1.2 3 _ rfl
            have z4 := (hH).1.2 4 _ rfl
            have z5 := (hH).1.2 5 _ rfl
            have z6 := (hH).1.2 6 _ rfl
            have z7 := (hH).1.2 7 _ rfl
            have z8 := (hH).1.2 8 _ rfl
            have zf := hH.2
            have zl := hH.1.1
            clear hHs hms hbs
            go_wp2_with fail
            go_meet
            exact ⟨_, A6, c6', rfl, HX.out.1, HX.out.2.1, HX.out.2.2⟩
        · skip
          refine eff_made rfl (by simp [go_sem]; exact ⟨rfl, rfl⟩) (by repeat (first | (with_reducible exact Bel.refl _) | (with_reducible assumption) | (with_reducible refine Bel.drewN ?_ _) | (with_reducible refine Bel.drew ?_) | (with_reducible refine Bel.alloc ?_ _) | (with_reducible refine Bel.setNew ?_ ?_ _) | (with_reducible refine Bel.trans ?_ (by assumption)) | (focus (simp; done)) | (focus (simp; omega)))) ?_
          try simp only [List.nil_append, List.cons_append, Act.put, List.setIfInBounds_toArray, List.set_cons_succ, List.set_cons_zero]
          refine st_branch [2] (by kernel_rfl) (branch_cons (by simp only [List.getElem?_toArray, List.getElem?_cons_succ, List.getElem?_cons_zero]; rfl) ?_ branch_nil)
          refine eff_call 17 rfl (by simp [go_sem]; rfl) (by repeat (first | (with_reducible exact Bel.refl _) | (with_reducible assumption) | (with_reducible refine Bel.drewN ?_ _) | (with_reducible refine Bel.drew ?_) | (with_reducible refine Bel.alloc ?_ _) | (with_reducible refine Bel.setNew ?_ ?_ _) | (with_reducible refine Bel.trans ?_ (by assumption)) | (focus (simp; done)) | (focus (simp; omega)))) ?_
          refine (C1.out _ _ _ (hM1.bel (by repeat (first | (with_reducible exact Bel.refl _) | (with_reducible assumption) | (with_reducible refine Bel.drewN ?_ _) | (with_reducible refine Bel.drew ?_) | (with_reducible refine Bel.alloc ?_ _) | (with_reducible refine Bel.setNew ?_ ?_ _) | (with_reducible refine Bel.trans ?_ (by assumption)) | (focus (simp; done)) | (focus (simp; omega))))) (hM2.bel (by repeat (first | (with_reducible exact Bel.refl _) | (with_reducible assumption) | (with_reducible refine Bel.drewN ?_ _) | (with_reducible refine Bel.drew ?_) | (with_reducible refine Bel.alloc ?_ _) | (with_reducible refine Bel.setNew ?_ ?_ _) | (with_reducible refine Bel.trans ?_ (by assumption)) | (focus (simp; done)) | (focus (simp; omega)))))).mono ?_; rintro e w5 ⟨A5, c5, rfl, hz5, hb5⟩
          refine ⟨_, rfl, hb5, ?_⟩
          try simp only [List.nil_append, List.cons_append, Act.put, List.setIfInBounds_toArray, List.set_cons_succ, List.set_cons_zero]
          refine st_branch [4] (by kernel_rfl) (branch_cons (by simp only [List.getElem?_toArray, List.getElem?_cons_succ, List.getElem?_cons_zero]; rfl) ?_ branch_nil)
          refine eff_call 17 rfl (by simp [go_sem]; rfl) (by repeat (first | (with_reducible exact Bel.refl _) | (with_reducible assumption) | (with_reducible refine Bel.drewN ?_ _) | (with_reducible refine Bel.drew ?_) | (with_reducible refine Bel.alloc ?_ _) | (with_reducible refine Bel.setNew ?_ ?_ _) | (with_reducible refine Bel.trans ?_ (by assumption)) | (focus (simp; done)) | (focus (simp; omega)))) ?_
          refine (C2.out _ _ _ _ (hz5.1.bel (by repeat (first | (with_reducible exact Bel.refl _) | (with_reducible assumption) | (with_reducible refine Bel.drewN ?_ _) | (with_reducible refine Bel.drew ?_) | (with_reducible refine Bel.alloc ?_ _) | (with_reducible refine Bel.setNew ?_ ?_ _) | (with_reducible refine Bel.trans ?_ (by assumption)) | (focus (simp; done)) | (focus (simp; omega))))) (hM3.bel (by repeat (first | (with_reducible exact Bel.refl _) | (with_reducible assumption) | (with_reducible refine Bel.drewN ?_ _) | (with_reducible refine Bel.drew ?_) | (with_reducible refine Bel.alloc ?_ _) | (with_reducible refine Bel.setNew ?_ ?_ _) | (with_reducible refine Bel.trans ?_ (by assumption)) | (focus (simp; done)) | (focus (simp; omega)))))).mono ?_; rintro e w6 ⟨A6, c6', rfl, hz6, hb6⟩
          refine ⟨_, rfl, hb6, ?_⟩
          try simp only [List.nil_append, List.cons_append, Act.put, List.setIfInBounds_toArray, List.set_cons_succ, List.set_cons_zero]
          refine st_end (by kernel_rfl) ?_
          simp only [List.drop_succ_cons, List.drop_zero, List.drop_nil]
          have hcl : ∀ q, (Value.slice A6 l7.length c6').ownBlock = some q → w5.heap.size ≤ q := hz6.2
          have hs5 : W8.heap.size < w5.heap.size := by have := hb5.size; simp at this; omega
          have hH : AtF w6 W8.heap.size [.int .i64 0, .int .i64 0, .int .i64 0, .int .i64 0, .int .i64 0, .string ⟨#[]⟩, .bool false, .slice none 0 0, .int .i64 0] := ((AtF.new_at (w := (W8).drew) rfl 27 [.int .i64 0, .int .i64 0, .int .i64 0, .int .i64 0, .int .i64 0, .string ⟨#[]⟩, .bool false, .slice none 0 0, .int .i64 0]).bel hb5).bel hb6
          have hb26 : Bel W8 w6 := by
            refine Bel.trans ?_ hb6
            refine Bel.trans ?_ hb5
            exact (by repeat (first | (with_reducible exact Bel.refl _) | (with_reducible assumption) | (with_reducible refine Bel.drewN ?_ _) | (with_reducible refine Bel.drew ?_) | (with_reducible refine Bel.alloc ?_ _) | (with_reducible refine Bel.setNew ?_ ?_ _) | (with_reducible refine Bel.trans ?_ (by assumption)) | (focus (simp; done)) | (focus (simp; omega))))
          have hHs := hH.setRow [.int .i64 i7, .int .i64 a7, .int .i64 k7, .int .i64 s7, .int .i64 c7, .string e7, .bool f7, .slice (A6) l7.length (c6'), .int .i64 y7] rfl
          have hmm : Mems w6 ⟨i7, a7, k7, s7, c7, e7, f7, A6, l7.length, c6', y7⟩ l7 := hz6.1
          have hbs := Bel.setRow (B := W8.heap.size) (i := 0) [.int .i64 i7, .int .i64 a7, .int .i64 k7, .int .i64 s7, .int .i64 c7, .string e7, .bool f7, .slice (A6) l7.length (c6'), .int .i64 y7] hb26 (by omega)
          have hms : Mems (setRow w6 (W8.heap.size) 0 [.int .i64 i7, .int .i64 a7, .int .i64 k7, .int .i64 s7, .int .i64 c7, .string e7, .bool f7, .slice (A6) l7.length (c6'), .int .i64 y7]) ⟨i7, a7, k7, s7, c7, e7, f7, A6, l7.length, c6', y7⟩ l7 := ⟨hmm.len, hmm.rd.setRow (B := W8.heap.size) (i := 0) [.int .i64 i7, .int .i64 a7, .int .i64 k7, .int .i64 s7, .int .i64 c7, .string e7, .bool f7, .slice (A6) l7.length (c6'), .int .i64 y7] (fun e => by have := hcl _ e; omega), hmm.ids, hmm.dl⟩
          have HX := Lib.hid (And.intro hHs (And.intro hms hbs))
          have z0 := (hH).1.2 0 _ rfl
          have z1 := (hH).1.2 1 _ rfl
          have z2 := (hH).1.2 2 _ rfl
          have z3 := (hH).1.2 3 _ rfl
          have z4 := (hH).1.2 4 _ rfl
          have z5 := (hH).1.2 5 _ rfl
          have z6 := (hH).1.2 6 _ rfl
          have z7 := (hH).1.2 7 _ rfl
          have z8 := (hH).1.2 8 _ rfl
          have zf := hH.2
          have zl := hH.1.1
          clear hHs hms hbs
          go_wp2_with fail
          go_meet
          exact ⟨_, A6, c6', rfl, HX.out.1, HX.out.2.1, HX.out.2.2⟩
      case rest =>
        obtain ⟨H1, AX1, cX1, rfl, hH1, hX1, hbx⟩ := hcut
        obtain ⟨W9, rfl⟩ : ∃ W, W = wc := ⟨_, rfl⟩
        replace hP1 := hP1.bel hbx
        replace hP2 := hP2.bel hbx
        replace hP3 := hP3.bel hbx
        replace hM1 := hM1.bel hbx
        replace hM2 := hM2.bel hbx
        replace hM3 := hM3.bel hbx
        replace hBW := hBW.trans hbx
        clear hbx
        go_upto_region 9 with fail
        go_cut [21] (fun hv wx => ∃ (H : Nat) (A : Option Addr) (c : Nat), hv = .pointer (some ⟨H, 0, none⟩) ∧ AtF wx H [.int .i64 i7, .int .i64 a7, .int .i64 k7, .int .i64 s7, .int .i64 c7, .string e7, .bool f7, .slice (A) l7.length (c), .int .i64 y7] ∧ Mems wx ⟨i7, a7, k7, s7, c7, e7, f7, A, l7.length, c, y7⟩ l7 ∧ Bel W9 wx)
        case first =>
          have hQ1 : AtF W9 B1 [.int .i64 i1, .int .i64 a1, .int .i64 k1, .int .i64 s1, .int .i64 c1, .string e1, .bool f1, .slice (some ⟨A1, 0, none⟩) l1.length 1, .int .i64 y1] := hP1.bel (by repeat (first | (with_reducible exact Bel.refl _) | (with_reducible assumption) | (with_reducible refine Bel.drewN ?_ _) | (with_reducible refine Bel.drew ?_) | (with_reducible refine Bel.alloc ?_ _) | (with_reducible refine Bel.setNew ?_ ?_ _) | (with_reducible refine Bel.trans ?_ (by assumption)) | (focus (simp; done)) | (focus (simp; omega))))
          have hQ2 : AtF W9 B2 [.int .i64 i2, .int .i64 a2, .int .i64 k2, .int .i64 s2, .int .i64 c2, .string e2, .bool f2, .slice (some ⟨A2, 0, none⟩) l2.length 1, .int .i64 y2] := hP2.bel (by repeat (first | (with_reducible exact Bel.refl _) | (with_reducible assumption) | (with_reducible refine Bel.drewN ?_ _) | (with_reducible refine Bel.drew ?_) | (with_reducible refine Bel.alloc ?_ _) | (with_reducible refine Bel.setNew ?_ ?_ _) | (with_reducible refine Bel.trans ?_ (by assumption)) | (focus (simp; done)) | (focus (simp; omega))))
          have hQ3 : AtF W9 B3 [.int .i64 i3, .int .i64 a3, .int .i64 k3, .int .i64 s3, .int .i64 c3, .string e3, .bool f3, .slice (some ⟨A3, 0, none⟩) l3.length 1, .int .i64 y3] := hP3.bel (by repeat (first | (with_reducible exact Bel.refl _) | (with_reducible assumption) | (with_reducible refine Bel.drewN ?_ _) | (with_reducible refine Bel.drew ?_) | (with_reducible refine Bel.alloc ?_ _) | (with_reducible refine Bel.setNew ?_ ?_ _) | (with_reducible refine Bel.trans ?_ (by assumption)) | (focus (simp; done)) | (focus (simp; omega))))
          have p0 := (hQ1).1.2 0 _ rfl
          have p1 := (hQ1).1.2 1 _ rfl
          have p2 := (hQ1).1.2 2 _ rfl
          have p3 := (hQ1).1.2 3 _ rfl
          have p4 := (hQ1).1.2 4 _ rfl
          have p5 := (hQ1).1.2 5 _ rfl
          have p6 := (hQ1).1.2 6 _ rfl
          have p7 := (hQ1).1.2 7 _ rfl
          have p8 := (hQ1).1.2 8 _ rfl
          have q0 := (hQ2).1.2 0 _ rfl
          have q1 := (hQ2).1.2 1 _ rfl
          have q2 := (hQ2).1.2 2 _ rfl
          have q3 := (hQ2).1.2 3 _ rfl
          have q4 := (hQ2).1.2 4 _ rfl
          have q5 := (hQ2).1.2 5 _ rfl
          have q6 := (hQ2).1.2 6 _ rfl
          have q7 := (hQ2).1.2 7 _ rfl
          have q8 := (hQ2).1.2 8 _ rfl
          have r0 := (hQ3).1.2 0 _ rfl
          have r1 := (hQ3).1.2 1 _ rfl
          have r2 := (hQ3).1.2 2 _ rfl
          have r3 := (hQ3).1.2 3 _ rfl
          have r4 := (hQ3).1.2 4 _ rfl
          have r5 := (hQ3).1.2 5 _ rfl
          have r6 := (hQ3).1.2 6 _ rfl
          have r7 := (hQ3).1.2 7 _ rfl
          have r8 := (hQ3).1.2 8 _ rfl
          have rp0 := fun d os => cell_regrown p0 d os
          have rp1 := fun d os => cell_regrown p1 d os
          have rp2 := fun d os => cell_regrown p2 d os
          have rp3 := fun d os => cell_regrown p3 d os
          have rp4 := fun d os => cell_regrown p4 d os
          have rp5 := fun d os => cell_regrown p5 d os
          have rp6 := fun d os => cell_regrown p6 d os
          have rp7 := fun d os => cell_regrown p7 d os
          have rp8 := fun d os => cell_regrown p8 d os
          have rq0 := fun d os => cell_regrown q0 d os
          have rq1 := fun d os => cell_regrown q1 d os
          have rq2 := fun d os => cell_regrown q2 d os
          have rq3 := fun d os => cell_regrown q3 d os
          have rq4 := fun d os => cell_regrown q4 d os
          have rq5 := fun d os => cell_regrown q5 d os
          have rq6 := fun d os => cell_regrown q6 d os
          have rq7 := fun d os => cell_regrown q7 d os
          have rq8 := fun d os => cell_regrown q8 d os
          have rr0 := fun d os => cell_regrown r0 d os
          have rr1 := fun d os => cell_regrown r1 d os
          have rr2 := fun d os => cell_regrown r2 d os
          have rr3 := fun d os => cell_regrown r3 d os
          have rr4 := fun d os => cell_regrown r4 d os
          have rr5 := fun d os => cell_regrown r5 d os
          have rr6 := fun d os => cell_regrown r6 d os
          have rr7 := fun d os => cell_regrown r7 d os
          have rr8 := fun d os => cell_regrown r8 d os
          refine wp_region_st [3, 4, 5] 6 (by kernel_rfl) (by kernel_rfl) ?_
          with_reducible refine st_sel [0, 1, 2] (by kernel_rfl) (by kernel_rfl) ?_
          simp only [picked, List.getElem?_cons_succ, List.getElem?_cons_zero, Option.toList_some, List.nil_append, List.cons_append, List.append_nil]
          try simp only [Act.put, List.setIfInBounds_toArray, List.set_cons_succ, List.set_cons_zero]
          repeat (go_big_quiet_step (fail))
          with_reducible refine wpQuiet_nil ?_
          refine st_branch [3, 5] (by kernel_rfl) (branch_cons (by simp only [List.getElem?_toArray, List.getElem?_cons_succ, List.getElem?_cons_zero]; rfl) ?_ (branch_cons (by simp only [List.getElem?_toArray, List.getElem?_cons_succ, List.getElem?_cons_zero]; rfl) ?_ branch_nil))
          · skip
            refine eff_call 17 rfl (by simp [go_sem]; rfl) (by repeat (first | (with_reducible exact Bel.refl _) | (with_reducible assumption) | (with_reducible refine Bel.drewN ?_ _) | (with_reducible refine Bel.drew ?_) | (with_reducible refine Bel.alloc ?_ _) | (with_reducible refine Bel.setNew ?_ ?_ _) | (with_reducible refine Bel.trans ?_ (by assumption)) | (focus (simp; done)) | (focus (simp; omega)))) ?_
            refine (C3.out _ _ _ (hM2.bel (by repeat (first | (with_reducible exact Bel.refl _) | (with_reducible assumption) | (with_reducible refine Bel.drewN ?_ _) | (with_reducible refine Bel.drew ?_) | (with_reducible refine Bel.alloc ?_ _) | (with_reducible refine Bel.setNew ?_ ?_ _) | (with_reducible refine Bel.trans ?_ (by assumption)) | (focus (simp; done)) | (focus (simp; omega))))) (hM3.bel (by repeat (first | (with_reducible exact Bel.refl _) | (with_reducible assumption) | (with_reducible refine Bel.drewN ?_ _) | (with_reducible refine Bel.drew ?_) | (with_reducible refine Bel.alloc ?_ _) | (with_reducible refine Bel.setNew ?_ ?_ _) | (with_reducible refine Bel.trans ?_ (by assumption)) | (focus (simp; done)) | (focus (simp; omega)))))).mono ?_; rintro e w5 ⟨A5, c5, rfl, hz5, hb5⟩
            refine ⟨_, rfl, hb5, ?_⟩
            try simp only [List.nil_append, List.cons_append, Act.put, List.setIfInBounds_toArray, List.set_cons_succ, List.set_cons_zero]
            refine st_branch [4, 5] (by kernel_rfl) (branch_cons (by simp only [List.getElem?_toArray, List.getElem?_cons_succ, List.getElem?_cons_zero]; rfl) ?_ (branch_cons (by simp only [List.getElem?_toArray, List.getElem?_cons_succ, List.getElem?_cons_zero]; rfl) ?_ branch_nil))
            · skip
              refine eff_call 17 rfl (by simp [go_sem]; rfl) (by repeat (first | (with_reducible exact Bel.refl _) | (with_reducible assumption) | (with_reducible refine Bel.drewN ?_ _) | (with_reducible refine Bel.drew ?_) | (with_reducible refine Bel.alloc ?_ _) | (with_reducible refine Bel.setNew ?_ ?_ _) | (with_reducible refine Bel.trans ?_ (by assumption)) | (focus (simp; done)) | (focus (simp; omega)))) ?_
              refine (C4.out _ _ _ _ (hM1.bel (by repeat (first | (with_reducible exact Bel.refl _) | (with_reducible assumption) | (with_reducible refine Bel.drewN ?_ _) | (with_reducible refine Bel.drew ?_) | (with_reducible refine Bel.alloc ?_ _) | (with_reducible refine Bel.setNew ?_ ?_ _) | (with_reducible refine Bel.trans ?_ (by assumption)) | (focus (simp; done)) | (focus (simp; omega))))) (hz5.1.bel (by repeat (first | (with_reducible exact Bel.refl _) | (with_reducible assumption) | (with_reducible refine Bel.drewN ?_ _) | (with_reducible refine Bel.drew ?_) | (with_reducible refine Bel.alloc ?_ _) | (with_reducible refine Bel.setNew ?_ ?_ _) | (with_reducible refine Bel.trans ?_ (by assumption)) | (focus (simp; done)) | (focus (simp; omega)))))).mono ?_; rintro e w6 ⟨A6, c6', rfl, hz6, hb6⟩
              refine ⟨_, rfl, hb6, ?_⟩
              try simp only [List.nil_append, List.cons_append, Act.put, List.setIfInBounds_toArray, List.set_cons_succ, List.set_cons_zero]
              refine st_branch [5] (by kernel_rfl) (branch_cons (by simp only [List.getElem?_toArray, List.getElem?_cons_succ, List.getElem?_cons_zero]; rfl) ?_ branch_nil)
              refine eff_made rfl (by simp [go_sem]; exact ⟨rfl, rfl⟩) (by repeat (first | (with_reducible exact Bel.refl _) | (with_reducible assumption) | (with_reducible refine Bel.drewN ?_ _) | (with_reducible refine Bel.drew ?_) | (with_reducible refine Bel.alloc ?_ _) | (with_reducible refine Bel.setNew ?_ ?_ _) | (with_reducible refine Bel.trans ?_ (by assumption)) | (focus (simp; done)) | (focus (simp; omega)))) ?_
              try simp only [List.nil_append, List.cons_append, Act.put, List.setIfInBounds_toArray, List.set_cons_succ, List.set_cons_zero]
              refine st_end (by kernel_rfl) ?_
              simp only [List.drop_succ_cons, List.drop_zero, List.drop_nil]
              have hb26 : Bel W9 w6 := by
                refine Bel.trans ?_ hb6
                exact (by repeat (first | (with_reducible exact Bel.refl _) | (with_reducible assumption) | (with_reducible refine Bel.drewN ?_ _) | (with_reducible refine Bel.drew ?_) | (with_reducible refine Bel.alloc ?_ _) | (with_reducible refine Bel.setNew ?_ ?_ _) | (with_reducible refine Bel.trans ?_ (by assumption)) | (focus (simp; done)) | (focus (simp; omega))))
              have hmm : Mems w6 ⟨i7, a7, k7, s7, c7, e7, f7, A6, l7.length, c6', y7⟩ l7 := hz6.1
              go_wp2_with fail
              go_meet
              exact ⟨_, A6, c6', rfl, AtF.new_at rfl _ _, hmm.bel ((Bel.refl _).alloc _), hb26.alloc _⟩
            · skip
              refine eff_made rfl (by simp [go_sem]; exact ⟨rfl, rfl⟩) (by repeat (first | (with_reducible exact Bel.refl _) | (with_reducible assumption) | (with_reducible refine Bel.drewN ?_ _) | (with_reducible refine Bel.drew ?_) | (with_reducible refine Bel.alloc ?_ _) | (with_reducible refine Bel.setNew ?_ ?_ _) | (with_reducible refine Bel.trans ?_ (by assumption)) | (focus (simp; done)) | (focus (simp; omega)))) ?_
              try simp only [List.nil_append, List.cons_append, Act.put, List.setIfInBounds_toArray, List.set_cons_succ, List.set_cons_zero]
              refine st_branch [4] (by kernel_rfl) (branch_cons (by simp only [List.getElem?_toArray, List.getElem?_cons_succ, List.getElem?_cons_zero]; rfl) ?_ branch_nil)
              refine eff_call 17 rfl (by simp [go_sem]; rfl) (by repeat (first | (with_reducible exact Bel.refl _) | (with_reducible assumption) | (with_reducible refine Bel.drewN ?_ _) | (with_reducible refine Bel.drew ?_) | (with_reducible refine Bel.alloc ?_ _) | (with_reducible refine Bel.setNew ?_ ?_ _) | (with_reducible refine Bel.trans ?_ (by assumption)) | (focus (simp; done)) | (focus (simp; omega)))) ?_
              refine (C4.out _ _ _ _ (hM1.bel (by repeat (first | (with_reducible exact Bel.refl _) | (with_reducible assumption) | (with_reducible refine Bel.drewN ?_ _) | (with_reducible refine Bel.drew ?_) | (with_reducible refine Bel.alloc ?_ _) | (with_reducible refine Bel.setNew ?_ ?_ _) | (with_reducible refine Bel.trans ?_ (by assumption)) | (focus (simp; done)) | (focus (simp; omega))))) (hz5.1.bel (by repeat (first | (with_reducible exact Bel.refl _) | (with_reducible assumption) | (with_reducible refine Bel.drewN ?_ _) | (with_reducible refine Bel.drew ?_) | (with_reducible refine Bel.alloc ?_ _) | (with_reducible refine Bel.setNew ?_ ?_ _) | (with_reducible refine Bel.trans ?_ (by assumption)) | (focus (simp; done)) | (focus (simp; omega)))))).mono ?_; rintro e w6 ⟨A6, c6', rfl, hz6, hb6⟩
              refine ⟨_, rfl, hb6, ?_⟩
              try simp only [List.nil_append, List.cons_append, Act.put, List.setIfInBounds_toArray, List.set_cons_succ, List.set_cons_zero]
              refine st_end (by kernel_rfl) ?_
              simp only [List.drop_succ_cons, List.drop_zero, List.drop_nil]
              have hcl : ∀ q, (Value.slice A6 l7.length c6').ownBlock = some q → (w5.alloc (.cells #[.int .i64 0, .int .i64 0, .int .i64 0, .int .i64 0, .int .i64 0, .string ⟨#[]⟩, .bool false, .slice none 0 0, .int .i64 0] 27)).heap.size ≤ q := hz6.2
              simp only [World.size_alloc] at hcl
              have hH : AtF w6 w5.heap.size [.int .i64 0, .int .i64 0, .int .i64 0, .int .i64 0, .int .i64 0, .string ⟨#[]⟩, .bool false, .slice none 0 0, .int .i64 0] := (AtF.new_at (w := w5) rfl 27 [.int .i64 0, .int .i64 0, .int .i64 0, .int .i64 0, .int .i64 0, .string ⟨#[]⟩, .bool false, .slice none 0 0, .int .i64 0]).bel hb6
              have hb26 : Bel W9 w6 := by
                refine Bel.trans ?_ hb6
                exact (by repeat (first | (with_reducible exact Bel.refl _) | (with_reducible assumption) | (with_reducible refine Bel.drewN ?_ _) | (with_reducible refine Bel.drew ?_) | (with_reducible refine Bel.alloc ?_ _) | (with_reducible refine Bel.setNew ?_ ?_ _) | (with_reducible refine Bel.trans ?_ (by assumption)) | (focus (simp; done)) | (focus (simp; omega))))
              have hs6 := hb26.size
              have hs7 : W9.heap.size ≤ w5.heap.size := by have := hb5.size; simpa using this
              have hHs := hH.setRow [.int .i64 i7, .int .i64 a7, .int .i64 k7, .int .i64 s7, .int .i64 c7, .string e7, .bool f7, .slice (A6) l7.length (c6'), .int .i64 y7] rfl
              have hmm : Mems w6 ⟨i7, a7, k7, s7, c7, e7, f7, A6, l7.length, c6', y7⟩ l7 := hz6.1
              have hbs := Bel.setRow (B := w5.heap.size) (i := 0) [.int .i64 i7, .int .i64 a7, .int .i64 k7, .int .i64 s7, .int .i64 c7, .string e7, .bool f7, .slice (A6) l7.length (c6'), .int .i64 y7] hb26 (by omega)
              have hms : Mems (setRow w6 (w5.heap.size) 0 [.int .i64 i7, .int .i64 a7, .int .i64 k7, .int .i64 s7, .int .i64 c7, .string e7, .bool f7, .slice (A6) l7.length (c6'), .int .i64 y7]) ⟨i7, a7, k7, s7, c7, e7, f7, A6, l7.length, c6', y7⟩ l7 := ⟨hmm.len, hmm.rd.setRow (B := w5.heap.size) (i := 0) [.int .i64 i7, .int .i64 a7, .int .i64 k7, .int .i64 s7, .int .i64 c7, .string e7, .bool f7, .slice (A6) l7.length (c6'), .int .i64 y7] (fun e => by have := hcl _ e; omega), hmm.ids, hmm.dl⟩
              have HX := Lib.hid (And.intro hHs (And.intro hms hbs))
              have z0 := (hH).1.2 0 _ rfl
              have z1 := (hH).1.2 1 _ rfl
              have z2 := (hH).1.2 2 _ rfl
              have z3 := (hH).1.2 3 _ rfl
              have z4 := (hH).1.2 4 _ rfl
              have z5 := (hH).1.2 5 _ rfl
              have z6 := (hH).1.2 6 _ rfl
              have z7 := (hH).1.2 7 _ rfl
              have z8 := (hH).1.2 8 _ rfl
              have zf := hH.2
              have zl := hH.1.1
              clear hHs hms hbs
              go_wp2_with fail
              go_meet
              exact ⟨_, A6, c6', rfl, HX.out.1, HX.out.2.1, HX.out.2.2⟩
          · skip
            refine eff_made rfl (by simp [go_sem]; exact ⟨rfl, rfl⟩) (by repeat (first | (with_reducible exact Bel.refl _) | (with_reducible assumption) | (with_reducible refine Bel.drewN ?_ _) | (with_reducible refine Bel.drew ?_) | (with_reducible refine Bel.alloc ?_ _) | (with_reducible refine Bel.setNew ?_ ?_ _) | (with_reducible refine Bel.trans ?_ (by assumption)) | (focus (simp; done)) | (focus (simp; omega)))) ?_
            try simp only [List.nil_append, List.cons_append, Act.put, List.setIfInBounds_toArray, List.set_cons_succ, List.set_cons_zero]
            refine st_branch [3] (by kernel_rfl) (branch_cons (by simp only [List.getElem?_toArray, List.getElem?_cons_succ, List.getElem?_cons_zero]; rfl) ?_ branch_nil)
            refine eff_call 17 rfl (by simp [go_sem]; rfl) (by repeat (first | (with_reducible exact Bel.refl _) | (with_reducible assumption) | (with_reducible refine Bel.drewN ?_ _) | (with_reducible refine Bel.drew ?_) | (with_reducible refine Bel.alloc ?_ _) | (with_reducible refine Bel.setNew ?_ ?_ _) | (with_reducible refine Bel.trans ?_ (by assumption)) | (focus (simp; done)) | (focus (simp; omega)))) ?_
            refine (C3.out _ _ _ (hM2.bel (by repeat (first | (with_reducible exact Bel.refl _) | (with_reducible assumption) | (with_reducible refine Bel.drewN ?_ _) | (with_reducible refine Bel.drew ?_) | (with_reducible refine Bel.alloc ?_ _) | (with_reducible refine Bel.setNew ?_ ?_ _) | (with_reducible refine Bel.trans ?_ (by assumption)) | (focus (simp; done)) | (focus (simp; omega))))) (hM3.bel (by repeat (first | (with_reducible exact Bel.refl _) | (with_reducible assumption) | (with_reducible refine Bel.drewN ?_ _) | (with_reducible refine Bel.drew ?_) | (with_reducible refine Bel.alloc ?_ _) | (with_reducible refine Bel.setNew ?_ ?_ _) | (with_reducible refine Bel.trans ?_ (by assumption)) | (focus (simp; done)) | (focus (simp; omega)))))).mono ?_; rintro e w5 ⟨A5, c5, rfl, hz5, hb5⟩
            refine ⟨_, rfl, hb5, ?_⟩
            try simp only [List.nil_append, List.cons_append, Act.put, List.setIfInBounds_toArray, List.set_cons_succ, List.set_cons_zero]
            refine st_branch [4] (by kernel_rfl) (branch_cons (by simp only [List.getElem?_toArray, List.getElem?_cons_succ, List.getElem?_cons_zero]; rfl) ?_ branch_nil)
            refine eff_call 17 rfl (by simp [go_sem]; rfl) (by repeat (first | (with_reducible exact Bel.refl _) | (with_reducible assumption) | (with_reducible refine Bel.drewN ?_ _) | (with_reducible refine Bel.drew ?_) | (with_reducible refine Bel.alloc ?_ _) | (with_reducible refine Bel.setNew ?_ ?_ _) | (with_reducible refine Bel.trans ?_ (by assumption)) | (focus (simp; done)) | (focus (simp; omega)))) ?_
            refine (C4.out _ _ _ _ (hM1.bel (by repeat (first | (with_reducible exact Bel.refl _) | (with_reducible assumption) | (with_reducible refine Bel.drewN ?_ _) | (with_reducible refine Bel.drew ?_) | (with_reducible refine Bel.alloc ?_ _) | (with_reducible refine Bel.setNew ?_ ?_ _) | (with_reducible refine Bel.trans ?_ (by assumption)) | (focus (simp; done)) | (focus (simp; omega))))) (hz5.1.bel (by repeat (first | (with_reducible exact Bel.refl _) | (with_reducible assumption) | (with_reducible refine Bel.drewN ?_ _) | (with_reducible refine Bel.drew ?_) | (with_reducible refine Bel.alloc ?_ _) | (with_reducible refine Bel.setNew ?_ ?_ _) | (with_reducible refine Bel.trans ?_ (by assumption)) | (focus (simp; done)) | (focus (simp; omega)))))).mono ?_; rintro e w6 ⟨A6, c6', rfl, hz6, hb6⟩
            refine ⟨_, rfl, hb6, ?_⟩
            try simp only [List.nil_append, List.cons_append, Act.put, List.setIfInBounds_toArray, List.set_cons_succ, List.set_cons_zero]
            refine st_end (by kernel_rfl) ?_
            simp only [List.drop_succ_cons, List.drop_zero, List.drop_nil]
            have hcl : ∀ q, (Value.slice A6 l7.length c6').ownBlock = some q → w5.heap.size ≤ q := hz6.2
            have hs5 : W9.heap.size < w5.heap.size := by have := hb5.size; simp at this; omega
            have hH : AtF w6 W9.heap.size [.int .i64 0, .int .i64 0, .int .i64 0, .int .i64 0, .int .i64 0, .string ⟨#[]⟩, .bool false, .slice none 0 0, .int .i64 0] := ((AtF.new_at (w := (W9).drew) rfl 27 [.int .i64 0, .int .i64 0, .int .i64 0, .int .i64 0, .int .i64 0, .string ⟨#[]⟩, .bool false, .slice none 0 0, .int .i64 0]).bel hb5).bel hb6
            have hb26 : Bel W9 w6 := by
              refine Bel.trans ?_ hb6
              refine Bel.trans ?_ hb5
              exact (by repeat (first | (with_reducible exact Bel.refl _) | (with_reducible assumption) | (with_reducible refine Bel.drewN ?_ _) | (with_reducible refine Bel.drew ?_) | (with_reducible refine Bel.alloc ?_ _) | (with_reducible refine Bel.setNew ?_ ?_ _) | (with_reducible refine Bel.trans ?_ (by assumption)) | (focus (simp; done)) | (focus (simp; omega))))
            have hHs := hH.setRow [.int .i64 i7, .int .i64 a7, .int .i64 k7, .int .i64 s7, .int .i64 c7, .string e7, .bool f7, .slice (A6) l7.length (c6'), .int .i64 y7] rfl
            have hmm : Mems w6 ⟨i7, a7, k7, s7, c7, e7, f7, A6, l7.length, c6', y7⟩ l7 := hz6.1
            have hbs := Bel.setRow (B := W9.heap.size) (i := 0) [.int .i64 i7, .int .i64 a7, .int .i64 k7, .int .i64 s7, .int .i64 c7, .string e7, .bool f7, .slice (A6) l7.length (c6'), .int .i64 y7] hb26 (by omega)
            have hms : Mems (setRow w6 (W9.heap.size) 0 [.int .i64 i7, .int .i64 a7, .int .i64 k7, .int .i64 s7, .int .i64 c7, .string e7, .bool f7, .slice (A6) l7.length (c6'), .int .i64 y7]) ⟨i7, a7, k7, s7, c7, e7, f7, A6, l7.length, c6', y7⟩ l7 := ⟨hmm.len, hmm.rd.setRow (B := W9.heap.size) (i := 0) [.int .i64 i7, .int .i64 a7, .int .i64 k7, .int .i64 s7, .int .i64 c7, .string e7, .bool f7, .slice (A6) l7.length (c6'), .int .i64 y7] (fun e => by have := hcl _ e; omega), hmm.ids, hmm.dl⟩
            have HX := Lib.hid (And.intro hHs (And.intro hms hbs))
            have z0 := (hH).1.2 0 _ rfl
            have z1 := (hH).1.2 1 _ rfl
            have z2 := (hH).1.2 2 _ rfl
            have z3 := (hH).1.2 3 _ rfl
            have z4 := (hH).1.2 4 _ rfl
            have z5 := (hH).1.2 5 _ rfl
            have z6 := (hH).1.2 6 _ rfl
            have z7 := (hH).1.2 7 _ rfl
            have z8 := (hH).1.2 8 _ rfl
            have zf := hH.2
            have zl := hH.1.1
            clear hHs hms hbs
            go_wp2_with fail
            go_meet
            exact ⟨_, A6, c6', rfl, HX.out.1, HX.out.2.1, HX.out.2.2⟩
        case rest =>
          obtain ⟨H2, AX2, cX2, rfl, hH2, hX2, hbx⟩ := hcut
          obtain ⟨W0, rfl⟩ : ∃ W, W = wc := ⟨_, rfl⟩
          replace hP1 := hP1.bel hbx
          replace hP2 := hP2.bel hbx
          replace hP3 := hP3.bel hbx
          replace hM1 := hM1.bel hbx
          replace hM2 := hM2.bel hbx
          replace hM3 := hM3.bel hbx
          replace hBW := hBW.trans hbx

          replace hH1 := hH1.bel hbx
          replace hX1 := hX1.bel hbx
          clear hbx
          go_upto_region 10 with fail
          go_cut [22] (fun hv wx => ∃ (H : Nat) (A : Option Addr) (c : Nat), hv = .pointer (some ⟨H, 0, none⟩) ∧ AtF wx H [.int .i64 i7, .int .i64 a7, .int .i64 k7, .int .i64 s7, .int .i64 c7, .string e7, .bool f7, .slice (A) l7.length (c), .int .i64 y7] ∧ Mems wx ⟨i7, a7, k7, s7, c7, e7, f7, A, l7.length, c, y7⟩ l7 ∧ Bel W0 wx)
          case first =>
            have hQ1 : AtF W0 B1 [.int .i64 i1, .int .i64 a1, .int .i64 k1, .int .i64 s1, .int .i64 c1, .string e1, .bool f1, .slice (some ⟨A1, 0, none⟩) l1.length 1, .int .i64 y1] := hP1.bel (by repeat (first | (with_reducible exact Bel.refl _) | (with_reducible assumption) | (with_reducible refine Bel.drewN ?_ _) | (with_reducible refine Bel.drew ?_) | (with_reducible refine Bel.alloc ?_ _) | (with_reducible refine Bel.setNew ?_ ?_ _) | (with_reducible refine Bel.trans ?_ (by assumption)) | (focus (simp; done)) | (focus (simp; omega))))
            have hQ2 : AtF W0 B2 [.int .i64 i2, .int .i64 a2, .int .i64 k2, .int .i64 s2, .int .i64 c2, .string e2, .bool f2, .slice (some ⟨A2, 0, none⟩) l2.length 1, .int .i64 y2] := hP2.bel (by repeat (first | (with_reducible exact Bel.refl _) | (with_reducible assumption) | (with_reducible refine Bel.drewN ?_ _) | (with_reducible refine Bel.drew ?_) | (with_reducible refine Bel.alloc ?_ _) | (with_reducible refine Bel.setNew ?_ ?_ _) | (with_reducible refine Bel.trans ?_ (by assumption)) | (focus (simp; done)) | (focus (simp; omega))))
            have hQ3 : AtF W0 B3 [.int .i64 i3, .int .i64 a3, .int .i64 k3, .int .i64 s3, .int .i64 c3, .string e3, .bool f3, .slice (some ⟨A3, 0, none⟩) l3.length 1, .int .i64 y3] := hP3.bel (by repeat (first | (with_reducible exact Bel.refl _) | (with_reducible assumption) | (with_reducible refine Bel.drewN ?_ _) | (with_reducible refine Bel.drew ?_) | (with_reducible refine Bel.alloc ?_ _) | (with_reducible refine Bel.setNew ?_ ?_ _) | (with_reducible refine Bel.trans ?_ (by assumption)) | (focus (simp; done)) | (focus (simp; omega))))
            have p0 := (hQ1).1.2 0 _ rfl
            have p1 := (hQ1).1.2 1 _ rfl
            have p2 := (hQ1).1.2 2 _ rfl
            have p3 := (hQ1).1.2 3 _ rfl
            have p4 := (hQ1).1.2 4 _ rfl
            have p5 := (hQ1).1.2 5 _ rfl
            have p6 := (hQ1).1.2 6 _ rfl
            have p7 := (hQ1).1.2 7 _ rfl
            have p8 := (hQ1).1.2 8 _ rfl
            have q0 := (hQ2).1.2 0 _ rfl
            have q1 := (hQ2).1.2 1 _ rfl
            have q2 := (hQ2).1.2 2 _ rfl
            have q3 := (hQ2).1.2 3 _ rfl
            have q4 := (hQ2).1.2 4 _ rfl
            have q5 := (hQ2).1.2 5 _ rfl
            have q6 := (hQ2).1.2 6 _ rfl
            have q7 := (hQ2).1.2 7 _ rfl
            have q8 := (hQ2).1.2 8 _ rfl
            have r0 := (hQ3).1.2 0 _ rfl
            have r1 := (hQ3).1.2 1 _ rfl
            have r2 := (hQ3).1.2 2 _ rfl
            have r3 := (hQ3).1.2 3 _ rfl
            have r4 := (hQ3).1.2 4 _ rfl
            have r5 := (hQ3).1.2 5 _ rfl
            have r6 := (hQ3).1.2 6 _ rfl
            have r7 := (hQ3).1.2 7 _ rfl
            have r8 := (hQ3).1.2 8 _ rfl
            have rp0 := fun d os => cell_regrown p0 d os
            have rp1 := fun d os => cell_regrown p1 d os
            have rp2 := fun d os => cell_regrown p2 d os
            have rp3 := fun d os => cell_regrown p3 d os
            have rp4 := fun d os => cell_regrown p4 d os
            have rp5 := fun d os => cell_regrown p5 d os
            have rp6 := fun d os => cell_regrown p6 d os
            have rp7 := fun d os => cell_regrown p7 d os
            have rp8 := fun d os => cell_regrown p8 d os
            have rq0 := fun d os => cell_regrown q0 d os
            have rq1 := fun d os => cell_regrown q1 d os
            have rq2 := fun d os => cell_regrown q2 d os
            have rq3 := fun d os => cell_regrown q3 d os
            have rq4 := fun d os => cell_regrown q4 d os
            have rq5 := fun d os => cell_regrown q5 d os
            have rq6 := fun d os => cell_regrown q6 d os
            have rq7 := fun d os => cell_regrown q7 d os
            have rq8 := fun d os => cell_regrown q8 d os
            have rr0 := fun d os => cell_regrown r0 d os
            have rr1 := fun d os => cell_regrown r1 d os
            have rr2 := fun d os => cell_regrown r2 d os
            have rr3 := fun d os => cell_regrown r3 d os
            have rr4 := fun d os => cell_regrown r4 d os
            have rr5 := fun d os => cell_regrown r5 d os
            have rr6 := fun d os => cell_regrown r6 d os
            have rr7 := fun d os => cell_regrown r7 d os
            have rr8 := fun d os => cell_regrown r8 d os
            refine wp_region_st [2, 4, 5] 6 (by kernel_rfl) (by kernel_rfl) ?_
            with_reducible refine st_sel [0, 1, 3] (by kernel_rfl) (by kernel_rfl) ?_
            simp only [picked, List.getElem?_cons_succ, List.getElem?_cons_zero, Option.toList_some, List.nil_append, List.cons_append, List.append_nil]
            try simp only [Act.put, List.setIfInBounds_toArray, List.set_cons_succ, List.set_cons_zero]
            repeat (go_big_quiet_step (fail))
            with_reducible refine wpQuiet_nil ?_
            refine st_branch [2, 5] (by kernel_rfl) (branch_cons (by simp only [List.getElem?_toArray, List.getElem?_cons_succ, List.getElem?_cons_zero]; rfl) ?_ (branch_cons (by simp only [List.getElem?_toArray, List.getElem?_cons_succ, List.getElem?_cons_zero]; rfl) ?_ branch_nil))
            · skip
              refine eff_call 17 rfl (by simp [go_sem]; rfl) (by repeat (first | (with_reducible exact Bel.refl _) | (with_reducible assumption) | (with_reducible refine Bel.drewN ?_ _) | (with_reducible refine Bel.drew ?_) | (with_reducible refine Bel.alloc ?_ _) | (with_reducible refine Bel.setNew ?_ ?_ _) | (with_reducible refine Bel.trans ?_ (by assumption)) | (focus (simp; done)) | (focus (simp; omega)))) ?_
              refine (C5.out _ _ _ (hM3.bel (by repeat (first | (with_reducible exact Bel.refl _) | (with_reducible assumption) | (with_reducible refine Bel.drewN ?_ _) | (with_reducible refine Bel.drew ?_) | (with_reducible refine Bel.alloc ?_ _) | (with_reducible refine Bel.setNew ?_ ?_ _) | (with_reducible refine Bel.trans ?_ (by assumption)) | (focus (simp; done)) | (focus (simp; omega))))) (hM2.bel (by repeat (first | (with_reducible exact Bel.refl _) | (with_reducible assumption) | (with_reducible refine Bel.drewN ?_ _) | (with_reducible refine Bel.drew ?_) | (with_reducible refine Bel.alloc ?_ _) | (with_reducible refine Bel.setNew ?_ ?_ _) | (with_reducible refine Bel.trans ?_ (by assumption)) | (focus (simp; done)) | (focus (simp; omega)))))).mono ?_; rintro e w5 ⟨A5, c5, rfl, hz5, hb5⟩
              refine ⟨_, rfl, hb5, ?_⟩
              try simp only [List.nil_append, List.cons_append, Act.put, List.setIfInBounds_toArray, List.set_cons_succ, List.set_cons_zero]
              refine st_branch [4, 5] (by kernel_rfl) (branch_cons (by simp only [List.getElem?_toArray, List.getElem?_cons_succ, List.getElem?_cons_zero]; rfl) ?_ (branch_cons (by simp only [List.getElem?_toArray, List.getElem?_cons_succ, List.getElem?_cons_zero]; rfl) ?_ branch_nil))
              · skip
                refine eff_call 17 rfl (by simp [go_sem]; rfl) (by repeat (first | (with_reducible exact Bel.refl _) | (with_reducible assumption) | (with_reducible refine Bel.drewN ?_ _) | (with_reducible refine Bel.drew ?_) | (with_reducible refine Bel.alloc ?_ _) | (with_reducible refine Bel.setNew ?_ ?_ _) | (with_reducible refine Bel.trans ?_ (by assumption)) | (focus (simp; done)) | (focus (simp; omega)))) ?_
                refine (C6.out _ _ _ _ (hz5.1.bel (by repeat (first | (with_reducible exact Bel.refl _) | (with_reducible assumption) | (with_reducible refine Bel.drewN ?_ _) | (with_reducible refine Bel.drew ?_) | (with_reducible refine Bel.alloc ?_ _) | (with_reducible refine Bel.setNew ?_ ?_ _) | (with_reducible refine Bel.trans ?_ (by assumption)) | (focus (simp; done)) | (focus (simp; omega))))) (hM1.bel (by repeat (first | (with_reducible exact Bel.refl _) | (with_reducible assumption) | (with_reducible refine Bel.drewN ?_ _) | (with_reducible refine Bel.drew ?_) | (with_reducible refine Bel.alloc ?_ _) | (with_reducible refine Bel.setNew ?_ ?_ _) | (with_reducible refine Bel.trans ?_ (by assumption)) | (focus (simp; done)) | (focus (simp; omega)))))).mono ?_; rintro e w6 ⟨A6, c6', rfl, hz6, hb6⟩
                refine ⟨_, rfl, hb6, ?_⟩
                try simp only [List.nil_append, List.cons_append, Act.put, List.setIfInBounds_toArray, List.set_cons_succ, List.set_cons_zero]
                refine st_branch [5] (by kernel_rfl) (branch_cons (by simp only [List.getElem?_toArray, List.getElem?_cons_succ, List.getElem?_cons_zero]; rfl) ?_ branch_nil)
                refine eff_made rfl (by simp [go_sem]; exact ⟨rfl, rfl⟩) (by repeat (first | (with_reducible exact Bel.refl _) | (with_reducible assumption) | (with_reducible refine Bel.drewN ?_ _) | (with_reducible refine Bel.drew ?_) | (with_reducible refine Bel.alloc ?_ _) | (with_reducible refine Bel.setNew ?_ ?_ _) | (with_reducible refine Bel.trans ?_ (by assumption)) | (focus (simp; done)) | (focus (simp; omega)))) ?_
                try simp only [List.nil_append, List.cons_append, Act.put, List.setIfInBounds_toArray, List.set_cons_succ, List.set_cons_zero]
                refine st_end (by kernel_rfl) ?_
                simp only [List.drop_succ_cons, List.drop_zero, List.drop_nil]
                have hb26 : Bel W0 w6 := by
                  refine Bel.trans ?_ hb6
                  exact (by repeat (first | (with_reducible exact Bel.refl _) | (with_reducible assumption) | (with_reducible refine Bel.drewN ?_ _) | (with_reducible refine Bel.drew ?_) | (with_reducible refine Bel.alloc ?_ _) | (with_reducible refine Bel.setNew ?_ ?_ _) | (with_reducible refine Bel.trans ?_ (by assumption)) | (focus (simp; done)) | (focus (simp; omega))))
                have hmm : Mems w6 ⟨i7, a7, k7, s7, c7, e7, f7, A6, l7.length, c6', y7⟩ l7 := hz6.1
                go_wp2_with fail
                go_meet
                exact ⟨_, A6, c6', rfl, AtF.new_at rfl _ _, hmm.bel ((Bel.refl _).alloc _), hb26.alloc _⟩
              · skip
                refine eff_made rfl (by simp [go_sem]; exact ⟨rfl, rfl⟩) (by repeat (first | (with_reducible exact Bel.refl _) | (with_reducible assumption) | (with_reducible refine Bel.drewN ?_ _) | (with_reducible refine Bel.drew ?_) | (with_reducible refine Bel.alloc ?_ _) | (with_reducible refine Bel.setNew ?_ ?_ _) | (with_reducible refine Bel.trans ?_ (by assumption)) | (focus (simp; done)) | (focus (simp; omega)))) ?_
                try simp only [List.nil_append, List.cons_append, Act.put, List.setIfInBounds_toArray, List.set_cons_succ, List.set_cons_zero]
                refine st_branch [4] (by kernel_rfl) (branch_cons (by simp only [List.getElem?_toArray, List.getElem?_cons_succ, List.getElem?_cons_zero]; rfl) ?_ branch_nil)
                refine eff_call 17 rfl (by simp [go_sem]; rfl) (by repeat (first | (with_reducible exact Bel.refl _) | (with_reducible assumption) | (with_reducible refine Bel.drewN ?_ _) | (with_reducible refine Bel.drew ?_) | (with_reducible refine Bel.alloc ?_ _) | (with_reducible refine Bel.setNew ?_ ?_ _) | (with_reducible refine Bel.trans ?_ (by assumption)) | (focus (simp; done)) | (focus (simp; omega)))) ?_
                refine (C6.out _ _ _ _ (hz5.1.bel (by repeat (first | (with_reducible exact Bel.refl _) | (with_reducible assumption) | (with_reducible refine Bel.drewN ?_ _) | (with_reducible refine Bel.drew ?_) | (with_reducible refine Bel.alloc ?_ _) | (with_reducible refine Bel.setNew ?_ ?_ _) | (with_reducible refine Bel.trans ?_ (by assumption)) | (focus (simp; done)) | (focus (simp; omega))))) (hM1.bel (by repeat (first | (with_reducible exact Bel.refl _) | (with_reducible assumption) | (with_reducible refine Bel.drewN ?_ _) | (with_reducible refine Bel.drew ?_) | (with_reducible refine Bel.alloc ?_ _) | (with_reducible refine Bel.setNew ?_ ?_ _) | (with_reducible refine Bel.trans ?_ (by assumption)) | (focus (simp; done)) | (focus (simp; omega)))))).mono ?_; rintro e w6 ⟨A6, c6', rfl, hz6, hb6⟩
                refine ⟨_, rfl, hb6, ?_⟩
                try simp only [List.nil_append, List.cons_append, Act.put, List.setIfInBounds_toArray, List.set_cons_succ, List.set_cons_zero]
                refine st_end (by kernel_rfl) ?_
                simp only [List.drop_succ_cons, List.drop_zero, List.drop_nil]
                have hcl : ∀ q, (Value.slice A6 l7.length c6').ownBlock = some q → (w5.alloc (.cells #[.int .i64 0, .int .i64 0, .int .i64 0, .int .i64 0, .int .i64 0, .string ⟨#[]⟩, .bool false, .slice none 0 0, .int .i64 0] 27)).heap.size ≤ q := hz6.2
                simp only [World.size_alloc] at hcl
                have hH : AtF w6 w5.heap.size [.int .i64 0, .int .i64 0, .int .i64 0, .int .i64 0, .int .i64 0, .string ⟨#[]⟩, .bool false, .slice none 0 0, .int .i64 0] := (AtF.new_at (w := w5) rfl 27 [.int .i64 0, .int .i64 0, .int .i64 0, .int .i64 0, .int .i64 0, .string ⟨#[]⟩, .bool false, .slice none 0 0, .int .i64 0]).bel hb6
                have hb26 : Bel W0 w6 := by
                  refine Bel.trans ?_ hb6
                  exact (by repeat (first | (with_reducible exact Bel.refl _) | (with_reducible assumption) | (with_reducible refine Bel.drewN ?_ _) | (with_reducible refine Bel.drew ?_) | (with_reducible refine Bel.alloc ?_ _) | (with_reducible refine Bel.setNew ?_ ?_ _) | (with_reducible refine Bel.trans ?_ (by assumption)) | (focus (simp; done)) | (focus (simp; omega))))
                have hs6 := hb26.size
                have hs7 : W0.heap.size ≤ w5.heap.size := by have := hb5.size; simpa using this
                have hHs := hH.setRow [.int .i64 i7, .int .i64 a7, .int .i64 k7, .int .i64 s7, .int .i64 c7, .string e7, .bool f7, .slice (A6) l7.length (c6'), .int .i64 y7] rfl
                have hmm : Mems w6 ⟨i7, a7, k7, s7, c7, e7, f7, A6, l7.length, c6', y7⟩ l7 := hz6.1
                have hbs := Bel.setRow (B := w5.heap.size) (i := 0) [.int .i64 i7, .int .i64 a7, .int .i64 k7, .int .i64 s7, .int .i64 c7, .string e7, .bool f7, .slice (A6) l7.length (c6'), .int .i64 y7] hb26 (by omega)
                have hms : Mems (setRow w6 (w5.heap.size) 0 [.int .i64 i7, .int .i64 a7, .int .i64 k7, .int .i64 s7, .int .i64 c7, .string e7, .bool f7, .slice (A6) l7.length (c6'), .int .i64 y7]) ⟨i7, a7, k7, s7, c7, e7, f7, A6, l7.length, c6', y7⟩ l7 := ⟨hmm.len, hmm.rd.setRow (B := w5.heap.size) (i := 0) [.int .i64 i7, .int .i64 a7, .int .i64 k7, .int .i64 s7, .int .i64 c7, .string e7, .bool f7, .slice (A6) l7.length (c6'), .int .i64 y7] (fun e => by have := hcl _ e; omega), hmm.ids, hmm.dl⟩
                have HX := Lib.hid (And.intro hHs (And.intro hms hbs))
                have z0 := (hH).1.2 0 _ rfl
                have z1 := (hH).1.2 1 _ rfl
                have z2 := (hH).1.2 2 _ rfl
                have z3 := (hH).1.2 3 _ rfl
                have z4 := (hH).1.2 4 _ rfl
                have z5 := (hH).1.2 5 _ rfl
                have z6 := (hH).1.2 6 _ rfl
                have z7 := (hH).1.2 7 _ rfl
                have z8 := (hH).1.2 8 _ rfl
                have zf := hH.2
                have zl := hH.1.1
                clear hHs hms hbs
                go_wp2_with fail
                go_meet
                exact ⟨_, A6, c6', rfl, HX.out.1, HX.out.2.1, HX.out.2.2⟩
            · skip
              refine eff_made rfl (by simp [go_sem]; exact ⟨rfl, rfl⟩) (by repeat (first | (with_reducible exact Bel.refl _) | (with_reducible assumption) | (with_reducible refine Bel.drewN ?_ _) | (with_reducible refine Bel.drew ?_) | (with_reducible refine Bel.alloc ?_ _) | (with_reducible refine Bel.setNew ?_ ?_ _) | (with_reducible refine Bel.trans ?_ (by assumption)) | (focus (simp; done)) | (focus (simp; omega)))) ?_
              try simp only [List.nil_append, List.cons_append, Act.put, List.setIfInBounds_toArray, List.set_cons_succ, List.set_cons_zero]
              refine st_branch [2] (by kernel_rfl) (branch_cons (by simp only [List.getElem?_toArray, List.getElem?_cons_succ, List.getElem?_cons_zero]; rfl) ?_ branch_nil)
              refine eff_call 17 rfl (by simp [go_sem]; rfl) (by repeat (first | (with_reducible exact Bel.refl _) | (with_reducible assumption) | (with_reducible refine Bel.drewN ?_ _) | (with_reducible refine Bel.drew ?_) | (with_reducible refine Bel.alloc ?_ _) | (with_reducible refine Bel.setNew ?_ ?_ _) | (with_reducible refine Bel.trans ?_ (by assumption)) | (focus (simp; done)) | (focus (simp; omega)))) ?_
              refine (C5.out _ _ _ (hM3.bel (by repeat (first | (with_reducible exact Bel.refl _) | (with_reducible assumption) | (with_reducible refine Bel.drewN ?_ _) | (with_reducible refine Bel.drew ?_) | (with_reducible refine Bel.alloc ?_ _) | (with_reducible refine Bel.setNew ?_ ?_ _) | (with_reducible refine Bel.trans ?_ (by assumption)) | (focus (simp; done)) | (focus (simp; omega))))) (hM2.bel (by repeat (first | (with_reducible exact Bel.refl _) | (with_reducible assumption) | (with_reducible refine Bel.drewN ?_ _) | (with_reducible refine Bel.drew ?_) | (with_reducible refine Bel.alloc ?_ _) | (with_reducible refine Bel.setNew ?_ ?_ _) | (with_reducible refine Bel.trans ?_ (by assumption)) | (focus (simp; done)) | (focus (simp; omega)))))).mono ?_; rintro e w5 ⟨A5, c5, rfl, hz5, hb5⟩
              refine ⟨_, rfl, hb5, ?_⟩
              try simp only [List.nil_append, List.cons_append, Act.put, List.setIfInBounds_toArray, List.set_cons_succ, List.set_cons_zero]
              refine st_branch [4] (by kernel_rfl) (branch_cons (by simp only [List.getElem?_toArray, List.getElem?_cons_succ, List.getElem?_cons_zero]; rfl) ?_ branch_nil)
              refine eff_call 17 rfl (by simp [go_sem]; rfl) (by repeat (first | (with_reducible exact Bel.refl _) | (with_reducible assumption) | (with_reducible refine Bel.drewN ?_ _) | (with_reducible refine Bel.drew ?_) | (with_reducible refine Bel.alloc ?_ _) | (with_reducible refine Bel.setNew ?_ ?_ _) | (with_reducible refine Bel.trans ?_ (by assumption)) | (focus (simp; done)) | (focus (simp; omega)))) ?_
              refine (C6.out _ _ _ _ (hz5.1.bel (by repeat (first | (with_reducible exact Bel.refl _) | (with_reducible assumption) | (with_reducible refine Bel.drewN ?_ _) | (with_reducible refine Bel.drew ?_) | (with_reducible refine Bel.alloc ?_ _) | (with_reducible refine Bel.setNew ?_ ?_ _) | (with_reducible refine Bel.trans ?_ (by assumption)) | (focus (simp; done)) | (focus (simp; omega))))) (hM1.bel (by repeat (first | (with_reducible exact Bel.refl _) | (with_reducible assumption) | (with_reducible refine Bel.drewN ?_ _) | (with_reducible refine Bel.drew ?_) | (with_reducible refine Bel.alloc ?_ _) | (with_reducible refine Bel.setNew ?_ ?_ _) | (with_reducible refine Bel.trans ?_ (by assumption)) | (focus (simp; done)) | (focus (simp; omega)))))).mono ?_; rintro e w6 ⟨A6, c6', rfl, hz6, hb6⟩
              refine ⟨_, rfl, hb6, ?_⟩
              try simp only [List.nil_append, List.cons_append, Act.put, List.setIfInBounds_toArray, List.set_cons_succ, List.set_cons_zero]
              refine st_end (by kernel_rfl) ?_
              simp only [List.drop_succ_cons, List.drop_zero, List.drop_nil]
              have hcl : ∀ q, (Value.slice A6 l7.length c6').ownBlock = some q → w5.heap.size ≤ q := hz6.2
              have hs5 : W0.heap.size < w5.heap.size := by have := hb5.size; simp at this; omega
              have hH : AtF w6 W0.heap.size [.int .i64 0, .int .i64 0, .int .i64 0, .int .i64 0, .int .i64 0, .string ⟨#[]⟩, .bool false, .slice none 0 0, .int .i64 0] := ((AtF.new_at (w := (W0).drew) rfl 27 [.int .i64 0, .int .i64 0, .int .i64 0, .int .i64 0, .int .i64 0, .string ⟨#[]⟩, .bool false, .slice none 0 0, .int .i64 0]).bel hb5).bel hb6
              have hb26 : Bel W0 w6 := by
                refine Bel.trans ?_ hb6
                refine Bel.trans ?_ hb5
                exact (by repeat (first | (with_reducible exact Bel.refl _) | (with_reducible assumption) | (with_reducible refine Bel.drewN ?_ _) | (with_reducible refine Bel.drew ?_) | (with_reducible refine Bel.alloc ?_ _) | (with_reducible refine Bel.setNew ?_ ?_ _) | (with_reducible refine Bel.trans ?_ (by assumption)) | (focus (simp; done)) | (focus (simp; omega))))
              have hHs := hH.setRow [.int .i64 i7, .int .i64 a7, .int .i64 k7, .int .i64 s7, .int .i64 c7, .string e7, .bool f7, .slice (A6) l7.length (c6'), .int .i64 y7] rfl
              have hmm : Mems w6 ⟨i7, a7, k7, s7, c7, e7, f7, A6, l7.length, c6', y7⟩ l7 := hz6.1
              have hbs := Bel.setRow (B := W0.heap.size) (i := 0) [.int .i64 i7, .int .i64 a7, .int .i64 k7, .int .i64 s7, .int .i64 c7, .string e7, .bool f7, .slice (A6) l7.length (c6'), .int .i64 y7] hb26 (by omega)
              have hms : Mems (setRow w6 (W0.heap.size) 0 [.int .i64 i7, .int .i64 a7, .int .i64 k7, .int .i64 s7, .int .i64 c7, .string e7, .bool f7, .slice (A6) l7.length (c6'), .int .i64 y7]) ⟨i7, a7, k7, s7, c7, e7, f7, A6, l7.length, c6', y7⟩ l7 := ⟨hmm.len, hmm.rd.setRow (B := W0.heap.size) (i := 0) [.int .i64 i7, .int .i64 a7, .int .i64 k7, .int .i64 s7, .int .i64 c7, .string e7, .bool f7, .slice (A6) l7.length (c6'), .int .i64 y7] (fun e => by have := hcl _ e; omega), hmm.ids, hmm.dl⟩
              have HX := Lib.hid (And.intro hHs (And.intro hms hbs))
              have z0 := (hH).1.2 0 _ rfl
              have z1 := (hH).1.2 1 _ rfl
              have z2 := (hH).1.2 2 _ rfl
              have z3 := (hH).1.2 3 _ rfl
              have z4 := (hH).1.2 4 _ rfl
              have z5 := (hH).1.2 5 _ rfl
              have z6 := (hH).1.2 6 _ rfl
              have z7 := (hH).1.2 7 _ rfl
              have z8 := (hH).1.2 8 _ rfl
              have zf := hH.2
              have zl := hH.1.1
              clear hHs hms hbs
              go_wp2_with fail
              go_meet
              exact ⟨_, A6, c6', rfl, HX.out.1, HX.out.2.1, HX.out.2.2⟩
          case rest =>
            obtain ⟨H3, AX3, cX3, rfl, hH3, hX3, hbx⟩ := hcut
            replace hH1 := hH1.bel hbx
            replace hX1 := hX1.bel hbx
            replace hH2 := hH2.bel hbx
            replace hX2 := hX2.bel hbx
            have hBZ := hBW.trans hbx
            clear hP1 hP2 hP3 hM1 hM2 hM3 hBW hbx C1 C2 C3 C4 C5 C6
            have p0 := (hH1).1.2 0 _ rfl
            have p1 := (hH1).1.2 1 _ rfl
            have p2 := (hH1).1.2 2 _ rfl
            have p3 := (hH1).1.2 3 _ rfl
            have p4 := (hH1).1.2 4 _ rfl
            have p5 := (hH1).1.2 5 _ rfl
            have p6 := (hH1).1.2 6 _ rfl
            have p7 := (hH1).1.2 7 _ rfl
            have p8 := (hH1).1.2 8 _ rfl
            go_wp2_with fail
            refine (CV.out _ _ _ hX1).mono ?_; rintro e w3 ⟨rfl, hb3⟩
            replace hH1 := hH1.bel hb3
            replace hH2 := hH2.bel hb3
            clear p0 p1 p2 p3 p4 p5 p6 p7 p8
            have p0 := (hH1).1.2 0 _ rfl
            have p1 := (hH1).1.2 1 _ rfl
            have p2 := (hH1).1.2 2 _ rfl
            have p3 := (hH1).1.2 3 _ rfl
            have p4 := (hH1).1.2 4 _ rfl
            have p5 := (hH1).1.2 5 _ rfl
            have p6 := (hH1).1.2 6 _ rfl
            have p7 := (hH1).1.2 7 _ rfl
            have p8 := (hH1).1.2 8 _ rfl
            have q0 := (hH2).1.2 0 _ rfl
            have q1 := (hH2).1.2 1 _ rfl
            have q2 := (hH2).1.2 2 _ rfl
            have q3 := (hH2).1.2 3 _ rfl
            have q4 := (hH2).1.2 4 _ rfl
            have q5 := (hH2).1.2 5 _ rfl
            have q6 := (hH2).1.2 6 _ rfl
            have q7 := (hH2).1.2 7 _ rfl
            have q8 := (hH2).1.2 8 _ rfl
            go_wp2_with fail
            refine (CS.out _ _ _ _ _ (hX1.rd.bel hb3) (hX2.rd.bel hb3)).mono ?_; rintro e w4 ⟨rfl, hb4⟩
            clear p0 p1 p2 p3 p4 p5 p6 p7 p8 q0 q1 q2 q3 q4 q5 q6 q7 q8
            replace hH1 := hH1.bel hb4
            replace hH3 := hH3.bel (hb3.trans hb4)
            have p0 := (hH1).1.2 0 _ rfl
            have p1 := (hH1).1.2 1 _ rfl
            have p2 := (hH1).1.2 2 _ rfl
            have p3 := (hH1).1.2 3 _ rfl
            have p4 := (hH1).1.2 4 _ rfl
            have p5 := (hH1).1.2 5 _ rfl
            have p6 := (hH1).1.2 6 _ rfl
            have p7 := (hH1).1.2 7 _ rfl
            have p8 := (hH1).1.2 8 _ rfl
            have q0 := (hH3).1.2 0 _ rfl
            have q1 := (hH3).1.2 1 _ rfl
            have q2 := (hH3).1.2 2 _ rfl
            have q3 := (hH3).1.2 3 _ rfl
            have q4 := (hH3).1.2 4 _ rfl
            have q5 := (hH3).1.2 5 _ rfl
            have q6 := (hH3).1.2 6 _ rfl
            have q7 := (hH3).1.2 7 _ rfl
            have q8 := (hH3).1.2 8 _ rfl
            go_wp2_with fail
            refine (CS.out _ _ _ _ _ (hX1.rd.bel (hb3.trans hb4)) (hX3.rd.bel (hb3.trans hb4))).mono ?_; rintro e w5 ⟨rfl, hb5⟩
            clear p0 p1 p2 p3 p4 p5 p6 p7 p8 q0 q1 q2 q3 q4 q5 q6 q7 q8
            go_wp2_with fail
            refine (HA4.out _).mono ?_; rintro e w6 ⟨rfl, hb6⟩
            go_wp2
            go_ret
            exact ⟨rfl, hBZ.trans (hb3.trans (hb4.trans (hb5.trans hb6)))⟩
end Go.Proofs.Ytbijfmpmgmfpgaa
