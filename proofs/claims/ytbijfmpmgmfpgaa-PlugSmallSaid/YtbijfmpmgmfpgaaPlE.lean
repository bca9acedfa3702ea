/- plug.Order: which one is next; whether one has to wait. -/
import Derived.Test.YtbijfmpmgmfpgaaPlD
namespace Go.Proofs.Ytbijfmpmgmfpgaa
open Go.RowKit Go.Maps
set_option linter.unusedSimpArgs false

/-- Whether bunch i has to wait for bunch k. -/
def wAt (P : List Bu) (T : List Bool) (i k : Nat) : Bool :=
  match T[k]?, P[k]?, P[i]? with
  | some false, some a, some b => confU a b
  | _, _, _ => false
def waitsP (P : List Bu) (T : List Bool) (i : Nat) : Bool := (List.range i).any (wAt P T i)
theorem waitsP_yes {P : List Bu} {T : List Bool} {i k : Nat} (hk : k < i) (h : wAt P T i k = true) : waitsP P T i = true := by
  unfold waitsP
  rw [List.any_eq_true]
  exact ⟨k, List.mem_range.2 hk, h⟩
theorem waitsP_no {P : List Bu} {T : List Bool} {i : Nat} (h : ∀ k < i, wAt P T i k = false) : waitsP P T i = false := by
  unfold waitsP
  rw [List.any_eq_false]
  intro k hk
  rw [h k (List.mem_range.1 hk)]; simp

set_option maxRecDepth 100000 in
set_option maxHeartbeats 8000000 in
theorem waits_any (L : List BM) (T : List Bool) (v : Value) (i C B R : Nat) (w : World) (h : BL w v L) (hi : i < L.length) (hn : L.length ≤ 100) (hT : T.length = L.length) (hR : Rd w (.slice (some ⟨R, 0, none⟩) L.length L.length) 1 T.length (bcells T)) (hC : AtF w C [.slice (some ⟨R, 0, none⟩) L.length L.length]) (hB : AtF w B [v]) :
    Calls Try.prog 68 #[.int .i64 (i : Int), .pointer (some ⟨C, 0, none⟩), .pointer (some ⟨B, 0, none⟩)] w fun e w' => e = .returned (.bool (waitsP (L.map BM.bu) T i)) ∧ Bel w w' := by
  obtain ⟨A, c, rfl, _, _⟩ := h.form
  obtain ⟨P, HP⟩ : ∃ P, Hid (P = L.map BM.bu) := ⟨_, rfl⟩
  obtain ⟨n, Hn⟩ : ∃ n, Hid (n = L.length) := ⟨_, rfl⟩
  have HAT := Lib.hid (fun k m (hk : L[k]? = some m) => h.at hk)
  rw [← HP.out]
  rw [← Hn.out] at hC hB hi hn HAT hR hT
  have HC := Lib.hid hC
  have HB := Lib.hid hB
  have HR : Hid (∀ k b, T[k]? = some b → R < w.heap.size ∧ w.cell? ⟨R, k, none⟩ = some (.bool b)) := fun k b hk => by
    have h0 := (List.getElem?_eq_some_iff.1 hk).1
    obtain ⟨b', o', c', hv, hlt, hc⟩ := hR.at (by omega)
    injection hv with hv1 hv2 hv3
    injection hv1 with hv1
    injection hv1 with hv4 hv5
    subst hv4; subst hv5
    have := hc k _ (bcells_at hk)
    rw [Nat.zero_add] at this
    exact ⟨hlt, this⟩
  obtain ⟨y, hy⟩ : ∃ y, L[i]? = some y := ⟨L[i]'(by have := Hn.out; omega), List.getElem?_eq_getElem _⟩
  obtain ⟨g, o, c2, hat⟩ := HAT.out i y hy
  have hf := hat.form
  injection hf with hf1 hf2 hf3
  subst hf1
  have gl := hat.lt
  have HROWY := Lib.hid hat.row
  have HMY := Lib.hid hat.mem
  have HPY : Hid (P[i]? = some y.bu) := by show _ = _; rw [HP.out, List.getElem?_map, hy]; rfl
  have HTL := Lib.hid hT
  obtain ⟨⟨i2, t2, k2, s2, n2, d2, f2, a2, l2, c3, m2⟩, ms2⟩ := y
  simp only at HROWY HMY
  clear hat hf2 hf3 hR hC hB h hy hT
  go_enter Try.func68, Try.ntmps68
  go_wp2
  go_loopw [7] (fun iv wr => ∃ k : Nat, iv = .int .i64 k ∧ k ≤ i ∧ Hid (∀ j < k, wAt P T i j = false) ∧ Bel w wr) (fun iv _ => i - (intOf iv).toNat)
  case atStart => exact ⟨0, rfl, by omega, fun j hj => absurd hj (by omega), Bel.refl _⟩
  case round =>
    obtain ⟨k, rfl, p1, HG, hbr⟩ := hrel
    by_cases hlt : k < i
    · have hki : (k : Int) < (i : Int) := by omega
      have hkn : (k : Int) < (n : Int) := by omega
      have hin : (i : Int) < (n : Int) := by omega
      obtain ⟨x, hx⟩ : ∃ y, L[k]? = some y := ⟨L[k]'(by have := Hn.out; omega), List.getElem?_eq_getElem _⟩
      obtain ⟨tb, htb⟩ : ∃ b, T[k]? = some b := ⟨T[k]'(by have := HTL.out; omega), List.getElem?_eq_getElem _⟩
      obtain ⟨hrl, hrc⟩ := HR.out k tb htb
      rw [← hbr.cellAt R _ hrl] at hrc
      obtain ⟨g', o', c4, hat⟩ := HAT.out k x hx
      have hf := hat.form
      injection hf with hf1 hf7 hf8
      injection hf1 with hf4
      injection hf4 with hf5 hf6
      subst hf5; subst hf6
      have HROWX := Lib.hid hat.row
      have HMX := Lib.hid hat.mem
      have HPX : Hid (P[k]? = some x.bu) := by show _ = _; rw [HP.out, List.getElem?_map, hx]; rfl
      have HTB := Lib.hid htb
      have hCr := HC.out.bel hbr
      have hBr := HB.out.bel hbr
      have c0 := hCr.1.2 0 _ rfl
      have b0 := hBr.1.2 0 _ rfl
      clear hat hf7 hf8 hx htb hCr hBr
      have rc := fun d os => cell_regrown c0 d os
      have rt := fun d os => cell_regrown hrc d os
      cases tb
      · have rb := fun d os => cell_regrown b0 d os
        have hrx := HROWX.out.bel hbr gl
        have hry := HROWY.out.bel hbr gl
        have HCF := Lib.hid (fun W (hb : Bel wr W) => conflict_any x ⟨⟨i2, t2, k2, s2, n2, d2, f2, a2, l2, c3, m2⟩, ms2⟩ W (HMX.out.bel (hbr.trans hb)) (HMY.out.bel (hbr.trans hb)))
        obtain ⟨r, Hr⟩ : ∃ r, Hid (r = wAt P T i k) := ⟨_, rfl⟩
        have hr : wAt P T i k = confB x ⟨⟨i2, t2, k2, s2, n2, d2, f2, a2, l2, c3, m2⟩, ms2⟩ := by
          unfold wAt
          rw [HTB.out, HPX.out, HPY.out]
          rfl
        rw [← hr, ← Hr.out] at HCF
        clear hr
        obtain ⟨⟨i1, t1, k1, s1, n1, d1, f1, a1, l1, c1, m1⟩, ms1⟩ := x
        simp only at HCF
        have p0 := (hrx).cell 0 rfl
        have p1 := (hrx).cell 1 rfl
        have p2 := (hrx).cell 2 rfl
        have p3 := (hrx).cell 3 rfl
        have p4 := (hrx).cell 4 rfl
        have p5 := (hrx).cell 5 rfl
        have p6 := (hrx).cell 6 rfl
        have p7 := (hrx).cell 7 rfl
        have p8 := (hrx).cell 8 rfl
        rw [Nat.add_zero] at p0
        have q0 := (hry).cell 0 rfl
        have q1 := (hry).cell 1 rfl
        have q2 := (hry).cell 2 rfl
        have q3 := (hry).cell 3 rfl
        have q4 := (hry).cell 4 rfl
        have q5 := (hry).cell 5 rfl
        have q6 := (hry).cell 6 rfl
        have q7 := (hry).cell 7 rfl
        have q8 := (hry).cell 8 rfl
        rw [Nat.add_zero] at q0
        have rp0 := fun d os => cell_regrown p0 d os
        have rp1 := fun d os => cell_regrown p1 d os
        have rp2 := fun d os => cell_regrown p2 d os
        have rp3 := fun d os => cell_regrown p3 d os
        have rp4 := fun d os => cell_regrown p4 d os
        have rp5 := fun d os => cell_regrown p5 d os
        have rp6 := fun d os => cell_regrown p6 d os
        have rp7 := fun d os => cell_regrown p7 d os
        have rp8 := fun d os => cell_regrown p8 d os
        have rq0 := fun d os => cell_regrown q0 d os
        have rq1 := fun d os => cell_regrown q1 d os
        have rq2 := fun d os => cell_regrown q2 d os
        have rq3 := fun d os => cell_regrown q3 d os
        have rq4 := fun d os => cell_regrown q4 d os
        have rq5 := fun d os => cell_regrown q5 d os
        have rq6 := fun d os => cell_regrown q6 d os
        have rq7 := fun d os => cell_regrown q7 d os
        have rq8 := fun d os => cell_regrown q8 d os
        clear hrx hry p0 p1 p2 p3 p4 p5 p6 p7 p8 q0 q1 q2 q3 q4 q5 q6 q7 q8 b0 c0 hrc
        go_wp2_with fail
        refine wp_region_lex [14] 16 (by kernel_rfl) (by kernel_rfl) ?_
        simp only [List.take_succ_cons, List.take_zero, List.drop_succ_cons, List.drop_zero]
        with_reducible refine lex_seg 14 _ _ _ _ (by kernel_rfl) ?_
        simp only [List.take_succ_cons, List.take_zero, List.drop_succ_cons, List.drop_zero]
        try simp only [Act.put, List.setIfInBounds_toArray, List.set_cons_succ, List.set_cons_zero]
        repeat (go_big_quiet_step (fail))
        with_reducible refine wpQuiet_nil ?_
        refine lex_call 22 rfl rfl (by simp [go_sem]; rfl) ?_
        refine (HCF.out _ (by repeat (first | (with_reducible exact Bel.refl _) | (with_reducible assumption) | (with_reducible refine Bel.drewN ?_ _) | (with_reducible refine Bel.drew ?_) | (with_reducible refine Bel.alloc ?_ _) | (with_reducible refine Bel.setNew ?_ ?_ _) | (with_reducible refine Bel.trans ?_ (by assumption)) | (focus (simp; done)) | (focus (simp; omega))))).mono ?_; rintro e w3 ⟨rfl, hb3⟩
        refine ⟨_, rfl, hb3, ?_⟩
        with_reducible refine lex_seg 1 _ _ _ _ (by kernel_rfl) ?_
        simp only [List.take_succ_cons, List.take_zero, List.drop_succ_cons, List.drop_zero]
        try simp only [Act.put, List.setIfInBounds_toArray, List.set_cons_succ, List.set_cons_zero]
        repeat (go_big_quiet_step (fail))
        with_reducible refine wpQuiet_nil ?_
        with_reducible refine lex_nil ?_
        clear rb rc rt rp0 rp1 rp2 rp3 rp4 rp5 rp6 rp7 rp8 rq0 rq1 rq2 rq3 rq4 rq5 rq6 rq7 rq8
        have hbw3 : Bel w w3 := (by repeat (first | (with_reducible exact Bel.refl _) | (with_reducible assumption) | (with_reducible refine Bel.drewN ?_ _) | (with_reducible refine Bel.drew ?_) | (with_reducible refine Bel.alloc ?_ _) | (with_reducible refine Bel.setNew ?_ ?_ _) | (with_reducible refine Bel.trans ?_ (by assumption)) | (focus (simp; done)) | (focus (simp; omega))))
        cases hr : r
        · have HG2 : Hid (∀ j < k + 1, wAt P T i j = false) := by
            intro j hj
            by_cases hjk : j < k
            · exact HG.out j hjk
            · obtain rfl : j = k := by omega
              rw [← Hr.out]; exact hr
          subst hr
          clear hb3
          go_wp2
          go_roundw
          case rel => exact ⟨k + 1, by go_num, by omega, HG2, hbw3⟩
          case measure => simp [intOf]; omega
        · have HF := Lib.hid (waitsP_yes hlt (by rw [← Hr.out]; exact hr))
          subst hr
          clear hb3
          go_wp2
          go_ret
          exact ⟨ret_bool HF.out.symm, hbw3⟩
      · have HG2 : Hid (∀ j < k + 1, wAt P T i j = false) := by
          intro j hj
          by_cases hjk : j < k
          · exact HG.out j hjk
          · obtain rfl : j = k := by omega
            unfold wAt
            rw [HTB.out]
        clear b0 c0 hrc
        go_wp2_with fail
        refine wp_region_lex [14] 16 (by kernel_rfl) (by kernel_rfl) ?_
        simp only [List.take_succ_cons, List.take_zero, List.drop_succ_cons, List.drop_zero]
        with_reducible refine lex_seg 14 _ _ _ _ (by kernel_rfl) ?_
        simp only [List.take_succ_cons, List.take_zero, List.drop_succ_cons, List.drop_zero]
        try simp only [Act.put, List.setIfInBounds_toArray, List.set_cons_succ, List.set_cons_zero]
        repeat (go_big_quiet_step (fail))
        with_reducible refine wpQuiet_nil ?_
        with_reducible refine lex_skip (by kernel_rfl) ?_
        try simp only [Act.put, List.setIfInBounds_toArray, List.set_cons_succ, List.set_cons_zero]
        with_reducible refine lex_seg 1 _ _ _ _ (by kernel_rfl) ?_
        simp only [List.take_succ_cons, List.take_zero, List.drop_succ_cons, List.drop_zero]
        try simp only [Act.put, List.setIfInBounds_toArray, List.set_cons_succ, List.set_cons_zero]
        repeat (go_big_quiet_step (fail))
        with_reducible refine wpQuiet_nil ?_
        with_reducible refine lex_nil ?_
        clear rc rt
        go_wp2
        go_roundw
        case rel => exact ⟨k + 1, by go_num, by omega, HG2, (by repeat (first | (with_reducible exact Bel.refl _) | (with_reducible assumption) | (with_reducible refine Bel.drewN ?_ _) | (with_reducible refine Bel.drew ?_) | (with_reducible refine Bel.alloc ?_ _) | (with_reducible refine Bel.setNew ?_ ?_ _) | (with_reducible refine Bel.trans ?_ (by assumption)) | (focus (simp; done)) | (focus (simp; omega))))⟩
        case measure => simp [intOf]; omega
    · obtain rfl : k = i := by omega
      have jk : decide ((k : Int) < (k : Int)) = false := by simp
      have HF := Lib.hid (waitsP_no HG.out)
      go_wp2
      go_ret
      exact ⟨ret_bool HF.out.symm, hbr⟩
end Go.Proofs.Ytbijfmpmgmfpgaa
