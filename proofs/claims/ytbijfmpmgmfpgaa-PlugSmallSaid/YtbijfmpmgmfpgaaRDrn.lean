/- The reference's Order and Drain -/
import Derived.Test.YtbijfmpmgmfpgaaPlG
import Derived.Test.YtbijfmpmgmfpgaaPlH
namespace Go.Proofs.Ytbijfmpmgmfpgaa
open Go.RowKit Go.Maps
set_option linter.unusedSimpArgs false

def slLen : Value → Nat
  | .slice _ n _ => n
  | _ => 0
/-- Whether i is free of the first k. -/
def frK (P : List Bu) (T : List Bool) (i k : Nat) : Bool := offB T i && !((List.range k).any (wAt P T i))
theorem frK_zero (P : List Bu) (T : List Bool) (i : Nat) : frK P T i 0 = offB T i := by simp [frK]
theorem frK_end (P : List Bu) (T : List Bool) (i : Nat) : frK P T i i = freeP P T i := rfl
theorem frK_succ (P : List Bu) (T : List Bool) (i k : Nat) : frK P T i (k + 1) = (frK P T i k && !wAt P T i k) := by
  unfold frK
  rw [List.range_succ, List.any_append]
  simp only [List.any_cons, List.any_nil, Bool.or_false, Bool.not_or, Bool.and_assoc]
theorem frK_stop {P : List Bu} {T : List Bool} {i k : Nat} (hk : k ≤ i) (h : frK P T i k = false) : freeP P T i = false := by
  rw [← frK_end]
  have : ∀ d, frK P T i (k + d) = false := fun d => by
    induction d with
    | zero => exact h
    | succ d ih => rw [← Nat.add_assoc, frK_succ, ih]; rfl
  have := this (i - k)
  rwa [show k + (i - k) = i by omega] at this

set_option maxRecDepth 100000 in
set_option maxHeartbeats 16000000 in
theorem refOrder_any (L : List BM) (v : Value) (w : World) (h : BL w v L) (hn : L.length ≤ 100) :
    Calls Try.prog 36 #[v] w fun e w' => ∃ v', e = .returned v' ∧ w'.ownsRow w.heap.size 3 1 v' L.length (icells (oI (ordP (L.map BM.bu)))) ∧ Bel w w' := by
  obtain ⟨A, c, rfl, _, _⟩ := h.form
  obtain ⟨P, HP⟩ : ∃ P, Hid (P = L.map BM.bu) := ⟨_, rfl⟩
  obtain ⟨n, Hn⟩ : ∃ n, Hid (n = L.length) := ⟨_, rfl⟩
  have HAT := Lib.hid (fun k m (hk : L[k]? = some m) => h.at hk)
  rw [← HP.out]
  rw [← Hn.out] at hn HAT ⊢
  have HNP : Hid (P.length = n) := by show _ = _; rw [HP.out, List.length_map]; exact Hn.out.symm
  obtain ⟨i0, hi0, hz0, hz1, hz2⟩ := info_parts Try.infoInt
  have hmk : ∀ w, (Instr.makeSlice 64 (.int .i64 (n : Int)) (.int .i64 (n : Int))).run Try.prog w = .ok (.slice (some ⟨w.heap.size, 0, none⟩) n n) (w.alloc (.cells (bcells (List.replicate n false)).toArray 4)) := by
    intro w
    have h1 := run_make_row' (P := Try.prog) 64 4 (.bool false) 1 Try.underlying64 Try.infoBoolP rfl .i64 .i64 n (by omega) (by omega) w
    have h2 : madeCells #[.bool false] n = (bcells (List.replicate n false)).toArray := by
      apply Array.toList_inj.1
      rw [toList_madeCells_one]; simp [bcells]
    rw [h2] at h1
    exact h1
  have hR := AtF.new_at (w := w) rfl 4 (bcells (List.replicate n false))
  have hbw : Bel w (w.alloc (.cells (bcells (List.replicate n false)).toArray 4)) := (by repeat (first | (with_reducible exact Bel.refl _) | (with_reducible assumption) | (with_reducible refine Bel.drewN ?_ _) | (with_reducible refine Bel.drew ?_) | (with_reducible refine Bel.alloc ?_ _) | (with_reducible refine Bel.setNew ?_ ?_ _) | (with_reducible refine Bel.trans ?_ (by assumption)) | (focus (simp; done)) | (focus (simp; omega))))
  have hsz : (w.alloc (.cells (bcells (List.replicate n false)).toArray 4)).heap.size = w.heap.size + 1 := by simp
  clear h
  go_enter Try.func36, Try.ntmps36
  go_wp2
  clear hmk
  generalize hM : w.heap.size = M at *
  obtain ⟨w0, HW0⟩ : ∃ W, Hid (W = w.alloc (.cells (bcells (List.replicate n false)).toArray 4)) := ⟨_, rfl⟩
  have HM := Lib.hid hM
  clear hM
  go_loopw [3] (fun ov wr => ∃ (r : Nat) (T : List Bool) (o : List Nat), r ≤ n ∧ Hid (ordR P r = (T, o)) ∧ AtF wr M (bcells T) ∧ wr.ownsRow (M + 1) 3 1 ov r (icells (oI o)) ∧ (∃ A c, ov = .slice A r c) ∧ Bel w wr) (fun ov _ => n - slLen ov)
  case atStart => exact ⟨0, _, [], by omega, by show ordR P 0 = _; rw [ordR, HNP.out], hR, ⟨rfl, Or.inl ⟨rfl, rfl⟩⟩, ⟨none, 0, rfl⟩, hbw⟩
  case round =>
    clear hR hbw hsz
    obtain ⟨r, T, o, p1, HO, hR, hown, ⟨Ao, co, rfl⟩, hbr⟩ := hrel
    obtain ⟨W1, rfl⟩ : ∃ X, X = wr := ⟨_, rfl⟩
    by_cases hrn : r < n
    · have hri : (r : Int) < (n : Int) := by omega
      have HOK := Lib.hid (ordR_ok P r (by rw [HNP.out]; omega))
      rw [HO.out] at HOK
      have HTL : Hid (T.length = n) := by show _ = _; rw [HOK.out.len, HNP.out]
      obtain ⟨y0, hy0⟩ : ∃ y, L[0]? = some y := ⟨L[0]'(by have := Hn.out; omega), List.getElem?_eq_getElem _⟩
      obtain ⟨g, of, c2, hat0⟩ := HAT.out 0 y0 hy0
      have hf := hat0.form
      injection hf with hf1 hf2 hf3
      subst hf1
      have gl : g < w.heap.size := hat0.lt
      have HRW : Hid (∀ k x, L[k]? = some x → InRow w g (of + k * 9) x.b.cells ∧ Mems w x.b x.ms ∧ secI P k = x.b.sec ∧ P[k]? = some x.bu) := fun k x hx => by
        obtain ⟨g', o', c4, hat⟩ := HAT.out k x hx
        have hf := hat.form
        injection hf with hf1 hf7 hf8
        injection hf1 with hf4
        injection hf4 with hf5 hf6
        subst hf5; subst hf6
        have hpk : P[k]? = some x.bu := by rw [HP.out, List.getElem?_map, hx]; rfl
        refine ⟨hat.row, hat.mem, ?_, hpk⟩
        unfold secI
        rw [hpk]
        rfl
      clear hy0 hat0 hf2 hf3
      go_wp2
      go_loopw [5, 6] (fun bv iv wi => ∃ (i : Nat) (ob : Option Nat), iv = .int .i64 i ∧ i ≤ n ∧ bv = .int .i64 (bestI ob) ∧ Hid (pickO P T i = ob) ∧ Bel W1 wi) (fun _ iv _ => n - (intOf iv).toNat)
      case atStart => exact ⟨0, none, rfl, by omega, rfl, rfl, Bel.refl _⟩
      case round =>
        obtain ⟨i, ob, rfl, q1, rfl, HB, hbi⟩ := hrel
        obtain ⟨W2, rfl⟩ : ∃ X, X = wr := ⟨_, rfl⟩
        by_cases hlt : i < n
        · have hin : (i : Int) < (n : Int) := by omega
          obtain ⟨x, hx⟩ : ∃ y, L[i]? = some y := ⟨L[i]'(by have := Hn.out; omega), List.getElem?_eq_getElem _⟩
          obtain ⟨hrx0, hmx0, hsx, hpx⟩ := HRW.out i x hx
          obtain ⟨tb, htb⟩ : ∃ b, T[i]? = some b := ⟨T[i]'(by have := HTL.out; omega), List.getElem?_eq_getElem _⟩
          have HTB := Lib.hid htb
          have HPX := Lib.hid hpx
          have HRX := Lib.hid hrx0
          have HMX := Lib.hid hmx0
          have HSX := Lib.hid hsx
          have t0 := (hR.bel hbi).1.2 i _ (bcells_at htb)
          clear hx htb hrx0 hmx0 hsx hpx
          go_wp2
          clear t0
          have HOFF : Hid (offB T i = !tb) := by show _ = _; unfold offB; rw [HTB.out]; cases tb <;> rfl
          go_loopw [7, 8] (fun fv kv wk => ∃ k : Nat, kv = .int .i64 k ∧ k ≤ i ∧ fv = .bool (frK P T i k) ∧ Bel W2 wk) (fun _ kv _ => i - (intOf kv).toNat)
          case atStart => exact ⟨0, rfl, by omega, by rw [frK_zero, HOFF.out], Bel.refl _⟩
          case round =>
            obtain ⟨k, rfl, q2, rfl, hbk⟩ := hrel
            obtain ⟨W3, rfl⟩ : ∃ X, X = wr := ⟨_, rfl⟩
            obtain ⟨fk, HFK⟩ : ∃ b, Hid (frK P T i k = b) := ⟨_, rfl⟩
            rw [HFK.out]
            by_cases hgo : k < i ∧ fk = true
            · obtain ⟨hki, hfk⟩ := hgo
              subst hfk
              have hkl : (k : Int) < (i : Int) := by omega
              have hkn : (k : Int) < (n : Int) := by omega
              obtain ⟨tk, htk⟩ : ∃ b, T[k]? = some b := ⟨T[k]'(by have := HTL.out; omega), List.getElem?_eq_getElem _⟩
              obtain ⟨y, hy⟩ : ∃ y, L[k]? = some y := ⟨L[k]'(by have := Hn.out; omega), List.getElem?_eq_getElem _⟩
              obtain ⟨hry0, hmy0, hsy, hpy⟩ := HRW.out k y hy
              have t0 := (hR.bel (hbi.trans hbk)).1.2 k _ (bcells_at htk)
              have rt := fun d os => cell_regrown t0 d os
              have hbw3 := (hbr.trans hbi).trans hbk
              cases tk
              · have hrx := HRX.out.bel hbw3 gl
                have hry := hry0.bel hbw3 gl
                have HCF := Lib.hid (fun W (hb : Bel W3 W) => refConflict_any ⟨y.b, y.ms⟩ ⟨x.b, x.ms⟩ W (hmy0.bel (hbw3.trans hb)) (HMX.out.bel (hbw3.trans hb)))
                obtain ⟨cf, HCFV⟩ : ∃ b, Hid (confB ⟨y.b, y.ms⟩ ⟨x.b, x.ms⟩ = b) := ⟨_, rfl⟩
                rw [HCFV.out] at HCF
                have HW : Hid (frK P T i (k + 1) = !cf) := by
                  show _ = _
                  rw [frK_succ, HFK.out, Bool.true_and]
                  unfold wAt
                  rw [htk, hpy, HPX.out]
                  simp only
                  rw [← HCFV.out]
                  rfl
                clear hy hry0 hmy0 hsy hpy htk
                have p0 := (hrx).cell 0 rfl
                have p1 := (hrx).cell 1 rfl
                have p2 := (hrx).cell 2 rfl
                have p3 := (hrx).cell 3 rfl
                have p4 := (hrx).cell 4 rfl
                have p5 := (hrx).cell 5 rfl
                have p6 := (hrx).cell 6 rfl
                have p7 := (hrx).cell 7 rfl
                have p8 := (hrx).cell 8 rfl
                rw [Nat.add_zero] at p0
                have q0 := (hry).cell 0 rfl
                have q1 := (hry).cell 1 rfl
                have q2 := (hry).cell 2 rfl
                have q3 := (hry).cell 3 rfl
                have q4 := (hry).cell 4 rfl
                have q5 := (hry).cell 5 rfl
                have q6 := (hry).cell 6 rfl
                have q7 := (hry).cell 7 rfl
                have q8 := (hry).cell 8 rfl
                rw [Nat.add_zero] at q0
                go_wp2_with fail
                have rp0 := fun d os => cell_regrown p0 d os
                have rp1 := fun d os => cell_regrown p1 d os
                have rp2 := fun d os => cell_regrown p2 d os
                have rp3 := fun d os => cell_regrown p3 d os
                have rp4 := fun d os => cell_regrown p4 d os
                have rp5 := fun d os => cell_regrown p5 d os
                have rp6 := fun d os => cell_regrown p6 d os
                have rp7 := fun d os => cell_regrown p7 d os
                have rp8 := fun d os => cell_regrown p8 d os
                have rq0 := fun d os => cell_regrown q0 d os
                have rq1 := fun d os => cell_regrown q1 d os
                have rq2 := fun d os => cell_regrown q2 d os
                have rq3 := fun d os => cell_regrown q3 d os
                have rq4 := fun d os => cell_regrown q4 d os
                have rq5 := fun d os => cell_regrown q5 d os
                have rq6 := fun d os => cell_regrown q6 d os
                have rq7 := fun d os => cell_regrown q7 d os
                have rq8 := fun d os => cell_regrown q8 d os
                refine wp_region_lex [13] 16 (by kernel_rfl) (by kernel_rfl) ?_
                simp only [List.take_succ_cons, List.take_zero, List.drop_succ_cons, List.drop_zero]
                with_reducible refine lex_seg 13 _ _ _ _ (by kernel_rfl) ?_
                simp only [List.take_succ_cons, List.take_zero, List.drop_succ_cons, List.drop_zero]
                try simp only [Act.put, List.setIfInBounds_toArray, List.set_cons_succ, List.set_cons_zero]
                repeat (go_big_quiet_step (fail))
                with_reducible refine wpQuiet_nil ?_
                refine lex_call 69 rfl rfl (by simp [go_sem]; rfl) ?_
                refine (HCF.out _ (by repeat (first | (with_reducible exact Bel.refl _) | (with_reducible assumption) | (with_reducible refine Bel.drewN ?_ _) | (with_reducible refine Bel.drew ?_) | (with_reducible refine Bel.alloc ?_ _) | (with_reducible refine Bel.setNew ?_ ?_ _) | (with_reducible refine Bel.trans ?_ (by assumption)) | (focus (simp; done)) | (focus (simp; omega))))).mono ?_; rintro e w4 ⟨rfl, hb4⟩
                refine ⟨_, rfl, hb4, ?_⟩
                with_reducible refine lex_seg 2 _ _ _ _ (by kernel_rfl) ?_
                simp only [List.take_succ_cons, List.take_zero, List.drop_succ_cons, List.drop_zero]
                try simp only [Act.put, List.setIfInBounds_toArray, List.set_cons_succ, List.set_cons_zero]
                repeat (go_big_quiet_step (fail))
                with_reducible refine wpQuiet_nil ?_
                with_reducible refine lex_nil ?_
                clear rt t0
                clear rp0 rp1 rp2 rp3 rp4 rp5 rp6 rp7 rp8
                clear rq0 rq1 rq2 rq3 rq4 rq5 rq6 rq7 rq8
                clear p0 p1 p2 p3 p4 p5 p6 p7 p8
                clear q0 q1 q2 q3 q4 q5 q6 q7 q8
                have hbf : Bel W2 w4 := hbk.drew.trans hb4
                go_wp2
                have hWW := HW.out
                go_roundw
                case rel => exact ⟨k + 1, by go_num, by omega, by rw [hWW], hbf⟩
                case measure => simp [intOf]; omega
              · have HW : Hid (frK P T i (k + 1) = true) := by
                  show _ = _
                  rw [frK_succ, HFK.out, Bool.true_and]
                  unfold wAt
                  rw [htk]
                  rfl
                clear hy hry0 hmy0 hsy hpy htk
                go_wp2_with fail
                refine wp_region_lex [13] 16 (by kernel_rfl) (by kernel_rfl) ?_
                simp only [List.take_succ_cons, List.take_zero, List.drop_succ_cons, List.drop_zero]
                with_reducible refine lex_seg 13 _ _ _ _ (by kernel_rfl) ?_
                simp only [List.take_succ_cons, List.take_zero, List.drop_succ_cons, List.drop_zero]
                try simp only [Act.put, List.setIfInBounds_toArray, List.set_cons_succ, List.set_cons_zero]
                repeat (go_big_quiet_step (fail))
                with_reducible refine wpQuiet_nil ?_
                with_reducible refine lex_skip (by kernel_rfl) ?_
                try simp only [Act.put, List.setIfInBounds_toArray, List.set_cons_succ, List.set_cons_zero]
                with_reducible refine lex_seg 2 _ _ _ _ (by kernel_rfl) ?_
                simp only [List.take_succ_cons, List.take_zero, List.drop_succ_cons, List.drop_zero]
                try simp only [Act.put, List.setIfInBounds_toArray, List.set_cons_succ, List.set_cons_zero]
                repeat (go_big_quiet_step (fail))
                with_reducible refine wpQuiet_nil ?_
                with_reducible refine lex_nil ?_
                clear rt t0
                have hbf : Bel W2 W3.drew := hbk.drew
                go_wp2
                have hWW := HW.out
                go_roundw
                case rel => exact ⟨k + 1, by go_num, by omega, by rw [hWW], hbf⟩
                case measure => simp [intOf]; omega
            · have HFP : Hid (freeP P T i = fk) := by
                show _ = _
                cases fk with
                | false => exact frK_stop q2 HFK.out
                | true =>
                  have hki : k = i := by
                    have h : ¬ k < i := fun h => hgo ⟨h, rfl⟩
                    omega
                  subst hki
                  rw [← frK_end]; exact HFK.out
              cases fk with
              | false =>
                have HS : Hid (pickO P T (i + 1) = ob) := by
                  show _ = _
                  rw [pickO, HB.out]
                  cases ob with
                  | none => simp only [HFP.out]; rfl
                  | some b => simp only [HFP.out]; rfl
                clear hgo HFK HFP
                by_cases hki : k < i
                · have hkl : (k : Int) < (i : Int) := by omega
                  go_wp2_with fail
                  refine wp_region_lex [] 18 (by kernel_rfl) (by kernel_rfl) ?_
                  simp only [List.take_succ_cons, List.take_zero, List.drop_succ_cons, List.drop_zero]
                  with_reducible refine lex_seg 18 _ _ _ _ (by kernel_rfl) ?_
                  simp only [List.take_succ_cons, List.take_zero, List.drop_succ_cons, List.drop_zero]
                  try simp only [Act.put, List.setIfInBounds_toArray, List.set_cons_succ, List.set_cons_zero]
                  repeat (go_big_quiet_step (fail))
                  with_reducible refine wpQuiet_nil ?_
                  with_reducible refine lex_nil ?_
                  go_wp2
                  have hbf : Bel W1 W3.drew := (hbi.trans hbk).drew
                  go_roundw
                  case rel => exact ⟨i + 1, ob, by go_num, by omega, rfl, HS, hbf⟩
                  case measure => simp [intOf]; omega
                · obtain rfl : k = i := by omega
                  have hkk : decide ((k : Int) < (k : Int)) = false := by simp
                  go_wp2_with fail
                  refine wp_region_lex [] 18 (by kernel_rfl) (by kernel_rfl) ?_
                  simp only [List.take_succ_cons, List.take_zero, List.drop_succ_cons, List.drop_zero]
                  with_reducible refine lex_seg 18 _ _ _ _ (by kernel_rfl) ?_
                  simp only [List.take_succ_cons, List.take_zero, List.drop_succ_cons, List.drop_zero]
                  try simp only [Act.put, List.setIfInBounds_toArray, List.set_cons_succ, List.set_cons_zero]
                  repeat (go_big_quiet_step (fail))
                  with_reducible refine wpQuiet_nil ?_
                  with_reducible refine lex_nil ?_
                  go_wp2
                  have hbf : Bel W1 W3.drew := (hbi.trans hbk).drew
                  go_roundw
                  case rel => exact ⟨k + 1, ob, by go_num, by omega, rfl, HS, hbf⟩
                  case measure => simp [intOf]; omega
              | true =>
                obtain rfl : k = i := by
                  have h : ¬ k < i := fun h => hgo ⟨h, rfl⟩
                  omega
                have hkk : decide ((k : Int) < (k : Int)) = false := by simp
                clear hgo
                cases ob with
                | none =>
                  have HS : Hid (pickO P T (k + 1) = some k) := by show _ = _; rw [pickO, HB.out]; simp only [HFP.out]; rfl
                  simp only [bestI]
                  go_wp2_with fail
                  refine wp_region_lex [] 18 (by kernel_rfl) (by kernel_rfl) ?_
                  simp only [List.take_succ_cons, List.take_zero, List.drop_succ_cons, List.drop_zero]
                  with_reducible refine lex_seg 18 _ _ _ _ (by kernel_rfl) ?_
                  simp only [List.take_succ_cons, List.take_zero, List.drop_succ_cons, List.drop_zero]
                  try simp only [Act.put, List.setIfInBounds_toArray, List.set_cons_succ, List.set_cons_zero]
                  repeat (go_big_quiet_step (fail))
                  with_reducible refine wpQuiet_nil ?_
                  with_reducible refine lex_nil ?_
                  go_wp2
                  have hbf : Bel W1 W3.drew := (hbi.trans hbk).drew
                  go_roundw
                  case rel => exact ⟨k + 1, some k, by go_num, by omega, rfl, HS, hbf⟩
                  case measure => simp [intOf]; omega
                | some b =>
                  have hbn : b < n := (pickO_some HB.out).1 |> fun h => by omega
                  have hbi2 : (b : Int) < (n : Int) := by omega
                  have hb0 : decide ((b : Int) < 0) = false := by simp
                  obtain ⟨z, hz⟩ : ∃ y, L[b]? = some y := ⟨L[b]'(by have := Hn.out; omega), List.getElem?_eq_getElem _⟩
                  obtain ⟨hrz0, _, hsz, _⟩ := HRW.out b z hz
                  have hbw3 := (hbr.trans hbi).trans hbk
                  have x3 := (HRX.out.bel hbw3 gl).cell 3 rfl
                  have z3 := (hrz0.bel hbw3 gl).cell 3 rfl
                  have rx := fun d os => cell_regrown x3 d os
                  have rz := fun d os => cell_regrown z3 d os
                  have hse := HSX.out
                  simp only [bestI]
                  by_cases hlt2 : x.b.sec < z.b.sec
                  · have hld : decide (x.b.sec < z.b.sec) = true := decide_eq_true hlt2
                    have HS : Hid (pickO P T (k + 1) = some k) := by
                      show _ = _; rw [pickO, HB.out]; simp only [HFP.out]; rw [hse, hsz, hld]; rfl
                    clear hlt2 hz hrz0 hsz hse
                    go_wp2_with fail
                    refine wp_region_lex [] 18 (by kernel_rfl) (by kernel_rfl) ?_
                    simp only [List.take_succ_cons, List.take_zero, List.drop_succ_cons, List.drop_zero]
                    with_reducible refine lex_seg 18 _ _ _ _ (by kernel_rfl) ?_
                    simp only [List.take_succ_cons, List.take_zero, List.drop_succ_cons, List.drop_zero]
                    try simp only [Act.put, List.setIfInBounds_toArray, List.set_cons_succ, List.set_cons_zero]
                    repeat (go_big_quiet_step (fail))
                    with_reducible refine wpQuiet_nil ?_
                    with_reducible refine lex_nil ?_
                    clear rx rz x3 z3
                    go_wp2
                    have hbf : Bel W1 W3.drew := (hbi.trans hbk).drew
                    go_roundw
                    case rel => exact ⟨k + 1, some k, by go_num, by omega, rfl, HS, hbf⟩
                    case measure => simp [intOf]; omega
                  · have hld : decide (x.b.sec < z.b.sec) = false := decide_eq_false hlt2
                    have HS : Hid (pickO P T (k + 1) = some b) := by
                      show _ = _; rw [pickO, HB.out]; simp only [HFP.out]; rw [hse, hsz, hld]; rfl
                    clear hlt2 hz hrz0 hsz hse
                    go_wp2_with fail
                    refine wp_region_lex [] 18 (by kernel_rfl) (by kernel_rfl) ?_
                    simp only [List.take_succ_cons, List.take_zero, List.drop_succ_cons, List.drop_zero]
                    with_reducible refine lex_seg 18 _ _ _ _ (by kernel_rfl) ?_
                    simp only [List.take_succ_cons, List.take_zero, List.drop_succ_cons, List.drop_zero]
                    try simp only [Act.put, List.setIfInBounds_toArray, List.set_cons_succ, List.set_cons_zero]
                    repeat (go_big_quiet_step (fail))
                    with_reducible refine wpQuiet_nil ?_
                    with_reducible refine lex_nil ?_
                    clear rx rz x3 z3
                    go_wp2
                    have hbf : Bel W1 W3.drew := (hbi.trans hbk).drew
                    go_roundw
                    case rel => exact ⟨k + 1, some b, by go_num, by omega, rfl, HS, hbf⟩
                    case measure => simp [intOf]; omega
        · obtain rfl : i = n := by omega
          have jk : decide ((i : Int) < (i : Int)) = false := by simp
          obtain ⟨b, e1, e2, e3, e4⟩ := ordR_succ (P := P) (r := r) (by rw [HNP.out]; exact hrn)
          rw [HO.out] at e1 e3 e4
          simp only at e1 e3 e4
          rw [HNP.out, HB.out] at e1
          subst e1
          have HN1 := Lib.hid e4
          have hbi2 : b < i := by rw [HNP.out] at e2; exact e2
          have hb2 : (b : Int) < (i : Int) := by omega
          have hRi := hR.bel hbi
          have howni := own_keep hown hbi
          have hbri := hbr.trans hbi
          have t0 := hRi.1.2 b _ (bcells_at e3)
          have tf := hRi.2 b
          have tl := hRi.1.1
          have hR2 := hRi.set b (by simp [bcells]; rw [HTL.out]; exact hbi2) (.bool true)
          rw [bcells_setP] at hR2
          have hown2 := own_other howni (p := ⟨M, b, none⟩) (by show M < _; omega) (.bool true)
          have hbr2 := hbri.setNew (p := ⟨M, b, none⟩) (by have := HM.out; show w.heap.size ≤ M; omega) (.bool true)
          have hMl : M + 1 ≤ W2.heap.size := by omega
          clear hR hown hbr hRi howni hbri e2 e3 e4 hbi
          simp only [bestI]
          go_wp2_with (at_builtin; go_must (refine wpList_append_own_at _ rfl _ _ 45 rfl (M + 1) 3 i0 _ 1 8 Try.underlying45 hi0 hz0 hz1 hz2 rfl (by omega) (.slice Ao r co) _ _ rfl (hown2.alloc _) ⟨W2.heap.size, 0, none⟩ 1 1 [.int .i64 (b : Int)] rfl rfl (World.news_of_block (cs := #[.int .i64 (b : Int)]) (t := 3) (fr := (0, 0)) (heap_new_at (by simp))) (fun u hu => by simp at hu; subst hu; rfl) (by unfold maxLen; omega) (by omega) (by simp; omega) ?_); intro v' w3 hown' hg' _ hloc; obtain ⟨gn, cn, hvn, _, _⟩ := hown'.form (by omega); subst hvn)
          have hne1 := own_ne hown2 (k := M) (.inl (by omega))
          have hR3 := (hR2.alloc _).grown hg' (Ne.symm hne1)
          have hbr3 := bel_own (hbr2.alloc _) (hown2.alloc _) hg' (by have := HM.out; omega)
          have hoo : icells (oI (o ++ [b])) = icells (oI o) ++ [.int .i64 (b : Int)] := by simp [icells, oI]
          rw [← hoo] at hown'
          go_roundw
          case rel => exact ⟨r + 1, T.set b true, o ++ [b], by omega, HN1, hR3, hown', ⟨_, _, rfl⟩, hbr3⟩
          case measure => simp [slLen]; omega
    · obtain rfl : r = n := by omega
      have jk : decide ((r : Int) < (r : Int)) = false := by simp
      have HF : Hid (ordP P = o) := by
        show _ = _
        unfold ordP
        rw [HNP.out, HO.out]
      go_wp2
      go_ret
      exact ⟨_, rfl, by rw [HF.out]; exact own_mono hown (by have := HM.out; omega), hbr⟩

set_option maxRecDepth 100000 in
set_option maxHeartbeats 16000000 in
theorem refDrain_any (L : List BM) (v : Value) (w : World) (h : BL w v L) (hn : L.length ≤ 100) :
    Calls Try.prog 33 #[.agg #[v]] w fun e w' => ∃ v' L', e = .returned (.tuple #[.agg #[.slice none 0 0], v']) ∧ BL w' v' L' ∧ L'.map BM.bu = drainP (L.map BM.bu) ∧ Bel w w' := by
  have HO := Lib.hid (fun w' (hb : Bel w w') => refOrder_any L v w' (h.bel hb) hn)
  obtain ⟨A, c, rfl, _, _⟩ := h.form
  obtain ⟨P, HP⟩ : ∃ P, Hid (P = L.map BM.bu) := ⟨_, rfl⟩
  obtain ⟨n, Hn⟩ : ∃ n, Hid (n = L.length) := ⟨_, rfl⟩
  have HAT := Lib.hid (fun k m (hk : L[k]? = some m) => h.at hk)
  rw [← HP.out] at HO ⊢
  rw [← Hn.out] at hn HAT HO ⊢
  have HNP : Hid (P.length = n) := by show _ = _; rw [HP.out, List.length_map]; exact Hn.out.symm
  have HOK := Lib.hid (ordR_ok P P.length (Nat.le_refl _))
  have HLO : Hid ((ordP P).length = n) := by show _ = _; rw [← HNP.out]; exact HOK.out.olen
  have HLT : Hid (∀ i ∈ ordP P, i < n) := by intro i hi; rw [← HNP.out]; exact HOK.out.lt i hi
  obtain ⟨i0, hi0, hz0, hz1, hz2⟩ := info_parts Try.infoBunchP
  have hA := (AtF.new_at (w := w) rfl 48 [.slice A n c]).alloc (.cells [.slice none 0 0].toArray 48)
  have hB := AtF.new_at (w := w.alloc (.cells [.slice A n c].toArray 48)) (g := w.heap.size + 1) (by simp) 48 [.slice none 0 0]
  have hbw : Bel w ((w.alloc (.cells [.slice A n c].toArray 48)).alloc (.cells [.slice none 0 0].toArray 48)) := (by repeat (first | (with_reducible exact Bel.refl _) | (with_reducible assumption) | (with_reducible refine Bel.drewN ?_ _) | (with_reducible refine Bel.drew ?_) | (with_reducible refine Bel.alloc ?_ _) | (with_reducible refine Bel.setNew ?_ ?_ _) | (with_reducible refine Bel.trans ?_ (by assumption)) | (focus (simp; done)) | (focus (simp; omega))))
  simp only [List.toArray] at hA hB hbw
  clear h
  go_enter Try.func33, Try.ntmps33
  go_wp2_with fail
  refine (HO.out _ hbw).mono ?_; rintro e w1 ⟨v', rfl, hown, hb1⟩
  have hA1 := hA.bel hb1
  have hB1 := hB.bel hb1
  have hbw1 := hbw.trans hb1
  obtain ⟨Ai, ci, rfl⟩ := own_slice hown
  have HI := Lib.hid hown
  have HA := Lib.hid hA1
  have HB := Lib.hid hB1
  clear hA hB hbw hb1 hA1 hB1 hown HO
  obtain ⟨R, HR⟩ : ∃ R, Hid (w.heap.size = R) := ⟨_, rfl⟩
  rw [HR.out] at HA HB ⊢
  go_wp2
  go_loopw [4, 6] (fun ov iv wr => ∃ (k : Nat) (L' : List BM), iv = .int .i64 k ∧ k ≤ n ∧ Hid (L'.map BM.bu = ((ordP P).take k).map fun i : Nat => P.getD i zeroU) ∧ wr.ownsRow w1.heap.size 27 9 ov k (bmc L') ∧ Hid (∀ x ∈ L', Mems w x.b x.ms) ∧ Bel w1 wr) (fun _ iv _ => n - (intOf iv).toNat)
  case atStart => exact ⟨0, [], rfl, by omega, by simp [Hid], ⟨rfl, Or.inl ⟨rfl, rfl⟩⟩, (fun x hx => by cases hx), Bel.refl _⟩
  case round =>
    obtain ⟨k, L', rfl, p1, HL, hown, HM, hbr⟩ := hrel
    obtain ⟨W1, rfl⟩ : ∃ X, X = wr := ⟨_, rfl⟩
    obtain ⟨Ao, co, rfl⟩ := own_slice hown
    have a0 := (HA.out.bel hbr).1.2 0 _ rfl
    by_cases hlt : k < n
    · have hkn : (k : Int) < (n : Int) := by omega
      obtain ⟨q, hq⟩ : ∃ q, (ordP P)[k]? = some q := ⟨(ordP P)[k]'(by have := HLO.out; omega), List.getElem?_eq_getElem _⟩
      have hqn : q < n := HLT.out q (List.mem_of_getElem? hq)
      have hqi : (q : Int) < (n : Int) := by omega
      obtain ⟨gi, ci', hfi, _, _⟩ := HI.out.form (by omega)
      injection hfi with hf1 hf2 hf3
      subst hf1
      clear hf2 hf3
      have e0 : W1.cell? ⟨gi, k, none⟩ = some (.int .i64 (q : Int)) := by
        have h0 := (own_keep HI.out hbr).cellAt (g := gi) k (by omega)
        rw [h0]
        simp [icells, oI, hq]
      obtain ⟨x, hx⟩ : ∃ y, L[q]? = some y := ⟨L[q]'(by have := Hn.out; omega), List.getElem?_eq_getElem _⟩
      obtain ⟨g, of, c2, hat⟩ := HAT.out q x hx
      have hf := hat.form
      injection hf with hf1 hf4 hf5
      subst hf1
      clear hf4 hf5
      have hrow := hat.row.bel (hbw1.trans hbr) hat.lt
      have HMX := Lib.hid hat.mem
      have HPX : Hid (P.getD q zeroU = x.bu) := by show _ = _; rw [HP.out, List.getD_eq_getElem?_getD, List.getElem?_map, hx]; rfl
      have HQ := Lib.hid hq
      clear hx hq hat
      obtain ⟨⟨i1, t1, k1, s1, n1, d1, f1, a1, l1, c3, m1⟩, ms1⟩ := x
      simp only at hrow
      have b0 := (hrow).cell 0 rfl
      have b1 := (hrow).cell 1 rfl
      have b2 := (hrow).cell 2 rfl
      have b3 := (hrow).cell 3 rfl
      have b4 := (hrow).cell 4 rfl
      have b5 := (hrow).cell 5 rfl
      have b6 := (hrow).cell 6 rfl
      have b7 := (hrow).cell 7 rfl
      have b8 := (hrow).cell 8 rfl
      rw [Nat.add_zero] at b0
      clear hrow
      have ra := fun d os => cell_regrown a0 d os
      have re := fun d os => cell_regrown e0 d os
      go_wp2_with fail
      have r0 := fun d os => cell_regrown b0 d os
      have r1 := fun d os => cell_regrown b1 d os
      have r2 := fun d os => cell_regrown b2 d os
      have r3 := fun d os => cell_regrown b3 d os
      have r4 := fun d os => cell_regrown b4 d os
      have r5 := fun d os => cell_regrown b5 d os
      have r6 := fun d os => cell_regrown b6 d os
      have r7 := fun d os => cell_regrown b7 d os
      have r8 := fun d os => cell_regrown b8 d os
      refine wp_region_lex [9] 10 (by kernel_rfl) (by kernel_rfl) ?_
      simp only [List.take_succ_cons, List.take_zero, List.drop_succ_cons, List.drop_zero]
      with_reducible refine lex_seg 9 _ _ _ _ (by kernel_rfl) ?_
      simp only [List.take_succ_cons, List.take_zero, List.drop_succ_cons, List.drop_zero]
      try simp only [Act.put, List.setIfInBounds_toArray, List.set_cons_succ, List.set_cons_zero]
      repeat (go_big_quiet_step (fail))
      with_reducible refine wpQuiet_nil ?_
      refine lex_made rfl rfl (by simp [go_sem]; exact ⟨rfl, rfl⟩) (Bel.alloc (Bel.refl _) _) ?_
      try simp only [Act.put, List.setIfInBounds_toArray, List.set_cons_succ, List.set_cons_zero]
      with_reducible refine lex_nil ?_
      clear ra re
      clear r0 r1 r2 r3 r4 r5 r6 r7 r8
      clear b0 b1 b2 b3 b4 b5 b6 b7 b8
      have hown5 := own_keep hown (Bel.drew (Bel.refl W1))
      have hbd := hbr.drew
      have hs5 : w1.heap.size ≤ W1.drew.heap.size := hbd.size
      go_wp2_with (at_builtin; go_must (refine wpList_append_own_at _ rfl _ _ 46 rfl w1.heap.size 27 i0 _ 9 96 Try.underlying46 hi0 hz0 hz1 hz2 rfl (by omega) (.slice Ao k co) _ _ rfl (hown5.alloc _) ⟨W1.drew.heap.size, 0, none⟩ 1 1 (Bun.cells ⟨i1, t1, k1, s1, n1, d1, f1, a1, l1, c3, m1⟩) rfl rfl (World.news_of_block (cs := #[.int .i64 i1, .int .i64 t1, .int .i64 k1, .int .i64 s1, .int .i64 n1, .string d1, .bool f1, .slice a1 l1 c3, .int .i64 m1]) (t := 27) (fr := (0, 0)) (heap_alloc_new W1.drew _)) (bcells_oneP _) (by unfold maxLen; omega) (by omega) (by simp at hs5 ⊢; omega) ?_); intro v' w7 hown' hg' _ hloc; obtain ⟨gn, cn, hvn, _, _⟩ := hown'.form (by omega); subst hvn)
      have hbw7 := bel_own (hbd.alloc (.cells #[.int .i64 i1, .int .i64 t1, .int .i64 k1, .int .i64 s1, .int .i64 n1, .string d1, .bool f1, .slice a1 l1 c3, .int .i64 m1] 27)) (hown5.alloc _) hg' (Nat.le_refl _)
      have HLL : Hid ((L' ++ [(⟨⟨i1, t1, k1, s1, n1, d1, f1, a1, l1, c3, m1⟩, ms1⟩ : BM)]).map BM.bu = ((ordP P).take (k + 1)).map fun i : Nat => P.getD i zeroU) := by
        show _ = _
        rw [List.map_append, HL.out, List.take_add_one, HQ.out]
        simp only [Option.toList_some, List.map_append, List.map_cons, List.map_nil]
        rw [HPX.out]
      have HM2 : Hid (∀ z ∈ L' ++ [(⟨⟨i1, t1, k1, s1, n1, d1, f1, a1, l1, c3, m1⟩, ms1⟩ : BM)], Mems w z.b z.ms) := fun z hz => by
        rw [List.mem_append, List.mem_singleton] at hz
        rcases hz with hz | rfl
        · exact HM.out z hz
        · exact HMX.out
      have hown8 : w7.ownsRow w1.heap.size 27 9 (.slice (some ⟨gn, 0, none⟩) (k + 1) cn) (k + 1) (bmc (L' ++ [⟨⟨i1, t1, k1, s1, n1, d1, f1, a1, l1, c3, m1⟩, ms1⟩])) := by rw [bmc_snocP]; exact hown'
      exact ⟨⟨k + 1, _, by go_num, by omega, HLL, hown8, HM2, hbw7⟩, by simp [intOf]; omega⟩
    · obtain rfl : k = n := by omega
      have jk : decide ((k : Int) < (k : Int)) = false := by simp
      have HLF : Hid (L'.map BM.bu = drainP P) := by
        show _ = _
        rw [HL.out, List.take_of_length_le (by have := HLO.out; omega)]
        rfl
      have hlen : L'.length = k := by
        have := congrArg List.length HLF.out
        rw [List.length_map] at this
        rw [this]
        unfold drainP
        rw [List.length_map, HLO.out]
      have hB9 := HB.out.bel hbr
      have d0 := hB9.1.2 0 _ rfl
      have dl := hB9.1.1
      have df := hB9.2 0
      have hBs := hB9.set 0 (by simp) (.slice none 0 0)
      have hR1 : R + 1 < w1.heap.size := HB.out.1.1
      have hb9 := (hbw1.trans hbr).setNew (p := ⟨R + 1, 0, none⟩) (by have := HR.out; show w.heap.size ≤ R + 1; omega) (.slice none 0 0)
      have hown9 := own_far hown (p := ⟨R + 1, 0, none⟩) (fun e => by have h1 := (hown.lt _ e).1; have h2 : w1.heap.size ≤ R + 1 := h1; omega) (.slice none 0 0)
      have HBL9 : Hid (BL (W1.setCell ⟨R + 1, 0, none⟩ (.slice none 0 0)) (.slice Ao k co) L') := ⟨by rw [hlen]; exact Rd.own hown9, fun x hx => (HM.out x hx).bel hb9⟩
      clear hown hown9 hB9
      go_wp2
      have r0 := hBs.1.2 0 _ rfl
      exact bodyPost_ret (v := .tuple #[.agg #[.slice none 0 0], .slice Ao k co]) (by simp [results, Try.results33, go_sem, r0]) rfl ⟨_, L', rfl, HBL9.out, HLF.out, hb9⟩
end Go.Proofs.Ytbijfmpmgmfpgaa
