/- The walk of ElevatorBusy. -/
import Derived.Test.YtpgjbocjhconoaaElF
namespace Go.Proofs.Ytpgjbocjhconoaa
open Go.RowKit Go.Maps
set_option linter.unusedSimpArgs false

theorem OkE.next {E E' : El} {now : Int} {busy : List Bu} {x : Qu} {k : Nat} (h : OkE E) (hn : NextS E now busy E' x k) : OkE E' := by
  refine ⟨by rw [hn.fl]; exact h.fl, by rw [hn.bk, List.length_set]; exact h.bk, ?_, fun y hy => ?_⟩
  · rw [hn.en]
    have := h.en
    have := List.length_eraseIdx_le E.en k
    omega
  · rw [hn.en] at hy
    exact h.ok y (List.mem_of_mem_eraseIdx hy)
theorem bn_one {w : World} {base : Nat} {b : Bun} {ms : List Mem} (hm : Mems w b ms) (hk : ∀ k, (Value.slice b.mA b.mL b.mC).ownBlock = some k → base ≤ k ∧ k < w.heap.size) (hb : base ≤ w.heap.size) :
    BN (w.alloc (.cells b.cells.toArray 42)) base (.slice (some ⟨w.heap.size, 0, none⟩) 1 1) [⟨b, ms⟩] := by
  refine ⟨⟨⟨rfl, Or.inr ⟨w.heap.size, 1, b.cells.toArray, rfl, hb, heap_alloc_new w _, Nat.le_refl _, by unfold maxLen; omega, rfl, ?_⟩⟩, fun x hx => ?_, fun x hx h0 k h1 e => ?_⟩, fun j x hj hx h0 k h1 => ?_⟩
  · show b.cells.take 9 = bmc [⟨b, ms⟩]
    simp [bmc, Bun.cells]
  · rw [List.mem_singleton] at hx
    subst hx
    exact hm.bel ((Bel.refl w).alloc _)
  · rw [List.mem_singleton] at hx
    subst hx
    have := (hk k h1).2
    have e2 : some w.heap.size = some k := e
    injection e2 with e2
    omega
  · have hx2 := List.mem_of_getElem? hx
    rw [List.mem_singleton] at hx2
    subst hx2
    exact (hk k h1).1
theorem bn_at {w : World} {base R : Nat} {x : BM} (h : BN w base (.slice (some ⟨R, 0, none⟩) 1 1) [x]) : AtF w R x.b.cells :=
  ⟨⟨(h.bo.own.lt R rfl).2, fun j u hu => by
    have h2 := h.bo.own.cells (g := R) rfl j u (by simpa [bmc] using hu)
    rw [add_zero_off] at h2
    exact h2⟩, fun j => h.bo.own.frozenAt (g := R) j⟩
theorem nxtE_yes {E E' : El} {now : Int} {busy : List Bu} {u : Bu} (h : nxtE E now busy = (E', u, true)) : ∃ x k, x.u = u ∧ NextS E now busy E' x k := by
  unfold nxtE at h
  split at h
  · rename_i E1 x hx
    obtain ⟨k, hk⟩ := nextE_some hx
    injection h with h1 h2
    injection h2 with h3 _
    subst h1
    exact ⟨x, k, h3, hk⟩
  · injection h with h1 h2
    injection h2 with h3 h4
    cases h4

set_option maxRecDepth 100000 in
set_option maxHeartbeats 16000000 in
theorem elevatorBusy_walk (n kind lim : Int) (v : Value) (zs : List Int) (m : Int) (w : World) (hn : IsInt n) (_ : IsInt kind) (_ : IsInt lim) (hz : Ints w v zs) (_ : IsInt m) :
    Calls Try.prog 5 #[.int .i64 n, .int .i64 kind, .int .i64 lim, v, .int .i64 m] w fun e w' => e = .returned (.bool true) ∧ Bel w w' := by
  have HFI := Lib.hid (filled_any n kind lim v zs w hn hz)
  clear hz hn
  go_enter Try.func5, Try.ntmps5
  go_wp2_with fail
  refine HFI.out.mono ?_; rintro e w1 ⟨E0, fl1, bu1, en1, L0, LB, rfl, hEN, hL0, hLB, hFL, hb1⟩
  have hOK0 : OkE E0 := hFL.ok (by rw [hLB.1]; omega)
  obtain ⟨A4, c4, rfl⟩ := own_slice hEN.flo
  obtain ⟨A5, c5, rfl⟩ := own_slice hEN.buo
  obtain ⟨A6, c6, hv6⟩ := own_slice hEN.eno.bo.own
  subst hv6
  have HL0 := Lib.hid hL0
  have HOK0 := Lib.hid hOK0
  clear hL0 hOK0 hLB hFL HFI
  obtain ⟨X, HX0⟩ : ∃ X, Hid (w1.heap.size = X) := ⟨_, rfl⟩
  have hwX : w.heap.size ≤ X := by rw [← HX0.out]; exact hb1.size
  have hX := AtF.new_at (w := w1) HX0.out.symm 31 [.int .i64 E0.knd, .int .i64 E0.rdE, .int .i64 E0.wrE, .int .i64 E0.vt, .slice A4 E0.fl.length c4, .slice A5 E0.bk.length c5, .slice A6 L0.length c6, .int .i64 E0.hd]
  have hbn : Bel w1 (w1.alloc (.cells [.int .i64 E0.knd, .int .i64 E0.rdE, .int .i64 E0.wrE, .int .i64 E0.vt, .slice A4 E0.fl.length c4, .slice A5 E0.bk.length c5, .slice A6 L0.length c6, .int .i64 E0.hd].toArray 31)) := (by repeat (first | (with_reducible exact Bel.refl _) | (with_reducible assumption) | (with_reducible refine Bel.drewN ?_ _) | (with_reducible refine Bel.drew ?_) | (with_reducible refine Bel.alloc ?_ _) | (with_reducible refine Bel.setNew ?_ ?_ _) | (with_reducible refine Bel.trans ?_ (by assumption)) | (focus (simp; done)) | (focus (simp; omega))))
  have hEN2 := hEN.keep hbn
  have HOF : Hid (Off X (.slice A4 E0.fl.length c4) (.slice A5 E0.bk.length c5) (.slice A6 L0.length c6) L0) := hEN.newOff (by rw [HX0.out]; exact Nat.le_refl _)
  have hb2 := hb1.trans hbn
  simp only [List.toArray] at hX hEN2 hb2
  generalize memN LB LB.length = mN
  go_upto_region 4 with fail
  rw [HX0.out]
  generalize hW2 : w1.alloc _ = W2 at *
  clear hW2 hEN hbn hb1
  go_wp2_with fail
  refine (bunch_any2 m 30 _ (by omega)).mono ?_; rintro e w3 ⟨Bm, A1, rfl, HBm, hA1, hMm, hb3⟩
  have hXl := hX.1.1
  have hBN3 := bn_one (base := X + 1) hMm (fun k hk => by
    have e1 : (Value.slice Bm.mA Bm.mL Bm.mC).ownBlock = some A1 := by rw [HBm.out]; rfl
    rw [e1] at hk
    injection hk with hk
    subst hk
    exact ⟨by omega, hMm.rd.own_lt (by unfold bnM; split <;> simp) e1⟩) (by have := hb3.size; omega)
  have hbn : Bel w3 (w3.alloc (.cells Bm.cells.toArray 42)) := (by repeat (first | (with_reducible exact Bel.refl _) | (with_reducible assumption) | (with_reducible refine Bel.drewN ?_ _) | (with_reducible refine Bel.drew ?_) | (with_reducible refine Bel.alloc ?_ _) | (with_reducible refine Bel.setNew ?_ ?_ _) | (with_reducible refine Bel.trans ?_ (by assumption)) | (focus (simp; done)) | (focus (simp; omega))))
  have hX3 := hX.bel (hb3.trans hbn)
  have hEN3 := hEN2.keep (hb3.trans hbn)
  have hb23 := hb2.trans (hb3.trans hbn)
  obtain ⟨MS, HMS⟩ : ∃ l, Hid (bnM m 30 = l) := ⟨_, rfl⟩
  rw [HMS.out] at hBN3
  simp only [Bun.cells, List.toArray] at hX3 hEN3 hb23 hBN3
  clear hMm HBm hX hEN2 hb2 hA1
  go_upto_region 5 with fail
  generalize hW3 : w3.alloc _ = W3 at *
  clear hW3 hbn hb3
  generalize w3.heap.size = R at *
  have HS0 := Lib.hid (And.intro hX3 (And.intro hEN3 (And.intro hBN3 hb23)))
  go_wp2
  go_loopw [15] (fun iv wr => ∃ (i : Nat) (E : El) (fl bu en : Value) (L : List QM), iv = .int .i64 i ∧ i ≤ 10 ∧ Hid (OkE E) ∧ AtF wr X [.int .i64 E.knd, .int .i64 E.rdE, .int .i64 E.wrE, .int .i64 E.vt, fl, bu, en, .int .i64 E.hd] ∧ ElN wr w.heap.size fl bu en E.fl E.bk L ∧ Hid (Off X fl bu en L) ∧ Hid (L.map QM.qu = E.en) ∧ BN wr (X + 1) (.slice (some ⟨R, 0, none⟩) 1 1) [⟨Bm, MS⟩] ∧ Bel w wr ∧ X < wr.heap.size) (fun iv _ => 10 - (intOf iv).toNat)
  case atStart => exact ⟨0, E0, .slice A4 E0.fl.length c4, .slice A5 E0.bk.length c5, .slice A6 L0.length c6, L0, rfl, by omega, HOK0, hX3, hEN3, HOF, HL0, hBN3, hb23, hX3.1.1⟩
  case round =>
    clear hX3 hEN3 hBN3 hb23 HS0 HOF HL0 HOK0
    obtain ⟨i, E, fl, bu, en, L, rfl, p1, HOK, hX, hEN, HOF, HL, hBN, hbr, hXW⟩ := hrel
    obtain ⟨W4, rfl⟩ : ∃ X, X = wr := ⟨_, rfl⟩
    obtain ⟨A1, c1, rfl⟩ := own_slice hEN.flo
    obtain ⟨A2, c2, rfl⟩ := own_slice hEN.buo
    obtain ⟨A3, c3, hv3⟩ := own_slice hEN.eno.bo.own
    subst hv3
    by_cases hlt : i < 10
    · have hin : (i : Int) < 10 := by omega
      have HNX := Lib.hid (elNext_E E 100000 _ _ _ _ L [⟨Bm, MS⟩] W4 _ hEN HL.out HOK.out hBN.bo.bl)
      obtain ⟨⟨E', u, b⟩, HR⟩ : ∃ R, Hid (nxtE E 100000 [BM.bu ⟨Bm, MS⟩] = R) := ⟨_, rfl⟩
      simp only [List.map_cons, List.map_nil, HR.out] at HNX
      have HSM := Lib.hid (nxtE_same E 100000 [BM.bu ⟨Bm, MS⟩])
      rw [HR.out] at HSM
      have k0 := (hX).1.2 0 _ rfl
      have k1 := (hX).1.2 1 _ rfl
      have k2 := (hX).1.2 2 _ rfl
      have k3 := (hX).1.2 3 _ rfl
      have k4 := (hX).1.2 4 _ rfl
      have k5 := (hX).1.2 5 _ rfl
      have k6 := (hX).1.2 6 _ rfl
      have k7 := (hX).1.2 7 _ rfl
      have kl := hX.1.1
      go_wp2_with fail
      refine HNX.out.mono ?_; rintro e w5 ⟨fl5, bu5, en5, L5, A, c, rfl, hE5, hL5, hZ5, hb5⟩
      clear k0 k1 k2 k3 k4 k5 k6 k7 kl HNX
      obtain ⟨A7, c7, rfl⟩ := own_slice hE5.flo
      obtain ⟨A8, c8, rfl⟩ := own_slice hE5.buo
      obtain ⟨A9, c9, hv9⟩ := own_slice hE5.eno.bo.own
      subst hv9
      have HL5 := Lib.hid hL5
      have HZ5 := Lib.hid hZ5
      clear hL5 hZ5
      obtain ⟨i1, t1, kd1, s1, n1, d1, f1, m1, tm⟩ := u
      simp only [Bu.at]
      have nw0 : Bel w5 ((w5.alloc (.cells [.int .i64 0, .int .i64 0, .int .i64 0, .int .i64 0, .slice none 0 0, .slice none 0 0, .slice none 0 0, .int .i64 0].toArray 31)).alloc (.cells [.int .i64 0, .int .i64 0, .int .i64 0, .int .i64 0, .int .i64 0, .string ⟨#[]⟩, .bool false, .slice none 0 0, .int .i64 0].toArray 42)) := (by repeat (first | (with_reducible exact Bel.refl _) | (with_reducible assumption) | (with_reducible refine Bel.drewN ?_ _) | (with_reducible refine Bel.drew ?_) | (with_reducible refine Bel.alloc ?_ _) | (with_reducible refine Bel.setNew ?_ ?_ _) | (with_reducible refine Bel.trans ?_ (by assumption)) | (focus (simp; done)) | (focus (simp; omega))))
      have nx0 := (AtF.new_at (w := w5) rfl 31 [.int .i64 0, .int .i64 0, .int .i64 0, .int .i64 0, .slice none 0 0, .slice none 0 0, .slice none 0 0, .int .i64 0]).alloc (.cells [.int .i64 0, .int .i64 0, .int .i64 0, .int .i64 0, .int .i64 0, .string ⟨#[]⟩, .bool false, .slice none 0 0, .int .i64 0].toArray 42)
      have ny0 := AtF.new_at (w := w5.alloc (.cells [.int .i64 0, .int .i64 0, .int .i64 0, .int .i64 0, .slice none 0 0, .slice none 0 0, .slice none 0 0, .int .i64 0].toArray 31)) (g := w5.heap.size + 1) (by simp) 42 [.int .i64 0, .int .i64 0, .int .i64 0, .int .i64 0, .int .i64 0, .string ⟨#[]⟩, .bool false, .slice none 0 0, .int .i64 0]
      have hi8 : (Try.prog.info? 31).map (·.size) = some 8 := by kernel_rfl
      have hi9 : (Try.prog.info? 42).map (·.size) = some 9 := by kernel_rfl
      have one8 : ∀ u ∈ ([.int .i64 E.knd, .int .i64 E.rdE, .int .i64 E.wrE, .int .i64 E'.vt, .slice A7 E'.fl.length c7, .slice A8 E'.bk.length c8, .slice A9 L5.length c9, .int .i64 E'.hd] : List Value), u.oneCell' = true := fun u hu => by
        simp only [List.mem_cons, List.not_mem_nil, or_false] at hu
        rcases hu with rfl | rfl | rfl | rfl | rfl | rfl | rfl | rfl <;> rfl
      have one9 : ∀ u ∈ ([.int .i64 i1, .int .i64 t1, .int .i64 kd1, .int .i64 s1, .int .i64 n1, .string d1, .bool f1, .slice A m1.length c, .int .i64 tm] : List Value), u.oneCell' = true := fun u hu => by
        simp only [List.mem_cons, List.not_mem_nil, or_false] at hu
        rcases hu with rfl | rfl | rfl | rfl | rfl | rfl | rfl | rfl | rfl <;> rfl
      have ny1 := ny0.setRow_other (B := w5.heap.size) (i := 0) [.int .i64 E.knd, .int .i64 E.rdE, .int .i64 E.wrE, .int .i64 E'.vt, .slice A7 E'.fl.length c7, .slice A8 E'.bk.length c8, .slice A9 L5.length c9, .int .i64 E'.hd] (by omega)
      have nx2 := (nx0.setRow [.int .i64 E.knd, .int .i64 E.rdE, .int .i64 E.wrE, .int .i64 E'.vt, .slice A7 E'.fl.length c7, .slice A8 E'.bk.length c8, .slice A9 L5.length c9, .int .i64 E'.hd] rfl).setRow_other (B := w5.heap.size + 1) (i := 0) [.int .i64 i1, .int .i64 t1, .int .i64 kd1, .int .i64 s1, .int .i64 n1, .string d1, .bool f1, .slice A m1.length c, .int .i64 tm] (by omega)
      have ny2 := ny1.setRow [.int .i64 i1, .int .i64 t1, .int .i64 kd1, .int .i64 s1, .int .i64 n1, .string d1, .bool f1, .slice A m1.length c, .int .i64 tm] rfl
      have nw2 := Bel.setRow (B := w5.heap.size + 1) (i := 0) [.int .i64 i1, .int .i64 t1, .int .i64 kd1, .int .i64 s1, .int .i64 n1, .string d1, .bool f1, .slice A m1.length c, .int .i64 tm] (Bel.setRow (B := w5.heap.size) (i := 0) [.int .i64 E.knd, .int .i64 E.rdE, .int .i64 E.wrE, .int .i64 E'.vt, .slice A7 E'.fl.length c7, .slice A8 E'.bk.length c8, .slice A9 L5.length c9, .int .i64 E'.hd] nw0 (by omega)) (by omega)
      simp only [List.toArray] at nx0 ny1 nx2 ny2 nw2
      rename_i hKK
      refine hKK _ _ ?_
      iterate 18 (first | go_step | go_upon | go_values)
      refine wpList_store_at rfl 31 _ _ rfl rfl rfl nx0 rfl one8 hi8 ?_
      refine wpList_store_at rfl 42 _ _ rfl rfl rfl ny1 rfl one9 hi9 ?_
      clear nx0 ny0 nw0 ny1 one8 one9 hi8 hi9 hKK
      generalize setRow (setRow ((w5.alloc (.cells #[.int .i64 0, .int .i64 0, .int .i64 0, .int .i64 0, .slice none 0 0, .slice none 0 0, .slice none 0 0, .int .i64 0] 31)).alloc (.cells #[.int .i64 0, .int .i64 0, .int .i64 0, .int .i64 0, .int .i64 0, .string ⟨#[]⟩, .bool false, .slice none 0 0, .int .i64 0] 42)) w5.heap.size 0 [.int .i64 E.knd, .int .i64 E.rdE, .int .i64 E.wrE, .int .i64 E'.vt, .slice A7 E'.fl.length c7, .slice A8 E'.bk.length c8, .slice A9 L5.length c9, .int .i64 E'.hd]) (w5.heap.size + 1) 0 [.int .i64 i1, .int .i64 t1, .int .i64 kd1, .int .i64 s1, .int .i64 n1, .string d1, .bool f1, .slice A m1.length c, .int .i64 tm] = NW at *
      have ne2 := (hE5).keep nw2
      generalize w5.heap.size = NY at *
      simp only [Act.put, Act.eval, List.setIfInBounds_toArray, List.set_cons_succ, List.set_cons_zero]
      go_upto_region 9 with fail
      have nxw := hb5.trans nw2
      have hX9 := hX.bel nxw
      have hBN9 := hBN.keep nxw
      have hb9 := hbr.trans nxw
      have hsz := nxw.size
      have hQL := hEN.eno.bo.ql.bel nxw
      have HMZ := Lib.hid (fun W (hb : Bel NW W) => HZ5.out.1.bel (nw2.trans hb))
      simp only [Bu.at] at HMZ
      clear hX hEN hBN hbr hE5 hb5 nw2
      cases b
      · go_wp2_with fail
        refine (awake33_any _).mono ?_; rintro e w9 ⟨rfl, hbz⟩
        go_wp2
        go_ret
        exact ⟨rfl, (by repeat (first | (with_reducible exact Bel.refl _) | (with_reducible assumption) | (with_reducible refine Bel.drewN ?_ _) | (with_reducible refine Bel.drew ?_) | (with_reducible refine Bel.alloc ?_ _) | (with_reducible refine Bel.setNew ?_ ?_ _) | (with_reducible refine Bel.trans ?_ (by assumption)) | (focus (simp; done)) | (focus (simp; omega))))⟩
      · obtain ⟨xq, ks, hxu, hNS⟩ := nxtE_yes HR.out
        have HOK2 := Lib.hid (HOK.out.next hNS)
        have hno := blkQ_no hNS.at_ hNS.blk
        rw [hxu] at hno
        have HC1 : Hid (confB (BM.mk ⟨i1, t1, kd1, s1, n1, d1, f1, A, m1.length, c, tm⟩ m1) ⟨Bm, MS⟩ = false) := by
          show confU ⟨i1, t1, kd1, s1, n1, d1, f1, m1, tm⟩ (BM.bu ⟨Bm, MS⟩) = false
          rw [confU_symm]
          exact hno.2 _ (by simp)
        have HCJ : Hid (∀ (j : Nat) (y : QM), j < ks → L[j]? = some y → confB ⟨y.q.b, y.ms⟩ (BM.mk ⟨i1, t1, kd1, s1, n1, d1, f1, A, m1.length, c, tm⟩ m1) = false) := fun j y hj hy => hno.1 j y.qu hj (by rw [← HL.out, List.getElem?_map, hy]; rfl)
        have HKS : Hid (∃ y : QM, L[ks]? = some y ∧ y.q.b.id = i1) := by
          have h1 := hNS.at_
          rw [← HL.out, List.getElem?_map] at h1
          cases hk : L[ks]? with
          | none => rw [hk] at h1; cases h1
          | some y =>
            rw [hk] at h1
            refine ⟨y, rfl, ?_⟩
            have h2 : y.qu = xq := by simpa using h1
            have h3 : y.qu.u.id = i1 := by rw [h2, hxu]
            exact h3
        clear hNS hno hxu HR
        have hRR := bn_at hBN9
        have HMB := Lib.hid (fun W (h : Bel NW W) => (hBN9.keep h).bo.mem _ (List.mem_singleton.2 rfl))
        obtain ⟨i2, t2, kd2, s2, n2, d2, f2, a2, l2, cc2, tm2⟩ := Bm
        simp only [Bun.cells] at hRR HMB HC1
        have HCF := Lib.hid (fun W (h : Bel NW W) => refConflict_any ⟨⟨i1, t1, kd1, s1, n1, d1, f1, A, m1.length, c, tm⟩, m1⟩ ⟨⟨i2, t2, kd2, s2, n2, d2, f2, a2, l2, cc2, tm2⟩, MS⟩ W (HMZ.out W h) (HMB.out W h))
        simp only [HC1.out] at HCF
        go_upto_region 10 with fail
        have z0 := (ny2).1.2 0 _ rfl
        have z1 := (ny2).1.2 1 _ rfl
        have z2 := (ny2).1.2 2 _ rfl
        have z3 := (ny2).1.2 3 _ rfl
        have z4 := (ny2).1.2 4 _ rfl
        have z5 := (ny2).1.2 5 _ rfl
        have z6 := (ny2).1.2 6 _ rfl
        have z7 := (ny2).1.2 7 _ rfl
        have z8 := (ny2).1.2 8 _ rfl
        have y0 := fun d os => cell_regrown z0 d os
        have y1 := fun d os => cell_regrown z1 d os
        have y2 := fun d os => cell_regrown z2 d os
        have y3 := fun d os => cell_regrown z3 d os
        have y4 := fun d os => cell_regrown z4 d os
        have y5 := fun d os => cell_regrown z5 d os
        have y6 := fun d os => cell_regrown z6 d os
        have y7 := fun d os => cell_regrown z7 d os
        have y8 := fun d os => cell_regrown z8 d os
        have b0 := (hRR).1.2 0 _ rfl
        have b1 := (hRR).1.2 1 _ rfl
        have b2 := (hRR).1.2 2 _ rfl
        have b3 := (hRR).1.2 3 _ rfl
        have b4 := (hRR).1.2 4 _ rfl
        have b5 := (hRR).1.2 5 _ rfl
        have b6 := (hRR).1.2 6 _ rfl
        have b7 := (hRR).1.2 7 _ rfl
        have b8 := (hRR).1.2 8 _ rfl
        have q0 := fun d os => cell_regrown b0 d os
        have q1 := fun d os => cell_regrown b1 d os
        have q2 := fun d os => cell_regrown b2 d os
        have q3 := fun d os => cell_regrown b3 d os
        have q4 := fun d os => cell_regrown b4 d os
        have q5 := fun d os => cell_regrown b5 d os
        have q6 := fun d os => cell_regrown b6 d os
        have q7 := fun d os => cell_regrown b7 d os
        have q8 := fun d os => cell_regrown b8 d os
        have zl := ny2.1.1
        have bl := hRR.1.1
        refine wp_region_lex [4] 5 (by kernel_rfl) (by kernel_rfl) ?_
        simp only [List.take_succ_cons, List.take_zero, List.drop_succ_cons, List.drop_zero]
        with_reducible refine lex_seg 4 _ _ _ _ (by kernel_rfl) ?_
        simp only [List.take_succ_cons, List.take_zero, List.drop_succ_cons, List.drop_zero]
        try simp only [Act.put, List.setIfInBounds_toArray, List.set_cons_succ, List.set_cons_zero]
        repeat (go_big_quiet_step (fail))
        with_reducible refine wpQuiet_nil ?_
        refine lex_call 23 rfl rfl (by simp [go_sem]; rfl) ?_
        refine (HCF.out _ (by repeat (first | (with_reducible exact Bel.refl _) | (with_reducible assumption) | (with_reducible refine Bel.drewN ?_ _) | (with_reducible refine Bel.drew ?_) | (with_reducible refine Bel.alloc ?_ _) | (with_reducible refine Bel.setNew ?_ ?_ _) | (with_reducible refine Bel.trans ?_ (by assumption)) | (focus (simp; done)) | (focus (simp; omega))))).mono ?_; rintro e w8 ⟨rfl, hb8⟩
        refine ⟨_, rfl, hb8, ?_⟩
        with_reducible refine lex_nil ?_
        clear z0 z1 z2 z3 z4 z5 z6 z7 z8
        clear b0 b1 b2 b3 b4 b5 b6 b7 b8
        clear y0 y1 y2 y3 y4 y5 y6 y7 y8 q0 q1 q2 q3 q4 q5 q6 q7 q8 zl bl
        have hb8' : Bel NW w8 := (by repeat (first | (with_reducible exact Bel.refl _) | (with_reducible assumption) | (with_reducible refine Bel.drewN ?_ _) | (with_reducible refine Bel.drew ?_) | (with_reducible refine Bel.alloc ?_ _) | (with_reducible refine Bel.setNew ?_ ?_ _) | (with_reducible refine Bel.trans ?_ (by assumption)) | (focus (simp; done)) | (focus (simp; omega))))
        obtain ⟨nl, Hnl⟩ : ∃ k, Hid (L.length = k) := ⟨_, rfl⟩
        have hn30 : nl ≤ 30 := by
          have h1 := HOK.out.en
          rw [← HL.out, List.length_map, Hnl.out] at h1
          exact h1
        rw [Hnl.out] at hQL hX9 ⊢
        go_wp2
        go_loopw [19] (fun jv wr => ∃ j : Nat, jv = .int .i64 j ∧ j ≤ nl ∧ Hid (j ≤ ks) ∧ Bel NW wr) (fun jv _ => nl - (intOf jv).toNat)
        case atStart => exact ⟨0, rfl, by omega, Nat.zero_le _, hb8'⟩
        case round =>
          clear hb8' hb8
          obtain ⟨j, rfl, r1, HJ, hbj⟩ := hrel
          obtain ⟨W6, rfl⟩ : ∃ X, X = wr := ⟨_, rfl⟩
          by_cases hjl : j < nl
          · have hjn : (j : Int) < (nl : Int) := by omega
            have HJL := Lib.hid hjl
            obtain ⟨y, hy⟩ : ∃ y, L[j]? = some y := ⟨L[j]'(by have := Hnl.out; omega), List.getElem?_eq_getElem _⟩
            obtain ⟨ge, oe, ce, hat⟩ := (hQL.bel hbj).at hy
            have hfo := hat.form
            injection hfo with h1 h2 h3
            subst h1; subst h3
            clear h2
            have hrow := hat.row
            have hge := hat.lt
            have HMY := Lib.hid (fun W (h : Bel W6 W) => hat.mem.bel h)
            have HKJ : Hid (y.q.b.id = i1 ∨ (j < ks ∧ confB ⟨y.q.b, y.ms⟩ (BM.mk ⟨i1, t1, kd1, s1, n1, d1, f1, A, m1.length, c, tm⟩ m1) = false)) := by
              by_cases hid : y.q.b.id = i1
              · exact .inl hid
              · refine .inr ?_
                have hjk : j < ks := by
                  have := HJ.out
                  rcases Nat.lt_or_eq_of_le this with h | h
                  · exact h
                  · exfalso
                    subst h
                    obtain ⟨y', hy', hi'⟩ := HKS.out
                    rw [hy] at hy'
                    injection hy' with hy'
                    subst hy'
                    exact hid hi'
                exact ⟨hjk, HCJ.out j y hjk hy⟩
            obtain ⟨⟨⟨i3, t3, kd3, s3, n3, d3, f3, a3, l3, cc3, tm3⟩, du, st, tr⟩, ms3⟩ := y
            simp only at hrow HMY HKJ
            clear hat hy
            have hX6 := hX9.bel hbj
            have hz6 := ny2.bel hbj
            have e6 := hX6.1.2 6 _ rfl
            have el := hX6.1.1
            have z0 := hz6.1.2 0 _ rfl
            have zl := hz6.1.1
            have q0 := hrow.cell 0 rfl
            rw [Nat.add_zero] at q0
            have re6 := fun d os => cell_regrown e6 d os
            have rz0 := fun d os => cell_regrown z0 d os
            have rq0 := fun d os => cell_regrown q0 d os
            by_cases hid : i3 = i1
            · subst hid
              go_upto_region 13 with fail
              refine wp_region_lex [] 17 (by kernel_rfl) (by kernel_rfl) ?_
              simp only [List.take_succ_cons, List.take_zero, List.drop_succ_cons, List.drop_zero]
              with_reducible refine lex_seg 17 _ _ _ _ (by kernel_rfl) ?_
              simp only [List.take_succ_cons, List.take_zero, List.drop_succ_cons, List.drop_zero]
              try simp only [Act.put, List.setIfInBounds_toArray, List.set_cons_succ, List.set_cons_zero]
              repeat (go_big_quiet_step (fail))
              with_reducible refine wpQuiet_nil ?_
              with_reducible refine lex_nil ?_
              clear re6 rz0 rq0 e6 z0 q0 zl el hrow hX6 hz6
              have hbf : Bel NW W6.drew := hbj.drew
              generalize W6.drew = W7 at *
              have hXe := hX9.bel hbf
              have hYe := nx2.bel hbf
              have hEe := ne2.keep hbf
              have hbe := hb9.trans hbf
              have hBNe := BN.setRow (B := X) (i := 0) [.int .i64 E.knd, .int .i64 E.rdE, .int .i64 E.wrE, .int .i64 E'.vt, .slice A7 E'.fl.length c7, .slice A8 E'.bk.length c8, .slice A9 L5.length c9, .int .i64 E'.hd] (hBN9.keep hbf) (by omega)
              have y0 := (hYe).1.2 0 _ rfl
              have y1 := (hYe).1.2 1 _ rfl
              have y2 := (hYe).1.2 2 _ rfl
              have y3 := (hYe).1.2 3 _ rfl
              have y4 := (hYe).1.2 4 _ rfl
              have y5 := (hYe).1.2 5 _ rfl
              have y6 := (hYe).1.2 6 _ rfl
              have y7 := (hYe).1.2 7 _ rfl
              have yl := hYe.1.1
              have k0 := (hXe).1.2 0 _ rfl
              have k1 := (hXe).1.2 1 _ rfl
              have k2 := (hXe).1.2 2 _ rfl
              have k3 := (hXe).1.2 3 _ rfl
              have k4 := (hXe).1.2 4 _ rfl
              have k5 := (hXe).1.2 5 _ rfl
              have k6 := (hXe).1.2 6 _ rfl
              have k7 := (hXe).1.2 7 _ rfl
              have kf := (hXe).2
              have kl := (hXe).1.1
              have hXn := (hXe).setRow [.int .i64 E.knd, .int .i64 E.rdE, .int .i64 E.wrE, .int .i64 E'.vt, .slice A7 E'.fl.length c7, .slice A8 E'.bk.length c8, .slice A9 L5.length c9, .int .i64 E'.hd] rfl
              have hENn := (ElN.setRow (B := X) (i := 0) [.int .i64 E.knd, .int .i64 E.rdE, .int .i64 E.wrE, .int .i64 E'.vt, .slice A7 E'.fl.length c7, .slice A8 E'.bk.length c8, .slice A9 L5.length c9, .int .i64 E'.hd] hEe (by omega)).mono (base' := X + 1) (by omega)
              have hbn := Bel.setRow (B := X) (i := 0) [.int .i64 E.knd, .int .i64 E.rdE, .int .i64 E.wrE, .int .i64 E'.vt, .slice A7 E'.fl.length c7, .slice A8 E'.bk.length c8, .slice A9 L5.length c9, .int .i64 E'.hd] hbe (by omega)
              simp only [setRow, Nat.zero_add, Nat.reduceAdd] at hXn hENn hbn
              simp only [setRow, Nat.zero_add, Nat.reduceAdd] at hBNe
              have hXX := hXn.1.1
              have HXX := Lib.hid (And.intro hXn (And.intro hENn (And.intro hBNe (And.intro hbn hXX))))
              clear hXe hYe hEe hbe hBNe hXn hENn hbn hXX hbf hbj hX9 hBN9 hb9 nx2 ne2 ny2 nxw hRR hQL
              go_wp2
              obtain ⟨x1, x2, x3, x4, x5⟩ := HXX.out
              go_roundw
              case rel =>
                obtain ⟨q1, q2, q3⟩ := HSM.out
                try simp only at q1 q2 q3
                refine ⟨i + 1, E', .slice A7 E'.fl.length c7, .slice A8 E'.bk.length c8, .slice A9 L5.length c9, L5, by go_num, by omega, HOK2, ?_, x2.mono (by omega), x2.offLow (by omega), HL5.out, x3, x4, x5⟩
                rw [q1, q2, q3]; exact x1
              case measure => simp [intOf]; omega
            · have hidb : (i3 != i1) = true := by simpa using hid
              obtain ⟨hjk, hcf⟩ := HKJ.out.resolve_left hid
              have HCG := Lib.hid (fun W (h : Bel W6 W) => refConflict_any ⟨⟨i3, t3, kd3, s3, n3, d3, f3, a3, l3, cc3, tm3⟩, ms3⟩ ⟨⟨i1, t1, kd1, s1, n1, d1, f1, A, m1.length, c, tm⟩, m1⟩ W (HMY.out W h) (HMZ.out W (hbj.trans h)))
              simp only [hcf] at HCG
              clear hid
              go_upto_region 13 with fail
              refine wp_region_lex [] 17 (by kernel_rfl) (by kernel_rfl) ?_
              simp only [List.take_succ_cons, List.take_zero, List.drop_succ_cons, List.drop_zero]
              with_reducible refine lex_seg 17 _ _ _ _ (by kernel_rfl) ?_
              simp only [List.take_succ_cons, List.take_zero, List.drop_succ_cons, List.drop_zero]
              try simp only [Act.put, List.setIfInBounds_toArray, List.set_cons_succ, List.set_cons_zero]
              repeat (go_big_quiet_step (fail))
              with_reducible refine wpQuiet_nil ?_
              with_reducible refine lex_nil ?_
              clear re6 rz0 rq0 e6 z0 q0 zl el
              have hbd : Bel W6 W6.drew := (Bel.refl W6).drew
              have hrow2 := hrow.bel hbd hge
              have hX7 := hX6.bel hbd
              have hz7 := hz6.bel hbd
              clear hrow hX6 hz6
              have hgl : ge < W6.drew.heap.size := by simpa using hge
              go_upto_region 15 with fail
              generalize W6.drew = W7 at *
              have e6 := hX7.1.2 6 _ rfl
              have el := hX7.1.1
              have re6 := fun d os => cell_regrown e6 d os
              have z0 := (hz7).1.2 0 _ rfl
              have z1 := (hz7).1.2 1 _ rfl
              have z2 := (hz7).1.2 2 _ rfl
              have z3 := (hz7).1.2 3 _ rfl
              have z4 := (hz7).1.2 4 _ rfl
              have z5 := (hz7).1.2 5 _ rfl
              have z6 := (hz7).1.2 6 _ rfl
              have z7 := (hz7).1.2 7 _ rfl
              have z8 := (hz7).1.2 8 _ rfl
              have y0 := fun d os => cell_regrown z0 d os
              have y1 := fun d os => cell_regrown z1 d os
              have y2 := fun d os => cell_regrown z2 d os
              have y3 := fun d os => cell_regrown z3 d os
              have y4 := fun d os => cell_regrown z4 d os
              have y5 := fun d os => cell_regrown z5 d os
              have y6 := fun d os => cell_regrown z6 d os
              have y7 := fun d os => cell_regrown z7 d os
              have y8 := fun d os => cell_regrown z8 d os
              have zl := hz7.1.1
              have q0 := (hrow2).cell 0 rfl
              have q1 := (hrow2).cell 1 rfl
              have q2 := (hrow2).cell 2 rfl
              have q3 := (hrow2).cell 3 rfl
              have q4 := (hrow2).cell 4 rfl
              have q5 := (hrow2).cell 5 rfl
              have q6 := (hrow2).cell 6 rfl
              have q7 := (hrow2).cell 7 rfl
              have q8 := (hrow2).cell 8 rfl
              rw [Nat.add_zero] at q0
              have x0 := fun d os => cell_regrown q0 d os
              have x1 := fun d os => cell_regrown q1 d os
              have x2 := fun d os => cell_regrown q2 d os
              have x3 := fun d os => cell_regrown q3 d os
              have x4 := fun d os => cell_regrown q4 d os
              have x5 := fun d os => cell_regrown q5 d os
              have x6 := fun d os => cell_regrown q6 d os
              have x7 := fun d os => cell_regrown q7 d os
              have x8 := fun d os => cell_regrown q8 d os
              refine wp_region_lex [7] 8 (by kernel_rfl) (by kernel_rfl) ?_
              simp only [List.take_succ_cons, List.take_zero, List.drop_succ_cons, List.drop_zero]
              with_reducible refine lex_seg 7 _ _ _ _ (by kernel_rfl) ?_
              simp only [List.take_succ_cons, List.take_zero, List.drop_succ_cons, List.drop_zero]
              try simp only [Act.put, List.setIfInBounds_toArray, List.set_cons_succ, List.set_cons_zero]
              repeat (go_big_quiet_step (fail))
              with_reducible refine wpQuiet_nil ?_
              refine lex_call 23 rfl rfl (by simp [go_sem]; rfl) ?_
              refine (HCG.out _ (by repeat (first | (with_reducible exact Bel.refl _) | (with_reducible assumption) | (with_reducible refine Bel.drewN ?_ _) | (with_reducible refine Bel.drew ?_) | (with_reducible refine Bel.alloc ?_ _) | (with_reducible refine Bel.setNew ?_ ?_ _) | (with_reducible refine Bel.trans ?_ (by assumption)) | (focus (simp; done)) | (focus (simp; omega))))).mono ?_; rintro e w8' ⟨rfl, hb8⟩
              refine ⟨_, rfl, hb8, ?_⟩
              with_reducible refine lex_nil ?_
              clear re6 e6 el zl
              clear z0 z1 z2 z3 z4 z5 z6 z7 z8
              clear q0 q1 q2 q3 q4 q5 q6 q7 q8
              clear y0 y1 y2 y3 y4 y5 y6 y7 y8 x0 x1 x2 x3 x4 x5 x6 x7 x8
              have hbz : Bel NW w8' := hbj.trans (hbd.trans ((Bel.refl W7).drew.trans hb8))
              go_wp2
              go_roundw
              case rel => exact ⟨j + 1, by go_num, HJL.out, hjk, hbz⟩
              case measure => simp [intOf]; have := HJL.out; omega
          · obtain rfl : j = nl := by omega
            have hX6 := hX9.bel hbj
            have e6 := hX6.1.2 6 _ rfl
            have el := hX6.1.1
            have re6 := fun d os => cell_regrown e6 d os
            have jk : decide ((j : Int) < (j : Int)) = false := by simp
            go_upto_region 13 with fail
            refine wp_region_lex [] 17 (by kernel_rfl) (by kernel_rfl) ?_
            simp only [List.take_succ_cons, List.take_zero, List.drop_succ_cons, List.drop_zero]
            with_reducible refine lex_seg 17 _ _ _ _ (by kernel_rfl) ?_
            simp only [List.take_succ_cons, List.take_zero, List.drop_succ_cons, List.drop_zero]
            try simp only [Act.put, List.setIfInBounds_toArray, List.set_cons_succ, List.set_cons_zero]
            repeat (go_big_quiet_step (fail))
            with_reducible refine wpQuiet_nil ?_
            with_reducible refine lex_nil ?_
            clear re6 e6 el hX6 jk
            have hbf : Bel NW W6.drew := hbj.drew
            generalize W6.drew = W7 at *
            have hXe := hX9.bel hbf
            have hYe := nx2.bel hbf
            have hEe := ne2.keep hbf
            have hbe := hb9.trans hbf
            have hBNe := BN.setRow (B := X) (i := 0) [.int .i64 E.knd, .int .i64 E.rdE, .int .i64 E.wrE, .int .i64 E'.vt, .slice A7 E'.fl.length c7, .slice A8 E'.bk.length c8, .slice A9 L5.length c9, .int .i64 E'.hd] (hBN9.keep hbf) (by omega)
            have y0 := (hYe).1.2 0 _ rfl
            have y1 := (hYe).1.2 1 _ rfl
            have y2 := (hYe).1.2 2 _ rfl
            have y3 := (hYe).1.2 3 _ rfl
            have y4 := (hYe).1.2 4 _ rfl
            have y5 := (hYe).1.2 5 _ rfl
            have y6 := (hYe).1.2 6 _ rfl
            have y7 := (hYe).1.2 7 _ rfl
            have yl := hYe.1.1
            have k0 := (hXe).1.2 0 _ rfl
            have k1 := (hXe).1.2 1 _ rfl
            have k2 := (hXe).1.2 2 _ rfl
            have k3 := (hXe).1.2 3 _ rfl
            have k4 := (hXe).1.2 4 _ rfl
            have k5 := (hXe).1.2 5 _ rfl
            have k6 := (hXe).1.2 6 _ rfl
            have k7 := (hXe).1.2 7 _ rfl
            have kf := (hXe).2
            have kl := (hXe).1.1
            have hXn := (hXe).setRow [.int .i64 E.knd, .int .i64 E.rdE, .int .i64 E.wrE, .int .i64 E'.vt, .slice A7 E'.fl.length c7, .slice A8 E'.bk.length c8, .slice A9 L5.length c9, .int .i64 E'.hd] rfl
            have hENn := (ElN.setRow (B := X) (i := 0) [.int .i64 E.knd, .int .i64 E.rdE, .int .i64 E.wrE, .int .i64 E'.vt, .slice A7 E'.fl.length c7, .slice A8 E'.bk.length c8, .slice A9 L5.length c9, .int .i64 E'.hd] hEe (by omega)).mono (base' := X + 1) (by omega)
            have hbn := Bel.setRow (B := X) (i := 0) [.int .i64 E.knd, .int .i64 E.rdE, .int .i64 E.wrE, .int .i64 E'.vt, .slice A7 E'.fl.length c7, .slice A8 E'.bk.length c8, .slice A9 L5.length c9, .int .i64 E'.hd] hbe (by omega)
            simp only [setRow, Nat.zero_add, Nat.reduceAdd] at hXn hENn hbn
            simp only [setRow, Nat.zero_add, Nat.reduceAdd] at hBNe
            have hXX := hXn.1.1
            have HXX := Lib.hid (And.intro hXn (And.intro hENn (And.intro hBNe (And.intro hbn hXX))))
            clear hXe hYe hEe hbe hBNe hXn hENn hbn hXX hbf hbj hX9 hBN9 hb9 nx2 ne2 ny2 nxw hRR hQL
            go_wp2
            obtain ⟨x1, x2, x3, x4, x5⟩ := HXX.out
            go_roundw
            case rel =>
              obtain ⟨q1, q2, q3⟩ := HSM.out
              try simp only at q1 q2 q3
              refine ⟨i + 1, E', .slice A7 E'.fl.length c7, .slice A8 E'.bk.length c8, .slice A9 L5.length c9, L5, by go_num, by omega, HOK2, ?_, x2.mono (by omega), x2.offLow (by omega), HL5.out, x3, x4, x5⟩
              rw [q1, q2, q3]; exact x1
            case measure => simp [intOf]; omega
    · obtain rfl : i = 10 := by omega
      go_wp2_with fail
      refine (awake33_any _).mono ?_; rintro e w9 ⟨rfl, hbz⟩
      go_wp2
      go_ret
      exact ⟨rfl, (by repeat (first | (with_reducible exact Bel.refl _) | (with_reducible assumption) | (with_reducible refine Bel.drewN ?_ _) | (with_reducible refine Bel.drew ?_) | (with_reducible refine Bel.alloc ?_ _) | (with_reducible refine Bel.setNew ?_ ?_ _) | (with_reducible refine Bel.trans ?_ (by assumption)) | (focus (simp; done)) | (focus (simp; omega))))⟩
end Go.Proofs.Ytpgjbocjhconoaa
