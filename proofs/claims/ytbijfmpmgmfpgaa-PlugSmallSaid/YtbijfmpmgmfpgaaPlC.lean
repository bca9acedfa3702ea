/- slices.ContainsFunc over bunches; plug.Add's closure. -/
import Derived.Test.YtbijfmpmgmfpgaaPlB
import Derived.Test.YtbijfmpmgmfpgaaStr
namespace Go.Proofs.Ytbijfmpmgmfpgaa
open Go.RowKit Go.Maps
set_option linter.unusedSimpArgs false

set_option maxHeartbeats 4000000 in
theorem indexBun_any (L : List BM) (v : Value) (g : Nat) (lb : Array Value) (p : BM → Bool) (w : World) (h : BL w v L)
    (eg : ∀ args w, (callFunc g args).run Try.prog w = .ok (.enter g args) w)
    (hg : ∀ W x, Bel w W → x ∈ L → Calls Try.prog g (#[.agg #[.int .i64 (x.b).id, .int .i64 (x.b).ten, .int .i64 (x.b).knd, .int .i64 (x.b).sec, .int .i64 (x.b).cnt, .string (x.b).dat, .bool (x.b).fua, .slice (x.b).mA (x.b).mL (x.b).mC, .int .i64 (x.b).tim]] ++ lb) W fun e w' => e = .returned (.bool (p x)) ∧ Bel W w') :
    Calls Try.prog 88 #[v, .func (.func g) #[] lb] w fun e w' => e = .returned (.int .i64 (idxB p L)) ∧ Bel w w' := by
  obtain ⟨A, c, rfl, hc1, hc2⟩ := h.form
  unfold maxLen at hc2
  have HAT := Lib.hid (fun k m (hk : L[k]? = some m) => h.at hk)
  have HG := Lib.hid hg
  obtain ⟨n, Hn⟩ : ∃ n, Hid (n = L.length) := ⟨_, rfl⟩
  obtain ⟨R, HR⟩ : ∃ R, Hid (R = idxB p L) := ⟨_, rfl⟩
  rw [← HR.out]
  rw [← Hn.out] at hc1 ⊢
  clear h hg
  go_enter Try.func88, Try.ntmps88
  go_wp2
  go_loopw [8] (fun iv wr => ∃ i : Nat, iv = .int .i64 i ∧ i ≤ n ∧ Hid ((L.take i).any p = false) ∧ Bel w wr) (fun iv _ => n - (intOf iv).toNat)
  case atStart => exact ⟨0, rfl, by omega, by simp [Hid], Bel.refl _⟩
  case round =>
    obtain ⟨i, rfl, p1, HA, hbr⟩ := hrel
    by_cases hlt : i < n
    · have i1 : (i : Int) < (n : Int) := by omega
      obtain ⟨x, hx⟩ : ∃ x, L[i]? = some x := ⟨L[i]'(by have := Hn.out; omega), List.getElem?_eq_getElem _⟩
      obtain ⟨b, o, c2, hat⟩ := HAT.out i x hx
      have hf := hat.form
      injection hf with hf1 hf2 hf3
      subst hf1
      have hlb := hat.lt
      have hrow := hat.row.bel hbr hlb
      have d0 := (hrow).cell 0 rfl
      have d1 := (hrow).cell 1 rfl
      have d2 := (hrow).cell 2 rfl
      have d3 := (hrow).cell 3 rfl
      have d4 := (hrow).cell 4 rfl
      have d5 := (hrow).cell 5 rfl
      have d6 := (hrow).cell 6 rfl
      have d7 := (hrow).cell 7 rfl
      have d8 := (hrow).cell 8 rfl
      rw [Nat.add_zero] at d0
      have HX := Lib.hid hx
      have HS := Lib.hid (any_take_succ' (p := p) hx)
      have hmem := List.mem_of_getElem? hx
      clear hx hrow hat hf2 hf3
      go_wp2_with fail
      refine (HG.out _ x hbr hmem).mono ?_; rintro e w1 ⟨rfl, hb1⟩
      cases hp : p x
      · have HA2 : Hid ((L.take (i + 1)).any p = false) := by show _ = _; rw [HS.out, HA.out, hp]; rfl
        clear hp
        go_wp2
        go_roundw
        case rel => exact ⟨i + 1, by go_num, by omega, HA2, hbr.trans hb1⟩
        case measure => simp [intOf]; omega
      · have HF : Hid (R = (i : Int)) := by show _ = _; rw [HR.out]; exact idxB_at HX.out hp HA.out
        clear hp
        go_wp2
        go_ret
        exact ⟨ret_int HF.out.symm, hbr.trans hb1⟩
    · obtain rfl : i = n := by omega
      have i1 : decide ((i : Int) < (i : Int)) = false := by simp
      have HF : Hid (R = -1) := by
        show _ = _
        rw [HR.out]
        exact idxB_no (by rw [← HA.out, List.take_of_length_le (by have := Hn.out; omega)])
      go_wp2
      go_ret
      exact ⟨ret_int HF.out.symm, hbr⟩

set_option maxHeartbeats 2000000 in
theorem containsBun_any (L : List BM) (v : Value) (g : Nat) (lb : Array Value) (p : BM → Bool) (w : World) (h : BL w v L)
    (eg : ∀ args w, (callFunc g args).run Try.prog w = .ok (.enter g args) w)
    (hg : ∀ W x, Bel w W → x ∈ L → Calls Try.prog g (#[.agg #[.int .i64 (x.b).id, .int .i64 (x.b).ten, .int .i64 (x.b).knd, .int .i64 (x.b).sec, .int .i64 (x.b).cnt, .string (x.b).dat, .bool (x.b).fua, .slice (x.b).mA (x.b).mL (x.b).mC, .int .i64 (x.b).tim]] ++ lb) W fun e w' => e = .returned (.bool (p x)) ∧ Bel W w') :
    Calls Try.prog 62 #[v, .func (.func g) #[] lb] w fun e w' => e = .returned (.bool (L.any p)) ∧ Bel w w' := by
  have HI := Lib.hid (indexBun_any L v g lb p w h eg hg)
  have HV := Lib.hid (idxB_any p L)
  generalize idxB p L = k at *
  generalize L.any p = bb at *
  obtain ⟨A, c, rfl, _, _⟩ := h.form
  clear h hg eg
  go_enter Try.func62, Try.ntmps62
  go_wp2_with fail
  refine HI.out.mono ?_; rintro e w1 ⟨rfl, hb1⟩
  go_wp2
  go_ret
  exact ⟨ret_bool HV.out, hb1⟩

set_option maxHeartbeats 2000000 in
theorem add1_any (x y : BM) (B : Nat) (w : World) (hx : Mems w x.b x.ms) (hy : Mems w y.b y.ms) (hB : AtF w B [.int .i64 (y.b).id, .int .i64 (y.b).ten, .int .i64 (y.b).knd, .int .i64 (y.b).sec, .int .i64 (y.b).cnt, .string (y.b).dat, .bool (y.b).fua, .slice (y.b).mA (y.b).mL (y.b).mC, .int .i64 (y.b).tim]) :
    Calls Try.prog 63 #[.agg #[.int .i64 (x.b).id, .int .i64 (x.b).ten, .int .i64 (x.b).knd, .int .i64 (x.b).sec, .int .i64 (x.b).cnt, .string (x.b).dat, .bool (x.b).fua, .slice (x.b).mA (x.b).mL (x.b).mC, .int .i64 (x.b).tim], .pointer (some ⟨B, 0, none⟩)] w fun e w' => e = .returned (.bool (confU x.bu y.bu)) ∧ Bel w w' := by
  have HC := Lib.hid (fun w' (h : Bel w w') => conflict_any x y w' (hx.bel h) (hy.bel h))
  obtain ⟨r, Hr⟩ : ∃ r, Hid (r = confU x.bu y.bu) := ⟨_, rfl⟩
  rw [← conf_bu] at Hr
  rw [← conf_bu, ← Hr.out]
  rw [← Hr.out] at HC
  obtain ⟨⟨i1, t1, k1, s1, n1, d1, f1, a1, l1, c1, m1⟩, ms1⟩ := x
  obtain ⟨⟨i2, t2, k2, s2, n2, d2, f2, a2, l2, c2, m2⟩, ms2⟩ := y
  simp only at HC hB ⊢
  have b0 := (hB).1.2 0 _ rfl
  have b1 := (hB).1.2 1 _ rfl
  have b2 := (hB).1.2 2 _ rfl
  have b3 := (hB).1.2 3 _ rfl
  have b4 := (hB).1.2 4 _ rfl
  have b5 := (hB).1.2 5 _ rfl
  have b6 := (hB).1.2 6 _ rfl
  have b7 := (hB).1.2 7 _ rfl
  have b8 := (hB).1.2 8 _ rfl
  have hl := hB.1.1
  clear hx hy
  go_enter Try.func63, Try.ntmps63
  go_wp2_with fail
  refine (HC.out _ (by repeat (first | (with_reducible exact Bel.refl _) | (with_reducible assumption) | (with_reducible refine Bel.drewN ?_ _) | (with_reducible refine Bel.drew ?_) | (with_reducible refine Bel.alloc ?_ _) | (with_reducible refine Bel.setNew ?_ ?_ _) | (with_reducible refine Bel.trans ?_ (by assumption)) | (focus (simp; done)) | (focus (simp; omega))))).mono ?_; rintro e w1 ⟨rfl, hb1⟩
  go_wp2
  go_ret
  exact ⟨rfl, (by repeat (first | (with_reducible exact Bel.refl _) | (with_reducible assumption) | (with_reducible refine Bel.drewN ?_ _) | (with_reducible refine Bel.drew ?_) | (with_reducible refine Bel.alloc ?_ _) | (with_reducible refine Bel.setNew ?_ ?_ _) | (with_reducible refine Bel.trans ?_ (by assumption)) | (focus (simp; done)) | (focus (simp; omega))))⟩
end Go.Proofs.Ytbijfmpmgmfpgaa
