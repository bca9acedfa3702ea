/- The reference's Cut. -/
import Derived.Test.YtbijfmpmgmfpgaaCut
import Derived.Test.YtbijfmpmgmfpgaaBunchL
namespace Go.Proofs.Ytbijfmpmgmfpgaa
open Go.RowKit
set_option linter.unusedSimpArgs false

set_option maxRecDepth 100000 in
set_option maxHeartbeats 8000000 in
theorem refCut_any (x : BM) (d : ByteArray) (w : World) (hx : Mems w x.b x.ms) (hl : x.ms.length ≤ 1000) :
    Calls Try.prog 38 #[.agg #[.int .i64 (x.b).id, .int .i64 (x.b).ten, .int .i64 (x.b).knd, .int .i64 (x.b).sec, .int .i64 (x.b).cnt, .string (x.b).dat, .bool (x.b).fua, .slice (x.b).mA (x.b).mL (x.b).mC, .int .i64 (x.b).tim], .string d] w fun e w' => ∃ v, e = .returned v ∧ w'.ownsRow w.heap.size 9 1 v (cutU x.bu d).length (tcells (cutU x.bu d)) ∧ Bel w w' := by
  have HV := Lib.hid (fun w' (h : Bel w w') => refBunch_any x.b x.ms w' (hx.bel h))
  obtain ⟨L, HL⟩ : ∃ L, Hid (L = cutU x.bu d) := ⟨_, rfl⟩
  rw [← HL.out]
  have hno : ¬ (okU x.bu = true ∧ (d.size : Int) = x.b.cnt * 8) → L = [] := fun h => by rw [HL.out]; exact if_neg h
  have hyes : (okU x.bu = true ∧ (d.size : Int) = x.b.cnt * 8) → L = x.ms.map (cutM d) := fun h => by rw [HL.out]; exact if_pos h
  have hok : okU x.bu = validB x.b x.ms := rfl
  cases hv : validB x.b x.ms
  · have HN := Lib.hid (hno (by rw [hok, hv]; simp))
    rw [hv] at HV
    obtain ⟨⟨i1, t1, k1, s1, n1, d1, f1, a1, l1, c1, m1⟩, ms1⟩ := x
    simp only at HV ⊢
    clear hno hyes hok hv hx hl HL
    go_enter Try.func38, Try.ntmps38
    go_wp2_with fail
    refine (HV.out _ (by repeat (first | (with_reducible exact Bel.refl _) | (with_reducible assumption) | (with_reducible refine Bel.drewN ?_ _) | (with_reducible refine Bel.drew ?_) | (with_reducible refine Bel.alloc ?_ _) | (with_reducible refine Bel.setNew ?_ ?_ _) | (with_reducible refine Bel.trans ?_ (by assumption)) | (focus (simp; done)) | (focus (simp; omega))))).mono ?_; rintro e w1 ⟨rfl, hb1⟩
    go_wp2
    go_ret
    exact ⟨_, rfl, by rw [HN.out]; exact ⟨rfl, Or.inl ⟨rfl, rfl⟩⟩, (by repeat (first | (with_reducible exact Bel.refl _) | (with_reducible assumption) | (with_reducible refine Bel.drewN ?_ _) | (with_reducible refine Bel.drew ?_) | (with_reducible refine Bel.alloc ?_ _) | (with_reducible refine Bel.setNew ?_ ?_ _) | (with_reducible refine Bel.trans ?_ (by assumption)) | (focus (simp; done)) | (focus (simp; omega))))⟩
  · rw [hv] at HV hok
    obtain ⟨b1, b2, b3, b4⟩ := validB_range hv
    have HMB := Lib.hid (fun m (hm : m ∈ x.ms) => okU_mem (u := x.bu) hok hm)
    by_cases hs : (d.size : Int) = x.b.cnt * 8
    · have HY := Lib.hid (hyes ⟨hok, hs⟩)
      have HMX := Lib.hid hx
      obtain ⟨⟨i1, t1, k1, s1, n1, d1, f1, a1, l1, c1, m1⟩, ms1⟩ := x
      simp only at HV HMB b1 b2 b3 b4 hs hl HY ⊢
      obtain ⟨hl1, hr1, -, -⟩ := HMX.out
      simp only at hl1 hr1
      subst hl1
      clear hno hyes hok hv hx HL HMX
      have hX := AtF.new w 27 [.int .i64 i1, .int .i64 t1, .int .i64 k1, .int .i64 s1, .int .i64 n1, .string d1, .bool f1, .slice a1 ms1.length c1, .int .i64 m1]
      simp only [List.toArray] at hX
      have HAT := Lib.hid (fun k m (hk : ms1[k]? = some m) => mems_at hr1 hk)
      obtain ⟨i0, hi0, hz0, hz1, hz2⟩ := info_parts Try.infoString
      obtain ⟨n, Hn⟩ : ∃ n, Hid (n = ms1.length) := ⟨_, rfl⟩
      rw [← Hn.out] at HV hX hl
      rw [← Hn.out]
      have hsz : ((d.size : Int) != n1 * 8) = false := by simp [hs]
      clear hr1
      go_enter Try.func38, Try.ntmps38
      go_wp2_with fail
      refine (HV.out _ (by repeat (first | (with_reducible exact Bel.refl _) | (with_reducible assumption) | (with_reducible refine Bel.drewN ?_ _) | (with_reducible refine Bel.drew ?_) | (with_reducible refine Bel.alloc ?_ _) | (with_reducible refine Bel.setNew ?_ ?_ _) | (with_reducible refine Bel.trans ?_ (by assumption)) | (focus (simp; done)) | (focus (simp; omega))))).mono ?_; rintro e w1 ⟨rfl, hb1⟩
      have hX1 := hX.bel hb1
      have x4 := hX1.1.2 4 _ rfl
      have x7 := hX1.1.2 7 _ rfl
      have hbw1 : Bel w w1 := ((Bel.refl w).alloc _).trans hb1
      clear hX hb1
      go_wp2
      clear x4 x7
      go_loopw [5, 6] (fun ov iv wr => ∃ (i : Nat), iv = .int .i64 i ∧ i ≤ n ∧ wr.ownsRow w1.heap.size 9 1 ov i (tcells ((ms1.take i).map (cutM d))) ∧ Bel w1 wr) (fun _ iv _ => n - (intOf iv).toNat)
      case atStart => exact ⟨0, rfl, by omega, ⟨by simp [tcells], Or.inl ⟨rfl, rfl⟩⟩, Bel.refl _⟩
      case round =>
        obtain ⟨i, rfl, p1, hown, hbr⟩ := hrel
        obtain ⟨A, cp, rfl⟩ := own_slice hown
        have x7 := (hX1.bel hbr).1.2 7 _ rfl
        by_cases hlt : i < n
        · have i1 : (i : Int) < (n : Int) := by omega
          obtain ⟨m, hm⟩ : ∃ m, ms1[i]? = some m := ⟨ms1[i]'(by have := Hn.out; omega), List.getElem?_eq_getElem _⟩
          obtain ⟨b, o, rfl, hlb, hrow⟩ := HAT.out i m hm
          have hrow := hrow.bel (hbw1.trans hbr) hlb
          have d0 := hrow.cell 0 rfl
          have d1 := hrow.cell 1 rfl
          have d2 := hrow.cell 2 rfl
          rw [Nat.add_zero] at d0
          have HX := Lib.hid hm
          obtain ⟨g1, g2, g3⟩ := HMB.out m (List.mem_of_getElem? hm)
          have g3 : m.off + m.cnt ≤ n1 := g3
          have hb1s := hbr.size
          have hbs := (hbw1.trans hbr).size
          have hlw : b < wr.heap.size := by omega
          have hcut : ∀ W, (Instr.slice 9 (.string d) (some (.int .i64 (m.off * 8))) (some (.int .i64 ((m.off + m.cnt) * 8))) none).run Try.prog W = .ok (.string (cutM d m)) W := fun W => by
            have := run_slice_string (P := Try.prog) W 9 d .i64 .i64 (m.off * 8) ((m.off + m.cnt) * 8) Try.underlying9 (by omega) (by omega) (by omega)
            rw [this]
            unfold cutM
            rw [show (m.off * 8).toNat = m.off.toNat * 8 by omega, show ((m.off + m.cnt) * 8).toNat = (m.off + m.cnt).toNat * 8 by omega]
          clear hm hrow
          obtain ⟨cs, Hcs⟩ : ∃ cs, Hid (cs = cutM d m) := ⟨_, rfl⟩
          rw [← Hcs.out] at hcut
          go_wp2_with (at_builtin; go_must (refine wpList_append_own_at _ rfl _ _ 42 rfl w1.heap.size 9 i0 _ 1 16 Try.underlying42 hi0 hz0 hz1 hz2 rfl (by omega) (.slice A i cp) _ _ rfl ((hown.alloc _).alloc _) ⟨wr.heap.size + 1, 0, none⟩ 1 1 [.string cs] rfl rfl (World.news_of_block (cs := #[.string cs]) (t := 9) (fr := (0, 0)) (heap_new_at (by simp))) (fun u hu => by simp at hu; subst hu; rfl) (by unfold maxLen; omega) (by omega) (by simp; omega) ?_); intro v' w3 hown' hg' _ hloc; obtain ⟨gn, cn, hvn, _, _⟩ := hown'.form (by omega); subst hvn)
          have hbw3 := bel_own ((hbr.alloc _).alloc _) ((hown.alloc _).alloc _) hg' (Nat.le_refl _)
          have HTK := Lib.hid (show tcells ((ms1.take (i + 1)).map (cutM d)) = tcells ((ms1.take i).map (cutM d)) ++ [.string cs] from by
            rw [List.take_add_one, HX.out, Hcs.out]; simp [tcells])
          clear hcut
          go_roundw
          case rel => exact ⟨i + 1, by go_num, by omega, by rw [HTK.out]; exact hown', hbw3⟩
          case measure => simp [intOf]; omega
        · obtain rfl : i = n := by omega
          have jk : decide ((i : Int) < (i : Int)) = false := by simp
          have HLL : Hid (L.length = i ∧ tcells L = tcells ((ms1.take i).map (cutM d))) := by
            show _ ∧ _
            have e4 : ms1.take i = ms1 := List.take_of_length_le (by rw [← Hn.out]; exact Nat.le_refl _)
            rw [e4, HY.out]
            exact ⟨by rw [List.length_map, Hn.out], rfl⟩
          go_wp2
          go_ret
          exact ⟨_, rfl, by rw [HLL.out.1, HLL.out.2]; exact own_mono hown hbw1.size, hbw1.trans hbr⟩
    · have HN := Lib.hid (hno (fun h => hs h.2))
      obtain ⟨⟨i1, t1, k1, s1, n1, d1, f1, a1, l1, c1, m1⟩, ms1⟩ := x
      simp only at HV b1 b2 b3 b4 hs ⊢
      have hsz : ((d.size : Int) != n1 * 8) = true := by simpa using hs
      have hX := AtF.new w 27 [.int .i64 i1, .int .i64 t1, .int .i64 k1, .int .i64 s1, .int .i64 n1, .string d1, .bool f1, .slice a1 l1 c1, .int .i64 m1]
      simp only [List.toArray] at hX
      clear hno hyes hok hv hx hl HL HMB hs
      go_enter Try.func38, Try.ntmps38
      go_wp2_with fail
      refine (HV.out _ (by repeat (first | (with_reducible exact Bel.refl _) | (with_reducible assumption) | (with_reducible refine Bel.drewN ?_ _) | (with_reducible refine Bel.drew ?_) | (with_reducible refine Bel.alloc ?_ _) | (with_reducible refine Bel.setNew ?_ ?_ _) | (with_reducible refine Bel.trans ?_ (by assumption)) | (focus (simp; done)) | (focus (simp; omega))))).mono ?_; rintro e w1 ⟨rfl, hb1⟩
      have x4 := (hX.bel hb1).1.2 4 _ rfl
      go_wp2
      go_ret
      exact ⟨_, rfl, by rw [HN.out]; exact ⟨rfl, Or.inl ⟨rfl, rfl⟩⟩, (by repeat (first | (with_reducible exact Bel.refl _) | (with_reducible assumption) | (with_reducible refine Bel.drewN ?_ _) | (with_reducible refine Bel.drew ?_) | (with_reducible refine Bel.alloc ?_ _) | (with_reducible refine Bel.setNew ?_ ?_ _) | (with_reducible refine Bel.trans ?_ (by assumption)) | (focus (simp; done)) | (focus (simp; omega))))⟩

end Go.Proofs.Ytbijfmpmgmfpgaa
