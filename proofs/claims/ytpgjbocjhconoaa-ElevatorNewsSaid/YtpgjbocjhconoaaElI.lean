/- The reference's New; the law's weightsOf. -/
import Derived.Test.YtpgjbocjhconoaaElE
import Derived.Test.YtpgjbocjhconoaaK11
import Derived.Test.YtpgjbocjhconoaaK8
import Derived.Test.YtpgjbocjhconoaaRem
namespace Go.Proofs.Ytpgjbocjhconoaa
open Go.RowKit Go.Maps
set_option linter.unusedSimpArgs false

theorem refTick_any (n : Int) (w : World) : Calls Try.prog 36 #[.int .i64 n] w fun e w' => e = .returned (.bool (tickE n)) ∧ Bel w w' := by
  go_enter Try.func36, Try.ntmps36
  go_wp2
  all_goals
    go_ret
    exact ⟨ret_bool (by first | (simp [tickE, *]; done) | (simp [tickE, *]; omega) | (simp [tickE]; omega) | (rw [Bool.eq_iff_iff]; simp [tickE, *]; omega)), Bel.refl _⟩

set_option maxRecDepth 100000 in
set_option maxHeartbeats 16000000 in
theorem refElNew_any (knd rd wt : Int) (zs : List Int) (bs : List Bk) (wv bv : Value) (w : World) (hw : Ints w wv zs) (hb : Rd w bv 4 bs.length (bkc bs)) (hzn : zs.length ≤ 1000) (hbn : bs.length ≤ 1000) :
    Calls Try.prog 11 #[.int .i64 knd, .agg #[.int .i64 rd, .int .i64 wt], wv, bv] w fun e w' => ∃ fl bu en, e = .returned (.tuple #[.agg #[.int .i64 (if newOk knd rd wt zs bs then knd else 0), .int .i64 (if newOk knd rd wt zs bs then rd else 0), .int .i64 (if newOk knd rd wt zs bs then wt else 0), .int .i64 0, fl, bu, en, .int .i64 0], .bool (newOk knd rd wt zs bs)]) ∧ ElN w' w.heap.size fl bu en (if newOk knd rd wt zs bs then newF zs else []) (if newOk knd rd wt zs bs then bs else []) [] ∧ Bel w w' := by
  obtain ⟨i0, hi0, hz0, hz1, hz2⟩ := info_parts Try.infoBkt
  have HFN := Lib.hid (fun w' (h : Bel w w') => refNew_any zs wv w' (Ints.bel hw h) hzn)
  have HBR := Lib.hid hb
  obtain ⟨r, Hr⟩ : ∃ r, Hid (newOk knd rd wt zs bs = r) := ⟨_, rfl⟩
  rw [Hr.out]
  obtain ⟨K, HK⟩ : ∃ K, Hid (decide (knd = 1 ∨ knd = 2 ∨ knd = 3) = K) := ⟨_, rfl⟩
  obtain ⟨ka, HA⟩ : ∃ K, Hid (tickE rd = K) := ⟨_, rfl⟩
  obtain ⟨kb, HB⟩ : ∃ K, Hid (tickE wt = K) := ⟨_, rfl⟩
  obtain ⟨kv, HV⟩ : ∃ K, Hid (fairOk 0 (newF zs) = K) := ⟨_, rfl⟩
  obtain ⟨F, HF⟩ : ∃ F, Hid (newF zs = F) := ⟨_, rfl⟩
  obtain ⟨r1, Hr1⟩ : ∃ x, Hid (x = (K && ka && kb && decide (zs.length = 4) && decide (bs.length = 4) && kv)) := ⟨_, rfl⟩
  have HRR : Hid (r = (r1 && bs.all bkOk)) := by
    show _ = _
    rw [← Hr.out, newOk, HK.out, HA.out, HB.out, HV.out, Hr1.out]
  have HTA := Lib.hid (fun w' => refTick_any rd w')
  have HTB := Lib.hid (fun w' => refTick_any wt w')
  rw [HA.out] at HTA
  rw [HB.out] at HTB
  rw [HV.out, HF.out] at HFN
  rw [HF.out]
  obtain ⟨Aw, cw, rfl, hcw, _⟩ := hw.2
  obtain ⟨Ab, cb, rfl, hcb, _⟩ := hb.form
  obtain ⟨n1, Hn1⟩ : ∃ n, Hid (n = zs.length) := ⟨_, rfl⟩
  obtain ⟨n2, Hn2⟩ : ∃ n, Hid (n = bs.length) := ⟨_, rfl⟩
  rw [← Hn1.out] at HFN Hr1 ⊢
  rw [← Hn2.out] at HBR Hr1 hbn ⊢
  clear hw hb hcw hcb hzn Hr
  have hX := (AtF.new_at (w := w) rfl 23 [.int .i64 rd, .int .i64 wt]).alloc (.cells [.int .i64 0, .int .i64 0, .int .i64 0, .int .i64 0, .slice none 0 0, .slice none 0 0, .slice none 0 0, .int .i64 0].toArray 31)
  have hR := AtF.new_at (w := w.alloc (.cells [.int .i64 rd, .int .i64 wt].toArray 23)) (g := w.heap.size + 1) (by simp) 31 [.int .i64 0, .int .i64 0, .int .i64 0, .int .i64 0, .slice none 0 0, .slice none 0 0, .slice none 0 0, .int .i64 0]
  have hbw : Bel w ((w.alloc (.cells [.int .i64 rd, .int .i64 wt].toArray 23)).alloc (.cells [.int .i64 0, .int .i64 0, .int .i64 0, .int .i64 0, .slice none 0 0, .slice none 0 0, .slice none 0 0, .int .i64 0].toArray 31)) := (by repeat (first | (with_reducible exact Bel.refl _) | (with_reducible assumption) | (with_reducible refine Bel.drewN ?_ _) | (with_reducible refine Bel.drew ?_) | (with_reducible refine Bel.alloc ?_ _) | (with_reducible refine Bel.setNew ?_ ?_ _) | (with_reducible refine Bel.trans ?_ (by assumption)) | (focus (simp; done)) | (focus (simp; omega))))
  simp only [List.toArray] at hX hR hbw
  go_enter Try.func11, Try.ntmps11
  go_wp2_with fail
  refine (HFN.out _ (by repeat (first | (with_reducible exact Bel.refl _) | (with_reducible assumption) | (with_reducible refine Bel.drewN ?_ _) | (with_reducible refine Bel.drew ?_) | (with_reducible refine Bel.alloc ?_ _) | (with_reducible refine Bel.setNew ?_ ?_ _) | (with_reducible refine Bel.trans ?_ (by assumption)) | (focus (simp; done)) | (focus (simp; omega))))).mono ?_; rintro e w1 ⟨fl', rfl, hfo, hb1⟩
  obtain ⟨A1, c1, rfl⟩ := own_slice hfo
  have HFO := Lib.hid hfo
  clear hfo
  obtain ⟨G, HG⟩ : ∃ G, Hid (G = if kv = true then F else []) := ⟨_, rfl⟩
  rw [← HG.out] at HFO ⊢
  obtain ⟨n3, Hn3⟩ : ∃ n, Hid (n = G.length) := ⟨_, rfl⟩
  rw [← Hn3.out] at HFO ⊢
  have hX1 := (hX.bel hb1).alloc (.cells [.int .i64 0, .slice A1 n3 c1].toArray 28)
  have hF1 := AtF.new_at (w := w1) rfl 28 [.int .i64 0, .slice A1 n3 c1]
  have hR1 := (hR.bel hb1).alloc (.cells [.int .i64 0, .slice A1 n3 c1].toArray 28)
  have hb2 := (hbw.trans hb1).alloc (.cells [.int .i64 0, .slice A1 n3 c1].toArray 28)
  simp only [List.toArray] at hX1 hF1 hR1 hb2
  have hsz1 := hb1.size
  simp only [World.size_alloc] at hsz1
  go_upto_region 2 with fail
  have HFO2 := Lib.hid (own_mono (own_keep HFO.out (w' := w1.alloc (.cells #[.int .i64 0, .slice A1 n3 c1] 28)) (by repeat (first | (with_reducible exact Bel.refl _) | (with_reducible assumption) | (with_reducible refine Bel.drewN ?_ _) | (with_reducible refine Bel.drew ?_) | (with_reducible refine Bel.alloc ?_ _) | (with_reducible refine Bel.setNew ?_ ?_ _) | (with_reducible refine Bel.trans ?_ (by assumption)) | (focus (simp; done)) | (focus (simp; omega))))) (base' := w.heap.size + 2) (by simp))
  clear HFO hX hR hb1 hbw
  generalize w1.alloc (.cells #[.int .i64 0, .slice A1 n3 c1] 28) = W at *
  generalize w1.heap.size = X at *
  have HBR2 := Lib.hid (HBR.out.bel hb2)
  go_cut [49] (fun v wx => v = .bool (!r1) ∧ Bel W wx)
  case first =>
    have x0 := hX1.1.2 0 _ rfl
    have x1 := hX1.1.2 1 _ rfl
    have xl := hX1.1.1
    by_cases h1 : knd < 1
    · have hk : K = false := by rw [← HK.out]; exact decide_eq_false (by omega)
      have h1b : decide (knd < 1) = true := decide_eq_true h1
      subst hk
      go_wp2_with fail
      go_meet
      exact ⟨by rw [Hr1.out]; simp , (by repeat (first | (with_reducible exact Bel.refl _) | (with_reducible assumption) | (with_reducible refine Bel.drewN ?_ _) | (with_reducible refine Bel.drew ?_) | (with_reducible refine Bel.alloc ?_ _) | (with_reducible refine Bel.setNew ?_ ?_ _) | (with_reducible refine Bel.trans ?_ (by assumption)) | (focus (simp; done)) | (focus (simp; omega))))⟩
    · have h1b : decide (knd < 1) = false := decide_eq_false h1
      by_cases h2 : 3 < knd
      · have hk : K = false := by rw [← HK.out]; exact decide_eq_false (by omega)
        have h2b : decide (3 < knd) = true := decide_eq_true h2
        subst hk
        go_wp2_with fail
        go_meet
        exact ⟨by rw [Hr1.out]; simp , (by repeat (first | (with_reducible exact Bel.refl _) | (with_reducible assumption) | (with_reducible refine Bel.drewN ?_ _) | (with_reducible refine Bel.drew ?_) | (with_reducible refine Bel.alloc ?_ _) | (with_reducible refine Bel.setNew ?_ ?_ _) | (with_reducible refine Bel.trans ?_ (by assumption)) | (focus (simp; done)) | (focus (simp; omega))))⟩
      · have h2b : decide (3 < knd) = false := decide_eq_false h2
        have hk : K = true := by rw [← HK.out]; exact decide_eq_true (by omega)
        subst hk
        go_wp2_with fail
        refine (HTA.out _).mono ?_; rintro e w2 ⟨rfl, hb3⟩
        cases ka
        · skip
          go_wp2_with fail
          go_meet
          exact ⟨by rw [Hr1.out]; simp , (by repeat (first | (with_reducible exact Bel.refl _) | (with_reducible assumption) | (with_reducible refine Bel.drewN ?_ _) | (with_reducible refine Bel.drew ?_) | (with_reducible refine Bel.alloc ?_ _) | (with_reducible refine Bel.setNew ?_ ?_ _) | (with_reducible refine Bel.trans ?_ (by assumption)) | (focus (simp; done)) | (focus (simp; omega))))⟩
        · have y1 := (hX1.bel hb3).1.2 1 _ rfl
          have yl := (hX1.bel hb3).1.1
          go_wp2_with fail
          refine (HTB.out _).mono ?_; rintro e w3 ⟨rfl, hb4⟩
          cases kb
          · skip
            go_wp2_with fail
            go_meet
            exact ⟨by rw [Hr1.out]; simp , (by repeat (first | (with_reducible exact Bel.refl _) | (with_reducible assumption) | (with_reducible refine Bel.drewN ?_ _) | (with_reducible refine Bel.drew ?_) | (with_reducible refine Bel.alloc ?_ _) | (with_reducible refine Bel.setNew ?_ ?_ _) | (with_reducible refine Bel.trans ?_ (by assumption)) | (focus (simp; done)) | (focus (simp; omega))))⟩
          · by_cases h1 : n1 = 4
            · subst h1
              by_cases h2 : n2 = 4
              · subst h2
                cases kv
                · skip
                  go_wp2_with fail
                  go_meet
                  exact ⟨by rw [Hr1.out]; simp , (by repeat (first | (with_reducible exact Bel.refl _) | (with_reducible assumption) | (with_reducible refine Bel.drewN ?_ _) | (with_reducible refine Bel.drew ?_) | (with_reducible refine Bel.alloc ?_ _) | (with_reducible refine Bel.setNew ?_ ?_ _) | (with_reducible refine Bel.trans ?_ (by assumption)) | (focus (simp; done)) | (focus (simp; omega))))⟩
                · skip
                  go_wp2_with fail
                  go_meet
                  exact ⟨by rw [Hr1.out]; simp , (by repeat (first | (with_reducible exact Bel.refl _) | (with_reducible assumption) | (with_reducible refine Bel.drewN ?_ _) | (with_reducible refine Bel.drew ?_) | (with_reducible refine Bel.alloc ?_ _) | (with_reducible refine Bel.setNew ?_ ?_ _) | (with_reducible refine Bel.trans ?_ (by assumption)) | (focus (simp; done)) | (focus (simp; omega))))⟩
              · have h2b : ((n2 : Int) != 4) = true := by simp; omega
                go_wp2_with fail
                go_meet
                exact ⟨by rw [Hr1.out]; simp [h2], (by repeat (first | (with_reducible exact Bel.refl _) | (with_reducible assumption) | (with_reducible refine Bel.drewN ?_ _) | (with_reducible refine Bel.drew ?_) | (with_reducible refine Bel.alloc ?_ _) | (with_reducible refine Bel.setNew ?_ ?_ _) | (with_reducible refine Bel.trans ?_ (by assumption)) | (focus (simp; done)) | (focus (simp; omega))))⟩
            · have h1b : ((n1 : Int) != 4) = true := by simp; omega
              go_wp2_with fail
              go_meet
              exact ⟨by rw [Hr1.out]; simp [h1], (by repeat (first | (with_reducible exact Bel.refl _) | (with_reducible assumption) | (with_reducible refine Bel.drewN ?_ _) | (with_reducible refine Bel.drew ?_) | (with_reducible refine Bel.alloc ?_ _) | (with_reducible refine Bel.setNew ?_ ?_ _) | (with_reducible refine Bel.trans ?_ (by assumption)) | (focus (simp; done)) | (focus (simp; omega))))⟩
  case rest =>
    obtain ⟨rfl, hb3⟩ := hcut
    obtain ⟨W0, rfl⟩ : ∃ X, X = wc := ⟨_, rfl⟩
    cases r1
    · have hr : r = false := by rw [HRR.out]; rfl
      subst hr
      have hR2 := hR1.bel hb3
      have hbz := hb2.trans hb3
      have r0 := (hR2).1.2 0 _ rfl
      have r1 := (hR2).1.2 1 _ rfl
      have r2 := (hR2).1.2 2 _ rfl
      have r3 := (hR2).1.2 3 _ rfl
      have r4 := (hR2).1.2 4 _ rfl
      have r5 := (hR2).1.2 5 _ rfl
      have r6 := (hR2).1.2 6 _ rfl
      have r7 := (hR2).1.2 7 _ rfl
      have rf := hR2.2
      have rl := hR2.1.1
      go_wp2
      clear r0 r1 r2 r3 r4 r5 r6 r7
      have hi8 : (Try.prog.info? 31).map (·.size) = some 8 := by kernel_rfl
      have hb8 := Bel.setRow (B := w.heap.size + 1) (i := 0) [.int .i64 0, .int .i64 0, .int .i64 0, .int .i64 0, .slice none 0 0, .slice none 0 0, .slice none 0 0, .int .i64 0] hbz (by omega)
      have hR8 := hR2.setRow [.int .i64 0, .int .i64 0, .int .i64 0, .int .i64 0, .slice none 0 0, .slice none 0 0, .slice none 0 0, .int .i64 0] rfl
      have hlv := loadVar_at (P := Try.prog) 31 hR8 _ Try.underlying31 rfl hi8
      clear hR8
      simp only [setRow, Nat.zero_add, Nat.reduceAdd] at hlv hb8
      exact bodyPost_ret (v := .tuple #[.agg #[.int .i64 0, .int .i64 0, .int .i64 0, .int .i64 0, .slice none 0 0, .slice none 0 0, .slice none 0 0, .int .i64 0], .bool false]) (by simp [results, Try.results11, hlv, asAddr]) rfl ⟨_, _, _, rfl, ElN.nil _ _, hb8⟩
    · have HKK : Hid (K = true ∧ ka = true ∧ kb = true ∧ n1 = 4 ∧ n2 = 4 ∧ kv = true) := by
        have h := Hr1.out
        simp only [Bool.true_eq, Bool.and_eq_true, decide_eq_true_eq] at h
        obtain ⟨⟨⟨⟨⟨h1, h2⟩, h3⟩, h4⟩, h5⟩, h6⟩ := h
        exact ⟨h1, h2, h3, h4, h5, h6⟩
      obtain ⟨h1, h2, h3, h4, h5, h6⟩ := HKK.out
      subst h1 h2 h3 h4 h5 h6
      have hX2 := hX1.bel hb3
      have hF2 := hF1.bel hb3
      have hR2 := hR1.bel hb3
      have hbz := hb2.trans hb3
      have HS := Lib.hid (And.intro hX2 (And.intro hF2 (And.intro hR2 hbz)))
      clear hX1 hF1 hR1 hb2 hX2 hF2 hR2 hbz
      go_wp2
      go_loopw [12] (fun iv wr => ∃ i : Nat, iv = .int .i64 i ∧ i ≤ 4 ∧ Hid ((bs.take i).all bkOk = true) ∧ Bel W0 wr) (fun iv _ => 4 - (intOf iv).toNat)
      case atStart => exact ⟨0, rfl, by omega, rfl, Bel.refl _⟩
      case round =>
        obtain ⟨i, rfl, hi, HAL, hbr⟩ := hrel
        obtain ⟨W3, rfl⟩ : ∃ X, X = wr := ⟨_, rfl⟩
        by_cases hlt : i < 4
        · have hin : (i : Int) < 4 := by omega
          obtain ⟨⟨br, bb, bl, bt⟩, hx⟩ : ∃ x, bs[i]? = some x := ⟨bs[i]'(by have := Hn2.out; omega), List.getElem?_eq_getElem _⟩
          obtain ⟨g, o, cx, hfx, hgl, hcx⟩ := (HBR2.out.bel (hb3.trans hbr)).at (by omega)
          injection hfx with h1 h2 h3
          subst h1
          have p0 := hcx _ _ (bkc_at hx (j := 0) rfl)
          have p1 := hcx _ _ (bkc_at hx (j := 1) rfl)
          have p2 := hcx _ _ (bkc_at hx (j := 2) rfl)
          have p3 := hcx _ _ (bkc_at hx (j := 3) rfl)
          simp only [Nat.add_zero, ← Nat.add_assoc] at p0 p1 p2 p3
          obtain ⟨k, Hk⟩ : ∃ k, Hid (bkOk ⟨br, bb, bl, bt⟩ = k) := ⟨_, rfl⟩
          have HTV := Lib.hid (fun w' => refBucket_any br bb bl bt w')
          rw [Hk.out] at HTV
          have HTK : Hid ((bs.take (i + 1)).all bkOk = k) := by
            show _ = _
            rw [List.take_add_one, hx, List.all_append, HAL.out]
            show (true && (bkOk ⟨br, bb, bl, bt⟩ && true)) = k
            rw [Hk.out, Bool.and_true, Bool.true_and]
          clear h2 h3 hx hcx
          go_wp2_with fail
          refine (HTV.out _).mono ?_; rintro e w5 ⟨rfl, hb5⟩
          clear p0 p1 p2 p3
          cases k
          · have hr : r = false := by
              rw [HRR.out, Bool.true_and, Bool.eq_false_iff]
              intro h
              have h2 := HTK.out
              rw [List.all_eq_true] at h
              rw [Bool.eq_false_iff] at h2
              exact h2 (List.all_eq_true.2 fun x hx => h x (List.mem_of_mem_take hx))
            subst hr
            obtain ⟨_, _, q3, q4⟩ := HS.out
            have hR2 := q3.bel (hbr.trans hb5)
            have hbz := q4.trans (hbr.trans hb5)
            have r0 := (hR2).1.2 0 _ rfl
            have r1 := (hR2).1.2 1 _ rfl
            have r2 := (hR2).1.2 2 _ rfl
            have r3 := (hR2).1.2 3 _ rfl
            have r4 := (hR2).1.2 4 _ rfl
            have r5 := (hR2).1.2 5 _ rfl
            have r6 := (hR2).1.2 6 _ rfl
            have r7 := (hR2).1.2 7 _ rfl
            have rf := hR2.2
            have rl := hR2.1.1
            go_wp2
            clear r0 r1 r2 r3 r4 r5 r6 r7
            have hi8 : (Try.prog.info? 31).map (·.size) = some 8 := by kernel_rfl
            have hb8 := Bel.setRow (B := w.heap.size + 1) (i := 0) [.int .i64 0, .int .i64 0, .int .i64 0, .int .i64 0, .slice none 0 0, .slice none 0 0, .slice none 0 0, .int .i64 0] hbz (by omega)
            have hR8 := hR2.setRow [.int .i64 0, .int .i64 0, .int .i64 0, .int .i64 0, .slice none 0 0, .slice none 0 0, .slice none 0 0, .int .i64 0] rfl
            have hlv := loadVar_at (P := Try.prog) 31 hR8 _ Try.underlying31 rfl hi8
            clear hR8
            simp only [setRow, Nat.zero_add, Nat.reduceAdd] at hlv hb8
            exact bodyPost_ret (v := .tuple #[.agg #[.int .i64 0, .int .i64 0, .int .i64 0, .int .i64 0, .slice none 0 0, .slice none 0 0, .slice none 0 0, .int .i64 0], .bool false]) (by simp [results, Try.results11, hlv, asAddr]) rfl ⟨_, _, _, rfl, ElN.nil _ _, hb8⟩
          · have hbf := hbr.trans hb5
            go_wp2
            go_roundw
            case rel => exact ⟨i + 1, by go_num, by omega, HTK, hbf⟩
            case measure => simp [intOf]; omega
        · obtain rfl : i = 4 := by omega
          have hr : r = true := by
            rw [HRR.out, Bool.true_and]
            have h := HAL.out
            rw [List.take_of_length_le (by rw [← Hn2.out]; exact Nat.le_refl _)] at h
            exact h
          subst hr
          obtain ⟨q1, q2, q3, q4⟩ := HS.out
          have hX4 := q1.bel hbr
          have hF4 := q2.bel hbr
          have hR4 := q3.bel hbr
          have hb4 := q4.trans hbr
          obtain ⟨g, o, cx, hfx, hgl, hcx⟩ := (HBR2.out.bel (hb3.trans hbr)).at (by omega)
          injection hfx with h1 h2 h3
          subst h1
          clear h2 h3 q1 q2 q3 q4
          go_upto_region 9 with fail
          refine wp_region_st [4] 5 (by kernel_rfl) (by kernel_rfl) ?_
          with_reducible refine st_sel [0, 1, 2, 3] (by kernel_rfl) (by kernel_rfl) ?_
          simp only [picked, List.getElem?_cons_succ, List.getElem?_cons_zero, Option.toList_some, List.nil_append, List.cons_append, List.append_nil]
          go_big_quiet_step (fail)
          refine wpQuiet_load_at rfl 23 _ rfl rfl hX4 _ Try.underlying23 rfl (by kernel_rfl) ?_
          refine wpQuiet_load_at rfl 28 _ rfl rfl hF4 _ Try.underlying28 rfl (by kernel_rfl) ?_
          try simp only [Act.put, List.setIfInBounds_toArray, List.set_cons_succ, List.set_cons_zero]
          go_big_quiet_step (fail)
          with_reducible refine wpQuiet_nil ?_
          try simp only [List.nil_append, List.cons_append, Act.put, List.setIfInBounds_toArray, List.set_cons_succ, List.set_cons_zero]
          refine st_branch [4] (by kernel_rfl) (branch_cons (by simp only [List.getElem?_toArray, List.getElem?_cons_succ, List.getElem?_cons_zero]; rfl) ?_ branch_nil)
          refine eff_append_own rfl _ _ 25 rfl W3.heap.size 60 i0 _ 4 32 Try.underlying25 hi0 hz0 hz1 hz2 rfl (by omega) (.slice none 0 0) 0 [] rfl ⟨by simp, Or.inl ⟨rfl, rfl⟩⟩ ⟨g, o, none⟩ 4 _ (bkc bs) rfl (by rw [bkc_len, ← Hn2.out]) (fun j u hu => by rw [Addr.add_lit]; exact hcx j u hu) (bkc_one bs) (by unfold maxLen; omega) (by omega) (by simp) (by repeat (first | (with_reducible exact Bel.refl _) | (with_reducible assumption) | (with_reducible refine Bel.drewN ?_ _) | (with_reducible refine Bel.drew ?_) | (with_reducible refine Bel.alloc ?_ _) | (with_reducible refine Bel.setNew ?_ ?_ _) | (with_reducible refine Bel.trans ?_ (by assumption)) | (focus (simp; done)) | (focus (simp; omega)))) (Nat.le_refl _) ?_
          intro va wa howna hga hba
          simp only [Nat.zero_add, List.nil_append] at howna
          try simp only [List.nil_append, List.cons_append, Act.put, List.setIfInBounds_toArray, List.set_cons_succ, List.set_cons_zero]
          refine st_end (by kernel_rfl) ?_
          simp only [List.drop_succ_cons, List.drop_zero, List.drop_nil]
          obtain ⟨A2, c2, rfl⟩ := own_slice howna
          have HFO5 := Lib.hid (own_keep HFO2.out (hb3.trans (hbr.trans hba)))
          have hR5 := hR4.bel hba
          have HBO := Lib.hid howna
          have hs3 := hb3.size
          have hs4 := hbr.size
          have hs5 := hR4.1.1
          have HEN : Hid (ElN wa (w.heap.size + 2) (.slice A1 n3 c1) (.slice A2 4 c2) (.slice none 0 0) F bs []) := by
            have hG : G = F := HG.out
            have h3 : ∀ m, m = n3 → wa.ownsRow (w.heap.size + 2) 84 2 (.slice A1 n3 c1) m (fcells F) := fun m e => by rw [e, ← hG]; exact HFO5.out
            have h4 : ∀ m, m = 4 → wa.ownsRow W3.heap.size 60 4 (.slice A2 4 c2) m (bkc bs) := fun m e => by rw [e]; exact HBO.out
            refine ⟨h3 _ (by rw [← hG]; exact Hn3.out.symm), own_mono (h4 _ Hn2.out.symm) (by omega), ⟨QO.nil _ _, fun j x hj => by simp at hj⟩, fun k h1 h2 => ?_, fun k h1 h2 => (by cases h2), fun k h1 h2 => (by cases h2), fun k h1 x hx => (by cases hx), fun k h1 x hx => (by cases hx)⟩
            have g1 := (HFO2.out.lt k h1).2
            have g2 := (HBO.out.lt k h2).1
            omega
          have hb6 := hb4.trans hba
          have CS : ∀ u ∈ ([.int .i64 knd, .int .i64 rd, .int .i64 wt, .int .i64 0, .slice A1 n3 c1, .slice A2 4 c2, .slice none 0 0, .int .i64 0] : List Value), u.oneCell' = true := fun u hu => by
            simp only [List.mem_cons, List.not_mem_nil, or_false] at hu
            rcases hu with rfl | rfl | rfl | rfl | rfl | rfl | rfl | rfl <;> rfl
          have hi8 : (Try.prog.info? 31).map (·.size) = some 8 := by kernel_rfl
          have hR9 := hR5.setRow [.int .i64 knd, .int .i64 rd, .int .i64 wt, .int .i64 0, .slice A1 n3 c1, .slice A2 4 c2, .slice none 0 0, .int .i64 0] rfl
          have hE9 := (ElN.setRow (B := w.heap.size + 1) (i := 0) [.int .i64 knd, .int .i64 rd, .int .i64 wt, .int .i64 0, .slice A1 n3 c1, .slice A2 4 c2, .slice none 0 0, .int .i64 0] HEN.out (by omega)).mono (base' := w.heap.size) (by omega)
          have hb9 := Bel.setRow (B := w.heap.size + 1) (i := 0) [.int .i64 knd, .int .i64 rd, .int .i64 wt, .int .i64 0, .slice A1 n3 c1, .slice A2 4 c2, .slice none 0 0, .int .i64 0] hb6 (by omega)
          have hlv := loadVar_at (P := Try.prog) 31 hR9 _ Try.underlying31 rfl hi8
          simp only [setRow, Nat.zero_add, Nat.reduceAdd] at hlv hb9 hE9
          clear hR9
          have r0 := (hR5).1.2 0 _ rfl
          have r1 := (hR5).1.2 1 _ rfl
          have r2 := (hR5).1.2 2 _ rfl
          have r3 := (hR5).1.2 3 _ rfl
          have r4 := (hR5).1.2 4 _ rfl
          have r5 := (hR5).1.2 5 _ rfl
          have r6 := (hR5).1.2 6 _ rfl
          have r7 := (hR5).1.2 7 _ rfl
          have rf := hR5.2
          have rl := hR5.1.1
          go_wp2
          clear r0 r1 r2 r3 r4 r5 r6 r7
          exact bodyPost_ret (v := .tuple #[.agg #[.int .i64 knd, .int .i64 rd, .int .i64 wt, .int .i64 0, .slice A1 n3 c1, .slice A2 4 c2, .slice none 0 0, .int .i64 0], .bool true]) (by simp [results, Try.results11, hlv, asAddr]) rfl ⟨_, _, _, rfl, hE9, hb9⟩
end Go.Proofs.Ytpgjbocjhconoaa
