/- The law's stamped. -/
import Derived.Test.YtacbljfpcchbbaaFairF
namespace Go.Proofs.Ytacbljfpcchbbaa
open Go.RowKit
set_option linter.unusedSimpArgs false

/-- Flows of three tenants that are valid, no finish above B. -/
def Fok (B : Int) (fs : List (Int × Int)) : Prop := fs.length = 3 ∧ ∀ (k : Nat) (x y : Int), fs[k]? = some (x, y) → 1 ≤ x ∧ x ≤ 8 ∧ 0 ≤ y ∧ y ≤ B
theorem Fok.fair {B V : Int} {fs : List (Int × Int)} (h : Fok B fs) (hB : B ≤ 1125899906842624) (h0 : 0 ≤ V) (hV : V ≤ 1125899906842624) : fairOk V fs = true := by
  unfold fairOk
  rw [h.1, timeB_iff.2 ⟨h0, hV⟩, Bool.and_eq_true, List.all_eq_true]
  refine ⟨rfl, ?_⟩
  rintro ⟨x, y⟩ hp
  obtain ⟨k, hk⟩ := List.getElem?_of_mem hp
  have := h.2 k x y hk
  exact flowOk_iff.2 (by omega)
theorem Fok.get {B : Int} {fs : List (Int × Int)} (h : Fok B fs) {t : Nat} (ht : t < 3) : ∃ x y, fs[t]? = some (x, y) ∧ 1 ≤ x ∧ x ≤ 8 ∧ 0 ≤ y ∧ y ≤ B := by
  have hl : t < fs.length := by rw [h.1]; exact ht
  obtain ⟨⟨x, y⟩, hx⟩ : ∃ p, fs[t]? = some p := ⟨fs[t], List.getElem?_eq_getElem hl⟩
  exact ⟨x, y, hx, h.2 t x y hx⟩
/-- What a stamp does. -/
theorem Fok.stamp {B V c : Int} {fs : List (Int × Int)} (h : Fok B fs) {t : Nat} {x y : Int} (hx : fs[t]? = some (x, y)) (h0 : 0 ≤ V) (hV : V ≤ B) (hB : B + 6720 ≤ 1125899906842624) (c1 : 1 ≤ c) (c2 : c ≤ 8) :
    stampB V fs t c = (fs.set t (x, max V y + c * 840 / x), max V y, true) ∧ Fok (B + 6720) (fs.set t (x, max V y + c * 840 / x)) := by
  have hb := h.2 t x y hx
  have ht := (List.getElem?_eq_some_iff.1 hx).1
  have hd1 : 0 ≤ c * 840 / x := Int.ediv_nonneg (by omega) (by omega)
  have hd2 : c * 840 / x ≤ 6720 := Int.le_trans (Int.ediv_le_self _ (by omega)) (by omega)
  refine ⟨?_, by simpa using h.1, ?_⟩
  · unfold stampB advB
    have e1 : fs.getD (t : Int).toNat (0, 0) = (x, y) := by rw [Int.toNat_natCast, List.getD_eq_getElem?_getD, hx]; rfl
    rw [if_pos ⟨h.fair (by omega) h0 (by omega), by omega, by omega, by omega, by omega⟩, e1]
    simp only [Int.toNat_natCast]
    rw [if_pos (timeB_iff.2 ⟨by omega, by omega⟩)]
  · intro k a b hk
    by_cases e : t = k
    · subst e
      rw [List.getElem?_set_self ht] at hk
      cases hk
      omega
    · rw [List.getElem?_set_ne e] at hk
      have := h.2 k a b hk
      omega

def stT (z : Int) : Nat := (rnd z 3).toNat
def stC (z : Int) : Int := 1 + rnd (z / 4) 5
theorem stT_lt (z : Int) : stT z < 3 := by have := rnd_lo z 3; have := rnd_hi z 3 (by omega); unfold stT; omega
theorem stT_eq (z : Int) : (stT z : Int) = rnd z 3 := by have := rnd_lo z 3; unfold stT; omega
theorem stC_bd (z : Int) : 1 ≤ stC z ∧ stC z ≤ 5 := by have := rnd_lo (z / 4) 5; have := rnd_hi (z / 4) 5 (by omega); unfold stC; omega
/-- One stamp at the virtual time 0. -/
def stStep (fs : List (Int × Int)) (z : Int) : List (Int × Int) := (stampB 0 fs (stT z) (stC z)).1
def stN (fs : List (Int × Int)) (zs : List Int) : List (Int × Int) := zs.foldl stStep fs
def stEnt (fs : List (Int × Int)) (i : Nat) (z : Int) : Qd := ⟨⟨i, stT z, 0, 0, stC z, ⟨#[]⟩, false, none, 0, 0, 0⟩, 0, (stampB 0 fs (stT z) (stC z)).2.1, 0⟩
/-- The entries of the first zs. -/
def stQ (fs : List (Int × Int)) : Nat → List Int → List Qd
  | _, [] => []
  | i, z :: zs => stEnt fs i z :: stQ (stStep fs z) (i + 1) zs
theorem stQ_len : ∀ (fs : List (Int × Int)) (i : Nat) (zs : List Int), (stQ fs i zs).length = zs.length
  | _, _, [] => rfl
  | fs, i, z :: zs => by simp [stQ, stQ_len]
theorem stQ_snoc : ∀ (fs : List (Int × Int)) (i : Nat) (zs : List Int) (z : Int), stQ fs i (zs ++ [z]) = stQ fs i zs ++ [stEnt (stN fs zs) (i + zs.length) z]
  | fs, i, [], z => by simp [stQ, stN]
  | fs, i, y :: zs, z => by
    simp only [stQ, List.cons_append, stQ_snoc (stStep fs y) (i + 1) zs z]
    simp [stN, Nat.add_assoc, Nat.add_comm 1]
theorem stN_snoc (fs : List (Int × Int)) (zs : List Int) (z : Int) : stN fs (zs ++ [z]) = stStep (stN fs zs) z := by simp [stN]
theorem Fok.mono {B B' : Int} {fs : List (Int × Int)} (h : Fok B fs) (hb : B ≤ B') : Fok B' fs := ⟨h.1, fun k x y hk => by have := h.2 k x y hk; omega⟩
theorem stStep_ok {B : Int} {fs : List (Int × Int)} (h : Fok B fs) (h0 : 0 ≤ B) (hB : B + 6720 ≤ 1125899906842624) (z : Int) : Fok (B + 6720) (stStep fs z) := by
  obtain ⟨x, y, hx, _⟩ := h.get (stT_lt z)
  have hc := stC_bd z
  have := h.stamp (V := 0) hx (by omega) h0 hB hc.1 (by omega)
  unfold stStep
  rw [this.1]
  exact this.2
theorem stN_ok : ∀ (zs : List Int) {B : Int} {fs : List (Int × Int)}, Fok B fs → 0 ≤ B → B + 6720 * (zs.length : Int) ≤ 1125899906842624 → Fok (B + 6720 * (zs.length : Int)) (stN fs zs)
  | [], B, fs, h, _, _ => by simpa [stN] using h
  | z :: zs, B, fs, h, h0, hB => by
    simp only [List.length_cons] at hB ⊢
    have h1 := stStep_ok h h0 (by omega) z
    have h2 := stN_ok zs h1 (by omega) (by omega)
    have e : stN fs (z :: zs) = stN (stStep fs z) zs := rfl
    rw [e]
    exact h2.mono (by omega)
theorem stamp_ok {B : Int} {fs : List (Int × Int)} (h : Fok B fs) (h0 : 0 ≤ B) (hB : B + 6720 ≤ 1125899906842624) (z : Int) : (stampB 0 fs (stT z) (stC z)).2.2 = true := by
  obtain ⟨x, y, hx, _⟩ := h.get (stT_lt z)
  have hc := stC_bd z
  rw [(h.stamp (V := 0) hx (by omega) h0 hB hc.1 (by omega)).1]
theorem stStep_len {B : Int} {fs : List (Int × Int)} (h : Fok B fs) (h0 : 0 ≤ B) (hB : B + 6720 ≤ 1125899906842624) (z : Int) : (stStep fs z).length = 3 := (stStep_ok h h0 hB z).1


theorem Try.infoQueued : (Try.prog.info? 53).map (fun i => (i.zero, i.size, i.bytes)) = some (some (.agg #[.int .i64 0, .int .i64 0, .int .i64 0, .int .i64 0, .int .i64 0, .string ⟨#[]⟩, .bool false, .slice none 0 0, .int .i64 0, .int .i64 0, .int .i64 0, .int .i64 0]), 12, 120) := by kernel_rfl

set_option maxRecDepth 100000 in
set_option maxHeartbeats 4000000 in
theorem stamped_any (fs : List (Int × Int)) (v zv : Value) (zs : List Int) (w : World) (hF : Fok 0 fs) (h : Rd w v 2 3 (fcells fs)) (hz : Ints w zv zs) :
    Calls Try.prog 10 #[.agg #[.int .i64 0, v], zv] w fun e w' =>
      ∃ v' q, e = .returned (.tuple #[.agg #[.int .i64 0, v'], q]) ∧ Rd w' v' 2 3 (fcells (stN fs (zs.take 30))) ∧ Rd w' q 12 (zs.take 30).length (qcells (stQ fs 0 (zs.take 30))) ∧ Bel w w' := by
  obtain ⟨hzi, A, cp, rfl, hcp, hmx, hr⟩ := hz
  unfold maxLen at hmx
  obtain ⟨i0, hi0, hz0, hz1, hz2⟩ := info_parts Try.infoQueued
  have HR := Lib.hid hr
  have HFK := Lib.hid hF
  clear hr hzi hF
  obtain ⟨n, Hn⟩ : ∃ n, Hid (n = zs.length) := ⟨_, rfl⟩
  rw [← Hn.out] at hcp ⊢
  obtain ⟨m, Hm⟩ : ∃ m, Hid (m = (zs.take 30).length) := ⟨_, rfl⟩
  rw [← Hm.out]
  have hA := (AtF.new w 25 [.int .i64 0, v]).alloc (.cells #[.int .i64 0, .slice none 0 0] 25)
  have hB := AtF.new (w.alloc (.cells #[.int .i64 0, v] 25)) 25 [.int .i64 0, .slice none 0 0]
  simp only [World.size_alloc] at hB
  have hvx : ∀ k, k = w.heap.size + 1 → v.ownBlock ≠ some k := by rintro k rfl hk; have := h.own_lt (by omega) hk; omega
  have hrd := (h.bel (show Bel w ((w.alloc (.cells #[.int .i64 0, v] 25)).alloc (.cells #[.int .i64 0, .slice none 0 0] 25)) from (by repeat (first | (with_reducible exact Bel.refl _) | (with_reducible assumption) | (with_reducible refine Bel.drewN ?_ _) | (with_reducible refine Bel.drew ?_) | (with_reducible refine Bel.alloc ?_ _) | (with_reducible refine Bel.setNew ?_ ?_ _) | (with_reducible refine Bel.trans ?_ (by assumption)) | (focus (simp; done)) | (focus (simp; omega))))))
  clear h
  go_enter Try.func10, Try.ntmps10
  go_wp2
  go_loopw [6, 7] (fun qv iv wr => ∃ (i : Nat) (fv : Value), iv = .int .i64 i ∧ i ≤ n ∧ (i : Int) ≤ 30 ∧ wr.ownsRow (w.heap.size + 2) 53 12 qv i (qcells (stQ fs 0 (zs.take i))) ∧ AtF wr w.heap.size [.int .i64 0, fv] ∧ Rd wr fv 2 3 (fcells (stN fs (zs.take i))) ∧ (∀ k, k = w.heap.size + 1 → fv.ownBlock ≠ some k) ∧ AtF wr (w.heap.size + 1) [.int .i64 0, .slice none 0 0] ∧ Bel w wr) (fun _ iv _ => 30 - (intOf iv).toNat)
  case atStart => exact ⟨0, _, rfl, by omega, by omega, ⟨by simp [stQ, qcells], Or.inl ⟨rfl, rfl⟩⟩, hA, by simpa [stN] using hrd, hvx, hB, (by repeat (first | (with_reducible exact Bel.refl _) | (with_reducible assumption) | (with_reducible refine Bel.drewN ?_ _) | (with_reducible refine Bel.drew ?_) | (with_reducible refine Bel.alloc ?_ _) | (with_reducible refine Bel.setNew ?_ ?_ _) | (with_reducible refine Bel.trans ?_ (by assumption)) | (focus (simp; done)) | (focus (simp; omega))))⟩
  case round =>
    obtain ⟨i, fv, rfl, p1, p2, hown, hAr, hrf, hfx, hBr, hbr⟩ := hrel
    obtain ⟨Af, cf, rfl, _, _⟩ := hrf.form
    clear hA hB hrd
    obtain ⟨A', c', rfl⟩ := own_slice hown
    by_cases hlt : i < n
    · by_cases hlt2 : i < 30
      · obtain ⟨b, o, rfl, hlb, hcell⟩ := HR.out (by have := Hn.out; omega)
        have hiz : i < zs.length := by have := Hn.out; omega
        obtain ⟨x, hx⟩ : ∃ x, zs[i]? = some x := ⟨zs[i], List.getElem?_eq_getElem hiz⟩
        have g0 : wr.cell? ⟨b, o + i, none⟩ = some (.int .i64 x) := by
          rw [hbr.cellAt _ _ hlb, hcell i hiz]
          rw [List.getElem?_eq_getElem hiz] at hx
          cases hx; rfl
        have HX := Lib.hid hx
        clear hx hcell
        have hsn : stN fs (zs.take (i + 1)) = stStep (stN fs (zs.take i)) x := by rw [List.take_add_one, HX.out]; exact stN_snoc _ _ _
        have hqn : stQ fs 0 (zs.take (i + 1)) = stQ fs 0 (zs.take i) ++ [stEnt (stN fs (zs.take i)) i x] := by
          rw [List.take_add_one, HX.out]
          have := stQ_snoc fs 0 (zs.take i) x
          rw [List.length_take, Nat.min_eq_left (by omega), Nat.zero_add] at this
          exact this
        have hok := stN_ok (zs.take i) HFK.out (by omega) (by simp; omega)
        generalize stN fs (zs.take i) = G at hrf hsn hqn hok
        have hs1 := stamp_ok hok (by omega) (by simp; omega) x
        have hs2 := stStep_len hok (by omega) (by simp; omega) x
        have HS := Lib.hid (fun w' (hb : Bel wr w') => fairStamp_any 0 (stT x) (stC x) G (.slice Af 3 cf) w' (by rw [hok.1]; exact hrf.bel hb) (by rw [hok.1]; omega))
        rw [hs1, hok.1, stT_eq, show (stampB 0 G (rnd x 3) (stC x)).1 = stStep G x from by rw [← stT_eq]; rfl] at HS
        have hE : ∃ S, Hid (S = (stampB 0 G (stT x) (stC x)).2.1) := ⟨_, rfl⟩
        obtain ⟨S, hS⟩ := hE
        rw [← stT_eq, ← hS.out, stT_eq] at HS
        have hent : stEnt G i x = ⟨⟨i, rnd x 3, 0, 0, 1 + rnd (x / 4) 5, ⟨#[]⟩, false, none, 0, 0, 0⟩, 0, S, 0⟩ := by
          unfold stEnt
          rw [← hS.out, stT_eq]; rfl
        rw [show stC x = 1 + rnd (x / 4) 5 from rfl] at HS
        have s1 := rnd_lo x 3
        have s2 := rnd_hi x 3 (by omega)
        have s3 := rnd_lo (x / 4) 5
        have s4 := rnd_hi (x / 4) 5 (by omega)
        obtain ⟨ta, Ha⟩ : ∃ ta, Hid (ta = rnd x 3) := ⟨_, rfl⟩
        obtain ⟨cb, Hb⟩ : ∃ cb, Hid (cb = rnd (x / 4) 5) := ⟨_, rfl⟩
        rw [← Ha.out] at s1 s2 HS hent
        rw [← Hb.out] at s3 s4 HS hent
        rw [hent] at hqn
        have HQ := Lib.hid hqn
        have HN := Lib.hid hsn
        obtain ⟨G', HG'⟩ : ∃ G', Hid (G' = stStep G x) := ⟨_, rfl⟩
        rw [← HG'.out] at HS HN
        clear hqn hsn hok hs1 hs2 hent hS
        have i1 : (i : Int) < (n : Int) := by omega
        have i2 : (i : Int) < 30 := by omega
        have i3 : (0 : Int) ≤ (i : Int) := by omega
        have b0 := hAr.1.2 0 _ rfl
        have b1 := hAr.1.2 1 _ rfl
        have bf := hAr.2
        have bl := hAr.1.1
        go_wp2_with fail
        have q0 := fun d os => cell_regrown g0 d os
        refine wp_region_lex [4, 10] 14 (by kernel_rfl) (by kernel_rfl) ?_
        simp only [List.take_succ_cons, List.take_zero, List.drop_succ_cons, List.drop_zero]
        with_reducible refine lex_seg 4 _ _ _ _ (by kernel_rfl) ?_
        simp only [List.take_succ_cons, List.take_zero, List.drop_succ_cons, List.drop_zero]
        try simp only [Act.put, List.setIfInBounds_toArray, List.set_cons_succ, List.set_cons_zero]
        repeat (go_big_quiet_step (fail))
        with_reducible refine wpQuiet_nil ?_
        refine lex_call 12 rfl rfl (by simp [go_sem]; rfl) ?_
        refine (round_any x 3 _ (by omega)).mono ?_; rintro e w1 ⟨rfl, rfl⟩
        refine ⟨_, rfl, Bel.refl _, ?_⟩
        rw [← Ha.out]
        with_reducible refine lex_seg 5 _ _ _ _ (by kernel_rfl) ?_
        simp only [List.take_succ_cons, List.take_zero, List.drop_succ_cons, List.drop_zero]
        try simp only [Act.put, List.setIfInBounds_toArray, List.set_cons_succ, List.set_cons_zero]
        repeat (go_big_quiet_step (fail))
        with_reducible refine wpQuiet_nil ?_
        refine lex_call 12 rfl rfl (by simp [go_sem]; rfl) ?_
        refine (round_any (x / 4) 5 _ (by omega)).mono ?_; rintro e w2 ⟨rfl, rfl⟩
        refine ⟨_, rfl, Bel.refl _, ?_⟩
        rw [← Hb.out]
        with_reducible refine lex_seg 3 _ _ _ _ (by kernel_rfl) ?_
        simp only [List.take_succ_cons, List.take_zero, List.drop_succ_cons, List.drop_zero]
        try simp only [Act.put, List.setIfInBounds_toArray, List.set_cons_succ, List.set_cons_zero]
        repeat (go_big_quiet_step (fail))
        with_reducible refine wpQuiet_nil ?_
        with_reducible refine lex_nil ?_
        clear q0
        go_wp2_with fail
        refine (HS.out _ (Bel.drew (Bel.refl _))).mono ?_; rintro e w1 ⟨v1, rfl, hw1, hb1⟩
        obtain ⟨A1, c1, rfl⟩ := own_slice hw1
        have hA1 := hAr.drew.bel hb1
        have hB1 := hBr.drew.bel hb1
        have hO1 := own_keep hown.drew hb1
        have hbw1 : Bel w w1 := (hbr.drew).trans hb1
        have hsz := hbw1.size
        have hl1 := hA1.1.1
        have hl2 := hB1.1.1
        have hR1 := Rd.own hw1
        have hR1y : (Value.slice A1 3 c1).ownBlock ≠ some (w.heap.size + 1) := own_ne hw1 (.inl (by have := hBr.1.1; simp; omega))
        have hap := own_apart hown hw1 (by simp)
        have hR1x : (Value.slice A1 3 c1).ownBlock ≠ some w.heap.size := own_ne hw1 (.inl (by have := hAr.1.1; simp; omega))
        clear b0 b1 bf bl hAr hBr hown hbr hb1 hrf hw1
        have hO3 := (own_far (own_far hO1 (p := ⟨w.heap.size, 0, none⟩) (own_ne hO1 (.inl (by simp))) (.int .i64 0)) (p := ⟨w.heap.size, 1, none⟩) (own_ne hO1 (.inl (by simp))) (.slice A1 3 c1)).alloc (.cells #[.int .i64 0, .slice A1 3 c1] 25)
        have hA3 := ((hA1.set 0 (by simp) (.int .i64 0)).set 1 (by simp) (.slice A1 3 c1)).alloc (.cells #[.int .i64 0, .slice A1 3 c1] 25)
        have hB3 := ((hB1.other (C := w.heap.size) (by omega) 0 (.int .i64 0)).other (C := w.heap.size) (by omega) 1 (.slice A1 3 c1)).alloc (.cells #[.int .i64 0, .slice A1 3 c1] 25)
        have a0 := hA1.1.2 0 _ rfl
        have a1 := hA1.1.2 1 _ rfl
        have af := hA1.2
        have al := hA1.1.1
        have b0 := hB1.1.2 0 _ rfl
        have b1 := hB1.1.2 1 _ rfl
        have bf := hB1.2
        have bl := hB1.1.1
        go_wp2_with (at_builtin; go_must (refine wpList_append_own_at _ rfl (.tmp 48) (.tmp 55) 26 rfl (w.heap.size + 2) 53 i0 _ 12 120 Try.underlying26 hi0 hz0 hz1 hz2 rfl (by omega) (.slice A' i c') _ _ rfl (hO3.alloc _) ⟨w1.heap.size + 1, 0, none⟩ 1 1 [.int .i64 i, .int .i64 ta, .int .i64 0, .int .i64 0, .int .i64 (1 + cb), .string ⟨#[]⟩, .bool false, .slice none 0 0, .int .i64 0, .int .i64 0, .int .i64 S, .int .i64 0] rfl rfl (World.news_of_block (cs := #[.int .i64 i, .int .i64 ta, .int .i64 0, .int .i64 0, .int .i64 (1 + cb), .string ⟨#[]⟩, .bool false, .slice none 0 0, .int .i64 0, .int .i64 0, .int .i64 S, .int .i64 0]) (t := 53) (fr := (0, 0)) (heap_new_at (by simp))) (by simp [Value.oneCell']) (by unfold maxLen; omega) (by omega) (by simp; omega) ?_); intro v' w3 hown' hg' _ _; obtain ⟨gn, cn, hvn, _, _⟩ := hown'.form (by omega); subst hvn)
        have hwx : (Value.slice A' i c').ownBlock ≠ some w.heap.size := own_ne hO1 (.inl (by omega))
        have hwy : (Value.slice A' i c').ownBlock ≠ some (w.heap.size + 1) := own_ne hO1 (.inl (by omega))
        have hR3 := ((((hR1.far (p := ⟨w.heap.size, 0, none⟩) hR1x (.int .i64 0)).far (p := ⟨w.heap.size, 1, none⟩) hR1x (.slice A1 3 c1)).alloc (.cells #[.int .i64 0, .slice A1 3 c1] 25)).alloc _).grown hg' hap
        go_roundw
        case rel =>
          refine ⟨i + 1, _, by go_num, by omega, by omega, ?_, (hA3.alloc _).grown hg' (Ne.symm hwx), ?_, ?_, (hB3.alloc _).grown hg' (Ne.symm hwy), ?_⟩
          · rw [HQ.out, qcells_app]; simpa [qcells, Qd.cells] using hown'
          · rw [HN.out]; exact hR3
          · rintro k rfl; exact hR1y
          · exact bel_own (by repeat (first | (with_reducible exact Bel.refl _) | (with_reducible assumption) | (with_reducible refine Bel.drewN ?_ _) | (with_reducible refine Bel.drew ?_) | (with_reducible refine Bel.alloc ?_ _) | (with_reducible refine Bel.setNew ?_ ?_ _) | (with_reducible refine Bel.trans ?_ (by assumption)) | (focus (simp; done)) | (focus (simp; omega)))) (hO3.alloc _) hg' (by omega)
        case measure => simp [intOf]; omega
      · obtain rfl : i = 30 := by omega
        have i1 : (30 : Int) < (n : Int) := by omega
        have e1 : zs.take 30 = zs.take 30 := rfl
        rw [e1] at hown hrf
        obtain rfl : 30 = m := by rw [Hm.out, List.length_take]; have := Hn.out; omega
        have hR9 := Rd.own hown
        clear e1
        have a0 := hAr.1.2 0 _ rfl
        have a1 := hAr.1.2 1 _ rfl
        have af := hAr.2
        have al := hAr.1.1
        have b0 := hBr.1.2 0 _ rfl
        have b1 := hBr.1.2 1 _ rfl
        have bf := hBr.2
        have bl := hBr.1.1
        have hr2 := (hBr.set 0 (by simp) (.int .i64 0)).set 1 (by simp) (.slice Af 3 cf)
        have r20 := hr2.1.2 0 _ rfl
        have r21 := hr2.1.2 1 _ rfl
        have hR8 := (hR9.far (p := ⟨w.heap.size + 1, 0, none⟩) (own_ne hown (.inl (by simp))) (.int .i64 0)).far (p := ⟨w.heap.size + 1, 1, none⟩) (own_ne hown (.inl (by simp))) (.slice Af 3 cf)
        have hR7 := (hrf.far (p := ⟨w.heap.size + 1, 0, none⟩) (hfx _ (by simp)) (.int .i64 0)).far (p := ⟨w.heap.size + 1, 1, none⟩) (hfx _ (by simp)) (.slice Af 3 cf)
        go_wp2
        exact bodyPost_ret (v := .tuple #[.agg #[.int .i64 0, .slice Af 3 cf], (.slice A' 30 c')]) (by simp [results, Try.results10, go_sem, r20, r21]) rfl ⟨_, _, rfl, hR7, hR8, (by repeat (first | (with_reducible exact Bel.refl _) | (with_reducible assumption) | (with_reducible refine Bel.drewN ?_ _) | (with_reducible refine Bel.drew ?_) | (with_reducible refine Bel.alloc ?_ _) | (with_reducible refine Bel.setNew ?_ ?_ _) | (with_reducible refine Bel.trans ?_ (by assumption)) | (focus (simp; done)) | (focus (simp; omega))))⟩
    · have i1 : decide ((i : Int) < (n : Int)) = false := by simp; omega
      have i2 : (n : Int) ≤ (i : Int) := by omega
      have e1 : zs.take i = zs.take 30 := by have := Hn.out; rw [List.take_of_length_le (by omega), List.take_of_length_le (by omega)]
      rw [e1] at hown hrf
      obtain rfl : i = m := by rw [Hm.out, List.length_take]; have := Hn.out; omega
      have hR9 := Rd.own hown
      clear e1
      have a0 := hAr.1.2 0 _ rfl
      have a1 := hAr.1.2 1 _ rfl
      have af := hAr.2
      have al := hAr.1.1
      have b0 := hBr.1.2 0 _ rfl
      have b1 := hBr.1.2 1 _ rfl
      have bf := hBr.2
      have bl := hBr.1.1
      have hr2 := (hBr.set 0 (by simp) (.int .i64 0)).set 1 (by simp) (.slice Af 3 cf)
      have r20 := hr2.1.2 0 _ rfl
      have r21 := hr2.1.2 1 _ rfl
      have hR8 := (hR9.far (p := ⟨w.heap.size + 1, 0, none⟩) (own_ne hown (.inl (by simp))) (.int .i64 0)).far (p := ⟨w.heap.size + 1, 1, none⟩) (own_ne hown (.inl (by simp))) (.slice Af 3 cf)
      have hR7 := (hrf.far (p := ⟨w.heap.size + 1, 0, none⟩) (hfx _ (by simp)) (.int .i64 0)).far (p := ⟨w.heap.size + 1, 1, none⟩) (hfx _ (by simp)) (.slice Af 3 cf)
      go_wp2
      exact bodyPost_ret (v := .tuple #[.agg #[.int .i64 0, .slice Af 3 cf], (.slice A' i c')]) (by simp [results, Try.results10, go_sem, r20, r21]) rfl ⟨_, _, rfl, hR7, hR8, (by repeat (first | (with_reducible exact Bel.refl _) | (with_reducible assumption) | (with_reducible refine Bel.drewN ?_ _) | (with_reducible refine Bel.drew ?_) | (with_reducible refine Bel.alloc ?_ _) | (with_reducible refine Bel.setNew ?_ ?_ _) | (with_reducible refine Bel.trans ?_ (by assumption)) | (focus (simp; done)) | (focus (simp; omega))))⟩
end Go.Proofs.Ytacbljfpcchbbaa
