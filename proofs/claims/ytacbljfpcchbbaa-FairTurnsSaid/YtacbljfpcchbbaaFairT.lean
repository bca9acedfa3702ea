/- The walk of FairTurns. -/
import Derived.Test.YtacbljfpcchbbaaFairO
import Derived.Test.YtacbljfpcchbbaaShr
namespace Go.Proofs.Ytacbljfpcchbbaa
open Go.RowKit
set_option linter.unusedSimpArgs false

def r3 (zs : List Int) : List Int := zs.map fun z => rnd z 3
theorem r3_at {zs : List Int} {i : Nat} {x : Int} (h : zs[i]? = some x) : (r3 zs)[i]? = some (rnd x 3) := by simp [r3, h]
theorem stT_r3 (z : Int) : (stT (rnd z 3) : Int) = rnd z 3 := by
  rw [stT_eq]; exact rnd_id (rnd_lo z 3) (rnd_hi z 3 (by omega)) (by omega)
theorem stC_r3 (z : Int) : stC (rnd z 3) = 1 := by
  have h1 := rnd_lo z 3
  have h2 := rnd_hi z 3 (by omega)
  unfold stC
  rw [show rnd z 3 / 4 = 0 by omega]; rfl
theorem new3_ok {x : Int} (h1 : 1 ≤ x) (h2 : x ≤ 8) : Fok 0 (newF [x, x, x]) ∧ fairOk 0 (newF [x, x, x]) = true ∧ (∀ t : Nat, t < 3 → kOf (newF [x, x, x]) t = 840 / x ∧ pOf (newF [x, x, x]) t = 0) := by
  have f1 : Fok 0 (newF [x, x, x]) := ⟨rfl, fun k u y hk => by
    match k with
    | 0 => simp [newF] at hk; omega
    | 1 => simp [newF] at hk; omega
    | 2 => simp [newF] at hk; omega
    | k + 3 => simp [newF] at hk⟩
  refine ⟨f1, f1.fair (by omega) (by omega) (by omega), fun t ht => ?_⟩
  match t, ht with
  | 0, _ => exact ⟨rfl, rfl⟩
  | 1, _ => exact ⟨rfl, rfl⟩
  | 2, _ => exact ⟨rfl, rfl⟩
theorem k_pos {x : Int} (h1 : 1 ≤ x) (h2 : x ≤ 8) : 105 ≤ 840 / x ∧ 840 / x ≤ 840 := by
  have : x = 1 ∨ x = 2 ∨ x = 3 ∨ x = 4 ∨ x = 5 ∨ x = 6 ∨ x = 7 ∨ x = 8 := by omega
  rcases this with rfl | rfl | rfl | rfl | rfl | rfl | rfl | rfl <;> decide
theorem turns_le {K sa sb : Int} (hK : 105 ≤ K) (h : K * sa ≤ K * sb + K * 1) : sa - sb ≤ 1 := by
  rw [← Int.mul_add] at h
  have := Int.le_of_mul_le_mul_left h (by omega)
  omega
theorem stQ_one : ∀ (zs : List Int) (fs : List (Int × Int)) (i : Nat), ∀ x ∈ stQ fs i (r3 zs), x.b.cnt = 1
  | [], _, _ => by simp [r3, stQ]
  | z :: zs, fs, i => by
    intro x hm
    simp only [r3, List.map_cons, stQ, List.mem_cons] at hm
    rcases hm with rfl | hm
    · simp only [stEnt]; exact stC_r3 z
    · exact stQ_one zs _ _ x hm
theorem ShI.turns {x : Int} (h1 : 1 ≤ x) (h2 : x ≤ 8) (zs : List Int) (hl : zs.length ≤ 30) : ShI (fun _ => 840 / x) (fun _ => 1) (fun _ => 0) (stQ (newF [x, x, x]) 0 (r3 zs)) := by
  obtain ⟨hF, _, hk⟩ := new3_ok h1 h2
  have hlr : (r3 zs).length = zs.length := by simp [r3]
  have hm := stQ_mem (r3 zs) _ 0 0 hF (by omega) (by omega)
  have hc := stQ_one zs (newF [x, x, x]) 0
  refine ⟨stQ_chain (r3 zs) _ 0 0 _ _ hF (by omega) (by omega) (fun t ht => ⟨(hk t ht).1.symm, (hk t ht).2.symm⟩), stQ_ord (r3 zs) _ 0 0 hF (by omega) (by omega), ?_, ?_⟩
  · intro y hy
    have h1 := hm y hy
    have h2 := hc y hy
    exact ⟨h1.2.1, h1.2.2.1, by omega, by omega, by show y.b.cnt ≤ 1; omega⟩
  · intro a b _
    have : 0 ≤ 840 / x := Int.ediv_nonneg (by omega) (by omega)
    simpa using this

set_option maxRecDepth 100000 in
set_option maxHeartbeats 8000000 in
theorem fairTurns_walk (n : Int) (v : Value) (zs : List Int) (wt : Int) (w : World) (_ : IsInt n) (hz : Ints w v zs) (_ : IsInt wt) :
    Calls Try.prog 7 #[.int .i64 n, v, .int .i64 wt] w fun e w' => e = .returned (.bool true) ∧ Bel w w' := by
  obtain ⟨i0, hi0, hz0, hz1, hz2⟩ := info_parts Try.infoQueued
  obtain ⟨hzi, A, cp, rfl, hcp, hmx, hr⟩ := hz
  unfold maxLen at hmx
  have HR := Lib.hid hr
  clear hr hzi
  have s1 := rnd_lo wt 8
  have s2 := rnd_hi wt 8 (by omega)
  obtain ⟨c, Hc⟩ : ∃ c, Hid (c = rnd wt 8) := ⟨_, rfl⟩
  rw [← Hc.out] at s1 s2
  obtain ⟨hF, hok, hk⟩ := new3_ok (x := 1 + c) (by omega) (by omega)
  have hN := fun (W : World) (vw : Value) (h : Ints W vw [1 + c, 1 + c, 1 + c]) => fairNew_any [1 + c, 1 + c, 1 + c] vw W h (by simp)
  rw [hok, if_pos rfl] at hN
  obtain ⟨F0, HF0⟩ : ∃ f, Hid (f = newF [1 + c, 1 + c, 1 + c]) := ⟨_, rfl⟩
  have HSH := Lib.hid (fun (ys : List Int) (h : ys.length ≤ 30) => ShI.turns (x := 1 + c) (by omega) (by omega) ys h)
  rw [← HF0.out] at hN hF hk HSH
  have hF3 : F0.length = 3 := hF.1
  rw [hF3] at hN
  have HN := Lib.hid hN
  have HFK := Lib.hid hF
  obtain ⟨m, Hm⟩ : ∃ m, Hid (m = zs.length) := ⟨_, rfl⟩
  rw [← Hm.out] at hcp ⊢
  clear hN hF hok hk hF3
  go_enter Try.func7, Try.ntmps7
  go_wp2_with fail
  refine (round_any wt 8 _ (by omega)).mono ?_; rw [← Hc.out]; rintro e w9 ⟨rfl, rfl⟩
  go_wp2_with fail
  refine (HN.out _ _ (Ints.three w 3 (a := 1 + c) (b := 1 + c) (c := 1 + c) ⟨by omega, by omega⟩ ⟨by omega, by omega⟩ ⟨by omega, by omega⟩)).mono ?_; rintro e w1 ⟨v1, rfl, hown1, hb1⟩
  obtain ⟨A1, c1, rfl⟩ := own_slice hown1
  have hA1 := AtF.new w1 25 [.int .i64 0, .slice A1 3 c1]
  have hR1 := (Rd.own hown1).alloc (.cells #[.int .i64 0, .slice A1 3 c1] 25)
  have hb1' : Bel w w1 := ((Bel.refl w).alloc _).trans hb1
  have hbw : Bel w (w1.alloc (.cells #[.int .i64 0, .slice A1 3 c1] 25)) := hb1'.alloc _
  have hwB : w.heap.size ≤ w1.heap.size := hb1'.size
  have hn1 : ∀ p : Nat, w1.heap.size ≤ p → (Value.slice A1 3 c1).ownBlock ≠ some p := fun p hp => own_ne hown1 (.inr hp)
  have hBW : w1.heap.size + 1 ≤ (w1.alloc (.cells #[.int .i64 0, .slice A1 3 c1] 25)).heap.size := by simp
  clear hown1 hb1 hb1'
  go_wp2_with fail
  generalize w1.alloc (.cells #[.int .i64 0, .slice A1 3 c1] 25) = W at *
  generalize w1.heap.size = B at *
  go_loopw [9, 10, 11] (fun kv qv iv wr => ∃ (i : Nat) (fv : Value), kv = .bool true ∧ iv = .int .i64 i ∧ i ≤ m ∧ (i : Int) ≤ 30 ∧ wr.ownsRow (B + 1) 53 12 qv i (qcells (stQ F0 0 ((r3 zs).take i))) ∧ AtF wr B [.int .i64 0, fv] ∧ Rd wr fv 2 3 (fcells (stN F0 ((r3 zs).take i))) ∧ (∀ p : Nat, p = B → fv.ownBlock ≠ some p) ∧ Bel w wr) (fun _ _ iv _ => 30 - (intOf iv).toNat)
  case atStart => exact ⟨0, _, rfl, rfl, by omega, by omega, ⟨by simp [stQ, qcells], Or.inl ⟨rfl, rfl⟩⟩, hA1, by simpa [stN] using hR1, fun p hp => hn1 p (by omega), hbw⟩
  case round =>
    obtain ⟨i, fv, rfl, rfl, p1, p2, hown, hAr, hrf, hfx, hbr⟩ := hrel
    obtain ⟨Af, cf, rfl, _, _⟩ := hrf.form
    clear hA1 hR1 hbw hn1
    obtain ⟨A', c', rfl⟩ := own_slice hown
    have hzl : (r3 zs).length = m := by rw [Hm.out]; simp [r3]
    by_cases hlt : i < m
    · by_cases hlt2 : i < 30
      · obtain ⟨b, o, rfl, hlb, hcell⟩ := HR.out (by have := Hm.out; omega)
        have hiz : i < zs.length := by have := Hm.out; omega
        obtain ⟨x, hx⟩ : ∃ x, zs[i]? = some x := ⟨zs[i], List.getElem?_eq_getElem hiz⟩
        have g0 : wr.cell? ⟨b, o + i, none⟩ = some (.int .i64 x) := by
          rw [hbr.cellAt _ _ hlb, hcell i hiz]
          rw [List.getElem?_eq_getElem hiz] at hx
          cases hx; rfl
        have hx3 := r3_at hx
        have hT := stT_r3 x
        have hC := stC_r3 x
        have t1 := rnd_lo x 3
        have t2 := rnd_hi x 3 (by omega)
        obtain ⟨ta, Ha⟩ : ∃ ta, Hid (ta = rnd x 3) := ⟨_, rfl⟩
        rw [← Ha.out] at hx3 hT hC t1 t2
        have hsn : stN F0 ((r3 zs).take (i + 1)) = stStep (stN F0 ((r3 zs).take i)) ta := by rw [List.take_add_one, hx3]; exact stN_snoc _ _ _
        have hqn : stQ F0 0 ((r3 zs).take (i + 1)) = stQ F0 0 ((r3 zs).take i) ++ [stEnt (stN F0 ((r3 zs).take i)) i ta] := by
          rw [List.take_add_one, hx3]
          have := stQ_snoc F0 0 ((r3 zs).take i) ta
          rw [List.length_take, Nat.min_eq_left (by omega), Nat.zero_add] at this
          exact this
        have hok := stN_ok ((r3 zs).take i) HFK.out (by omega) (by simp; omega)
        generalize stN F0 ((r3 zs).take i) = G at hrf hsn hqn hok
        have hs1 := stamp_ok hok (by omega) (by simp; omega) ta
        have HS := Lib.hid (fun w' (hb : Bel wr w') => fairStamp_any 0 (stT ta) (stC ta) G (.slice Af 3 cf) w' (by rw [hok.1]; exact hrf.bel hb) (by rw [hok.1]; omega))
        rw [hs1, hok.1, show (stampB 0 G (stT ta) (stC ta)).1 = stStep G ta from rfl] at HS
        obtain ⟨S, hS⟩ : ∃ S, Hid (S = (stampB 0 G (stT ta) (stC ta)).2.1) := ⟨_, rfl⟩
        rw [← hS.out] at HS
        have hent : stEnt G i ta = ⟨⟨i, ta, 0, 0, 1, ⟨#[]⟩, false, none, 0, 0, 0⟩, 0, S, 0⟩ := by
          unfold stEnt
          rw [← hS.out, hT, hC]
        rw [hT, hC] at HS
        rw [hent] at hqn
        have HQ := Lib.hid hqn
        have HN' := Lib.hid hsn
        obtain ⟨G', HG'⟩ : ∃ G', Hid (G' = stStep G ta) := ⟨_, rfl⟩
        rw [← HG'.out] at HS HN'
        clear hqn hsn hok hs1 hent hS hx3 hT hC hx hcell hzl
        have i1 : (i : Int) < (m : Int) := by omega
        have i2 : (i : Int) < 30 := by omega
        have i3 : (0 : Int) ≤ (i : Int) := by omega
        have b0 := hAr.1.2 0 _ rfl
        have b1 := hAr.1.2 1 _ rfl
        have bf := hAr.2
        have bl := hAr.1.1
        go_wp2_with fail
        refine (round_any x 3 _ (by omega)).mono ?_; rw [← Ha.out]; rintro e w9 ⟨rfl, rfl⟩
        go_wp2_with fail
        refine (HS.out _ (Bel.refl _)).mono ?_; rintro e w1 ⟨v1, rfl, hw1, hb1⟩
        obtain ⟨A1, c1, rfl⟩ := own_slice hw1
        have hA1 := hAr.bel hb1
        have hO1 := own_keep hown hb1
        have hbw1 : Bel w w1 := hbr.trans hb1
        have hl1 := hA1.1.1
        have hR1 := Rd.own hw1
        have hap := own_apart hown hw1 (by simp)
        have hR1x : ∀ p : Nat, p = B → (Value.slice A1 3 c1).ownBlock ≠ some p := by rintro p rfl; exact own_ne hw1 (.inl bl)
        clear b0 b1 bf bl hAr hown hbr hb1 hrf hw1
        have hO3 := (own_far (own_far hO1 (p := ⟨B, 0, none⟩) (own_ne hO1 (.inl (by simp))) (.int .i64 0)) (p := ⟨B, 1, none⟩) (own_ne hO1 (.inl (by simp))) (.slice A1 3 c1)).alloc (.cells #[.int .i64 0, .slice A1 3 c1] 25)
        have hA3 := ((hA1.set 0 (by simp) (.int .i64 0)).set 1 (by simp) (.slice A1 3 c1)).alloc (.cells #[.int .i64 0, .slice A1 3 c1] 25)
        have hb3 : Bel w (((w1.setCell ⟨B, 0, none⟩ (.int .i64 0)).setCell ⟨B, 1, none⟩ (.slice A1 3 c1)).alloc (.cells #[.int .i64 0, .slice A1 3 c1] 25)) := ((hbw1.setNew hwB _).setNew hwB _).alloc _
        have hbB : w.heap.size ≤ B + 1 := by omega
        have a0 := hA1.1.2 0 _ rfl
        have a1 := hA1.1.2 1 _ rfl
        have af := hA1.2
        have al := hA1.1.1
        go_wp2_with (at_builtin; go_must (refine wpList_append_own_at _ rfl _ _ 26 rfl (B + 1) 53 i0 _ 12 120 Try.underlying26 hi0 hz0 hz1 hz2 rfl (by omega) (.slice A' i c') _ _ rfl (hO3.alloc _) ⟨w1.heap.size + 1, 0, none⟩ 1 1 [.int .i64 i, .int .i64 ta, .int .i64 0, .int .i64 0, .int .i64 1, .string ⟨#[]⟩, .bool false, .slice none 0 0, .int .i64 0, .int .i64 0, .int .i64 S, .int .i64 0] rfl rfl (World.news_of_block (cs := #[.int .i64 i, .int .i64 ta, .int .i64 0, .int .i64 0, .int .i64 1, .string ⟨#[]⟩, .bool false, .slice none 0 0, .int .i64 0, .int .i64 0, .int .i64 S, .int .i64 0]) (t := 53) (fr := (0, 0)) (heap_new_at (by simp))) (by simp [Value.oneCell']) (by unfold maxLen; omega) (by omega) (by simp; omega) ?_); intro v' w3 hown' hg' _ _; obtain ⟨gn, cn, hvn, _, _⟩ := hown'.form (by omega); subst hvn)
        have hwx : (Value.slice A' i c').ownBlock ≠ some B := own_ne hO1 (.inl (by omega))
        have hR3 := ((((hR1.far (p := ⟨B, 0, none⟩) (hR1x _ rfl) (.int .i64 0)).far (p := ⟨B, 1, none⟩) (hR1x _ rfl) (.slice A1 3 c1)).alloc (.cells #[.int .i64 0, .slice A1 3 c1] 25)).alloc _).grown hg' hap
        go_roundw
        case rel =>
          refine ⟨i + 1, _, rfl, by go_num, by omega, by omega, ?_, (hA3.alloc _).grown hg' (Ne.symm hwx), ?_, hR1x, ?_⟩
          · rw [HQ.out, qcells_app]; simpa [qcells, Qd.cells] using hown'
          · rw [HN'.out]; exact hR3
          · exact bel_own (hb3.alloc _) (hO3.alloc _) hg' hbB
        case measure => simp [intOf]; omega
      · have i1 : (i : Int) < (m : Int) := by omega
        have i2 : decide ((i : Int) < 30) = false := by simp; omega
        have i3 : 30 ≤ (i : Int) := by omega
        have hlq : (stQ F0 0 ((r3 zs).take i)).length = i := by rw [stQ_len, List.length_take, hzl]; omega
        have hsh : ShI (fun _ => 840 / (1 + c)) (fun _ => 1) (fun _ => 0) (stQ F0 0 ((r3 zs).take i)) := by
          have := HSH.out (zs.take i) (by simp; omega)
          rwa [show r3 (zs.take i) = (r3 zs).take i by simp [r3, List.map_take]] at this
        have hQ0 : Rd wr (.slice A' i c') 12 (stQ F0 0 ((r3 zs).take i)).length (qcells (stQ F0 0 ((r3 zs).take i))) := by rw [hlq]; exact Rd.own hown
        obtain ⟨l0, HL0⟩ : ∃ l0, Hid (l0 = stQ F0 0 ((r3 zs).take i)) := ⟨_, rfl⟩
        rw [← HL0.out] at hQ0 hsh hlq
        have HSH0 := Lib.hid hsh
        have hne0 : ∀ p : Nat, wr.heap.size ≤ p → (Value.slice A' i c').ownBlock ≠ some p := fun p hp => own_ne hown (.inr hp)
        have hQ1 := hQ0.alloc (.cells #[.int .i64 0, .int .i64 0, .int .i64 0] 44)
        have hS1 : AtF (wr.alloc (.cells #[.int .i64 0, .int .i64 0, .int .i64 0] 44)) wr.heap.size (icells [0, 0, 0]) := by
          have := AtF.new wr 44 (icells [0, 0, 0])
          simpa [icells] using this
        have hb1 : Bel w (wr.alloc (.cells #[.int .i64 0, .int .i64 0, .int .i64 0] 44)) := hbr.alloc _
        have hwS : w.heap.size ≤ wr.heap.size := hbr.size
        have hl30 : l0.length ≤ 30 := by omega
        obtain ⟨K, HK⟩ : ∃ K, Hid (K = 840 / (1 + c)) := ⟨_, rfl⟩
        rw [← HK.out] at HSH0
        have hKp : 105 ≤ K := by rw [HK.out]; exact (k_pos (by omega) (by omega)).1
        clear hown hQ0 hsh hbr hAr hrf hfx hzl hlq
        go_wp2_with fail
        generalize wr.alloc (.cells #[.int .i64 0, .int .i64 0, .int .i64 0] 44) = W5 at *
        generalize wr.heap.size = S at *
        go_loopw [10] (fun qv wr => ∃ (l : List Qd) (s : List Int) (P : Int → Int), l.length ≤ 30 ∧ s.length = 3 ∧ Rd wr qv 12 l.length (qcells l) ∧ Hid (qv.ownBlock ≠ some S) ∧ AtF wr S (icells s) ∧ Hid (ShI (fun _ => K) (fun _ => 1) P l) ∧ Hid (∀ (t : Nat) x, s[t]? = some x → P t = K * x) ∧ Hid (∀ (t : Nat) x, s[t]? = some x → 0 ≤ x ∧ x + (l.length : Int) ≤ 30) ∧ Bel w wr) (fun qv _ => lenV qv)
        case atStart =>
          refine ⟨l0, [0, 0, 0], fun _ => 0, hl30, rfl, hQ1, Lib.hid (hne0 S (Nat.le_refl _)), hS1, HSH0, Lib.hid ?_, Lib.hid ?_, hb1⟩
          · intro t x hx
            have : x = 0 := by simpa using List.mem_of_getElem? hx
            subst this; simp
          · intro t x hx
            have : x = 0 := by simpa using List.mem_of_getElem? hx
            subst this; omega
        case round =>
          obtain ⟨l, s, P, hl, hs3, hQr, HNQ, hSr, HSH2, HPS, HBD, hbr⟩ := hrel
          obtain ⟨X, rfl⟩ : ∃ X, X = wr := ⟨_, rfl⟩
          clear hQ1 hS1 hb1 hne0
          obtain ⟨A', c', rfl, hcc1, hcc2⟩ := hQr.form
          unfold maxLen at hcc2
          by_cases h0 : 0 < l.length
          · have h1 : (0 : Int) < (l.length : Int) := by omega
            go_wp2_with fail
            go_loopw [17] (fun av wx => ∃ a : Nat, av = .int .i64 a ∧ a ≤ 3 ∧ Bel X wx) (fun av _ => 3 - (intOf av).toNat)
            case atStart => exact ⟨0, rfl, by omega, Bel.refl _⟩
            case round =>
              obtain ⟨a, rfl, a3, hbx⟩ := hrel
              by_cases ha : a < 3
              · have ha1 : (a : Int) < 3 := by omega
                go_wp2_with fail
                go_loopw [18] (fun bv wy => ∃ b : Nat, bv = .int .i64 b ∧ b ≤ 3 ∧ Bel X wy) (fun bv _ => 3 - (intOf bv).toNat)
                case atStart => exact ⟨0, rfl, by omega, hbx⟩
                case round =>
                  obtain ⟨b, rfl, b3, hby⟩ := hrel
                  by_cases hb : b < 3
                  · have hb1 : (b : Int) < 3 := by omega
                    obtain ⟨sa, hsa⟩ : ∃ x, s[a]? = some x := ⟨s[a]'(by omega), List.getElem?_eq_getElem _⟩
                    obtain ⟨sb, hsb⟩ : ∃ x, s[b]? = some x := ⟨s[b]'(by omega), List.getElem?_eq_getElem _⟩
                    obtain ⟨sa1, sa2⟩ := HBD.out a sa hsa
                    obtain ⟨sb1, sb2⟩ := HBD.out b sb hsb
                    have cSa := hSr.1.2 a _ (icells_at hsa)
                    have cSb := hSr.1.2 b _ (icells_at hsb)
                    obtain ⟨na, HNA⟩ : ∃ x, Hid (x = cntQ l a) := ⟨_, rfl⟩
                    obtain ⟨nb, HNB⟩ : ∃ x, Hid (x = cntQ l b) := ⟨_, rfl⟩
                    have hle : 0 < nb → sa - sb ≤ 1 := fun hn => by
                      have h3 := HSH2.out.2.2.2 a b (cnt_zero.1 (by rw [← HNB.out]; exact hn))
                      rw [HPS.out _ _ hsa, HPS.out _ _ hsb] at h3
                      exact turns_le hKp h3
                    clear hsa hsb
                    have e1 : IntKind.i64.wrap (sa - sb) = sa - sb := IntWalk.i64_in _ (by omega)
                    have HE1 := Lib.hid e1
                    clear e1
                    by_cases hna : 0 < na
                    · have n1 : (0 : Int) < (na : Int) := by omega
                      by_cases hnb : 0 < nb
                      · have n2 : (0 : Int) < (nb : Int) := by omega
                        have hle2 := hle hnb
                        have d1 : decide (1 < sa - sb) = false := by simp; omega
                        have HD1 := Lib.hid d1
                        clear hle d1
                        go_wp2_with fail
                        refine (left_any l a _ _ (hQr.bel hby) (by omega)).mono ?_; rw [← HNA.out]; rintro e w3 ⟨rfl, hb3⟩
                        go_wp2_with fail
                        refine (left_any l b _ _ (hQr.bel (hby.trans hb3)) (by omega)).mono ?_; rw [← HNB.out]; rintro e w4 ⟨rfl, hb4⟩
                        have hb34 := (hby.trans hb3).trans hb4
                        have cSa' := (hb34.cellAt S a hSr.1.1).trans cSa
                        have cSb' := (hb34.cellAt S b hSr.1.1).trans cSb
                        clear cSa cSb hb3 hb4 hby
                        go_wp2_with fail
                        have rg0 := fun d os => cell_regrown cSa' d os
                        have rg1 := fun d os => cell_regrown cSb' d os
                        have e1 := HE1.out
                        have d1 := HD1.out
                        refine wp_region_lex [] 16 (by kernel_rfl) (by kernel_rfl) ?_
                        simp only [List.take_succ_cons, List.take_zero, List.drop_succ_cons, List.drop_zero]
                        with_reducible refine lex_seg 16 _ _ _ _ (by kernel_rfl) ?_
                        simp only [List.take_succ_cons, List.take_zero, List.drop_succ_cons, List.drop_zero]
                        try simp only [Act.put, List.setIfInBounds_toArray, List.set_cons_succ, List.set_cons_zero]
                        repeat (go_big_quiet_step (fail))
                        with_reducible refine wpQuiet_nil ?_
                        with_reducible refine lex_nil ?_
                        clear rg0 rg1 e1 d1
                        go_wp2
                        go_roundw
                        case rel => exact ⟨b + 1, by go_num, by omega, hb34.drew⟩
                        case measure => simp [intOf]; omega
                      · obtain rfl : nb = 0 := by omega
                        clear hle
                        go_wp2_with fail
                        refine (left_any l a _ _ (hQr.bel hby) (by omega)).mono ?_; rw [← HNA.out]; rintro e w3 ⟨rfl, hb3⟩
                        go_wp2_with fail
                        refine (left_any l b _ _ (hQr.bel (hby.trans hb3)) (by omega)).mono ?_; rw [← HNB.out]; rintro e w4 ⟨rfl, hb4⟩
                        have hb34 := (hby.trans hb3).trans hb4
                        have cSa' := (hb34.cellAt S a hSr.1.1).trans cSa
                        have cSb' := (hb34.cellAt S b hSr.1.1).trans cSb
                        clear cSa cSb hb3 hb4 hby
                        go_wp2_with fail
                        have rg0 := fun d os => cell_regrown cSa' d os
                        have rg1 := fun d os => cell_regrown cSb' d os
                        have e1 := HE1.out
                        have d1 : decide ((0 : Int) < ((0 : Nat) : Int)) = false := by simp
                        refine wp_region_lex [] 16 (by kernel_rfl) (by kernel_rfl) ?_
                        simp only [List.take_succ_cons, List.take_zero, List.drop_succ_cons, List.drop_zero]
                        with_reducible refine lex_seg 16 _ _ _ _ (by kernel_rfl) ?_
                        simp only [List.take_succ_cons, List.take_zero, List.drop_succ_cons, List.drop_zero]
                        try simp only [Act.put, List.setIfInBounds_toArray, List.set_cons_succ, List.set_cons_zero]
                        repeat (go_big_quiet_step (fail))
                        with_reducible refine wpQuiet_nil ?_
                        with_reducible refine lex_nil ?_
                        clear rg0 rg1 e1 d1
                        go_wp2
                        go_roundw
                        case rel => exact ⟨b + 1, by go_num, by omega, hb34.drew⟩
                        case measure => simp [intOf]; omega
                    · obtain rfl : na = 0 := by omega
                      clear hle
                      go_wp2_with fail
                      refine (left_any l a _ _ (hQr.bel hby) (by omega)).mono ?_; rw [← HNA.out]; rintro e w3 ⟨rfl, hb3⟩
                      go_wp2_with fail
                      refine (left_any l b _ _ (hQr.bel (hby.trans hb3)) (by omega)).mono ?_; rw [← HNB.out]; rintro e w4 ⟨rfl, hb4⟩
                      have hb34 := (hby.trans hb3).trans hb4
                      have cSa' := (hb34.cellAt S a hSr.1.1).trans cSa
                      have cSb' := (hb34.cellAt S b hSr.1.1).trans cSb
                      clear cSa cSb hb3 hb4 hby
                      go_wp2_with fail
                      have rg0 := fun d os => cell_regrown cSa' d os
                      have rg1 := fun d os => cell_regrown cSb' d os
                      have e1 := HE1.out
                      have d1 : decide ((0 : Int) < ((0 : Nat) : Int)) = false := by simp
                      refine wp_region_lex [] 16 (by kernel_rfl) (by kernel_rfl) ?_
                      simp only [List.take_succ_cons, List.take_zero, List.drop_succ_cons, List.drop_zero]
                      with_reducible refine lex_seg 16 _ _ _ _ (by kernel_rfl) ?_
                      simp only [List.take_succ_cons, List.take_zero, List.drop_succ_cons, List.drop_zero]
                      try simp only [Act.put, List.setIfInBounds_toArray, List.set_cons_succ, List.set_cons_zero]
                      repeat (go_big_quiet_step (fail))
                      with_reducible refine wpQuiet_nil ?_
                      with_reducible refine lex_nil ?_
                      clear rg0 rg1 e1 d1
                      go_wp2
                      go_roundw
                      case rel => exact ⟨b + 1, by go_num, by omega, hb34.drew⟩
                      case measure => simp [intOf]; omega
                  · have hb1 : decide ((b : Int) < 3) = false := by simp; omega
                    have hb2 : 3 ≤ (b : Int) := by omega
                    go_wp2
                    go_roundw
                    case rel => exact ⟨a + 1, by go_num, by omega, hby⟩
                    case measure => simp [intOf]; omega
              · have ha1 : decide ((a : Int) < 3) = false := by simp; omega
                have ha2 : 3 ≤ (a : Int) := by omega
                obtain ⟨kb, q, hpick, hkl, hq, hspec⟩ := pick_all h0
                have HP := Lib.hid hpick
                have hstep := HSH2.out.step (fun _ => by omega) (fun _ => by omega) hq hspec
                have hqm := HSH2.out.2.2.1 q (List.mem_of_getElem? hq)
                have HSTEP := Lib.hid hstep
                obtain ⟨q1, q2, q3, q4, q5⟩ := hqm
                have q5' : q.b.cnt = 1 := by have h9 : q.b.cnt ≤ 1 := q5; omega
                have HQ5 := Lib.hid q5'
                have hQ4 := hQr.bel hbx
                have hS4 := hSr.bel hbx
                have hb4w := hbr.trans hbx
                have HNQo := HNQ.out
                obtain ⟨b, o, cq, hv, hlb, hcell⟩ := hQ4.at h0
                cases hv
                have hrow := row_at Qd.cells_len hcell hq
                have c1 := hrow.cell 1 rfl
                obtain ⟨t, ht⟩ : ∃ t : Nat, (t : Int) = q.b.ten := ⟨q.b.ten.toNat, by omega⟩
                obtain ⟨sq, hsq⟩ : ∃ x, s[t]? = some x := ⟨s[t]'(by omega), List.getElem?_eq_getElem _⟩
                obtain ⟨sq1, sq2⟩ := HBD.out t sq hsq
                have cS := hS4.1.2 t _ (icells_at hsq)
                have hrt := rnd_id (n := q.b.ten) (m := 3) (by omega) (by omega) (by omega)
                rw [← ht] at hrt c1 q1 q2
                have HT := Lib.hid ht
                have HRT := Lib.hid hrt
                have HSQ := Lib.hid hsq
                have k1 : (kb : Int) < (l.length : Int) := by omega
                have k0 : (0 : Int) ≤ (kb : Int) := by omega
                clear hpick hspec hq hstep hrow hcell ht hrt hsq HNQo hQr hSr hbr hbx q5 q5'
                go_wp2_with fail
                refine (yes_any l.length _ (by omega)).mono ?_; rintro e w5 ⟨vy, rfl, hY5, hb5⟩
                go_wp2_with fail
                refine (fairPick_any l (yesL l.length) _ vy _ (hQ4.bel hb5) hY5).mono ?_; rw [HP.out]; rintro e w6 ⟨rfl, hb6⟩
                have hb46 := hb5.trans hb6
                have c1' := (hb46.cellAt b (o + kb * 12 + 1) hlb).trans c1
                have cS' := (hb46.cellAt S t hS4.1.1).trans cS
                have hQ6 := hQ4.bel hb46
                have hS6 := hS4.bel hb46
                have hb6w := hb4w.trans hb46
                have hlb6 : b < w6.heap.size := Nat.lt_of_lt_of_le hlb hb46.size
                clear c1 cS hb5 hb6 hY5 hb46 hQ4 hS4 hb4w hlb
                go_wp2_with fail
                refine (round_any (t : Int) 3 _ (by omega)).mono ?_; rw [HRT.out]; rintro e w9 ⟨rfl, rfl⟩
                have hS7 := hS6.set t (by simp [icells]; omega) (.int .i64 (sq + 1))
                rw [icells_set] at hS7
                have hQ7 := hQ6.far (p := ⟨S, t, none⟩) HNQ.out (.int .i64 (sq + 1))
                have hb7w : Bel w (w6.setCell ⟨S, t, none⟩ (.int .i64 (sq + 1))) := hb6w.setNew hwS _
                have hlb7 : b < (w6.setCell ⟨S, t, none⟩ (.int .i64 (sq + 1))).heap.size := by simpa [World.setCell] using hlb6
                have cSf := hS6.2
                have cSl := hS6.1.1
                go_wp2_with fail
                clear hS6 hQ6 hb6w hlb6 c1' cS' cSf cSl
                generalize w6.setCell ⟨S, t, none⟩ (.int .i64 (sq + 1)) = Y at *
                have e6 : IntKind.i64.wrap ((kb : Int) + 1) = (kb : Int) + 1 := IntWalk.i64_in _ (by omega)
                obtain ⟨hnew11, ad1, had1, hnew21⟩ := rem_news hQ7 hlb7 hkl
                have hel1 : kb + (l.length - (kb + 1)) = (l.eraseIdx kb).length := by rw [List.length_eraseIdx, if_pos hkl]; omega
                refine wp_region_st [3, 8] 10 (by kernel_rfl) (by kernel_rfl) ?_
                with_reducible refine st_sel [0, 1, 2, 4, 5, 6, 7] (by kernel_rfl) (by kernel_rfl) ?_
                simp only [picked, List.getElem?_cons_succ, List.getElem?_cons_zero, Option.toList_some, List.nil_append, List.cons_append, List.append_nil]
                try simp only [Act.put, List.setIfInBounds_toArray, List.set_cons_succ, List.set_cons_zero]
                repeat (go_big_quiet_step (fail))
                with_reducible refine wpQuiet_nil ?_
                refine st_branch [3] (by kernel_rfl) (branch_cons (by simp only [List.getElem?_toArray, List.getElem?_cons_succ, List.getElem?_cons_zero]; rfl) ?_ branch_nil)
                refine eff_append_own rfl _ _ 26 rfl (Y).heap.size 53 i0 _ 12 120 Try.underlying26 hi0 hz0 hz1 hz2 rfl (by omega) (.slice none 0 0) 0 [] rfl ⟨by simp, Or.inl ⟨rfl, rfl⟩⟩ ⟨b, o, none⟩ kb _ (qcells ((l).take kb)) rfl (by rw [qcells_len, List.length_take, Nat.min_eq_left (Nat.le_of_lt hkl)]) (hnew11 _ (by repeat (first | (with_reducible exact Bel.refl _) | (with_reducible assumption) | (with_reducible refine Bel.drewN ?_ _) | (with_reducible refine Bel.drew ?_) | (with_reducible refine Bel.alloc ?_ _) | (with_reducible refine Bel.setNew ?_ ?_ _) | (with_reducible refine Bel.trans ?_ (by assumption)) | (focus (simp; done)) | (focus (simp; omega))))) (qcells_one _) (by unfold maxLen; omega) (by omega) (by simp) (by repeat (first | (with_reducible exact Bel.refl _) | (with_reducible assumption) | (with_reducible refine Bel.drewN ?_ _) | (with_reducible refine Bel.drew ?_) | (with_reducible refine Bel.alloc ?_ _) | (with_reducible refine Bel.setNew ?_ ?_ _) | (with_reducible refine Bel.trans ?_ (by assumption)) | (focus (simp; done)) | (focus (simp; omega)))) (by simp) ?_
                intro va1 wa1 howna1 hga1 hba1
                simp only [Nat.zero_add, List.nil_append] at howna1
                try simp only [List.nil_append, List.cons_append, Act.put, List.setIfInBounds_toArray, List.set_cons_succ, List.set_cons_zero]
                refine st_branch [8] (by kernel_rfl) (branch_cons (by simp only [List.getElem?_toArray, List.getElem?_cons_succ, List.getElem?_cons_zero]; rfl) ?_ branch_nil)
                refine eff_append_own rfl _ _ 26 rfl (Y).heap.size 53 i0 _ 12 120 Try.underlying26 hi0 hz0 hz1 hz2 rfl (by omega) va1 kb _ rfl howna1 ad1 ((l).length - (kb + 1)) _ (qcells ((l).drop (kb + 1))) rfl (by rw [qcells_len, List.length_drop]) (hnew21 _ (Bel.trans (by repeat (first | (with_reducible exact Bel.refl _) | (with_reducible assumption) | (with_reducible refine Bel.drewN ?_ _) | (with_reducible refine Bel.drew ?_) | (with_reducible refine Bel.alloc ?_ _) | (with_reducible refine Bel.setNew ?_ ?_ _) | (with_reducible refine Bel.trans ?_ (by assumption)) | (focus (simp; done)) | (focus (simp; omega)))) hba1)) (qcells_one _) (by unfold maxLen; omega) (by omega) hba1.size hba1 (by simp) ?_
                intro vb1 wb1 hownb1 hgb1 hbb1
                rw [← qcells_app, erase_eq, hel1] at hownb1
                try simp only [List.nil_append, List.cons_append, Act.put, List.setIfInBounds_toArray, List.set_cons_succ, List.set_cons_zero]
                with_reducible refine st_sel [9] (by kernel_rfl) (by kernel_rfl) ?_
                simp only [picked, List.getElem?_cons_succ, List.getElem?_cons_zero, Option.toList_some, List.nil_append, List.cons_append, List.append_nil]
                try simp only [Act.put, List.setIfInBounds_toArray, List.set_cons_succ, List.set_cons_zero]
                repeat (go_big_quiet_step (fail))
                with_reducible refine wpQuiet_nil ?_
                refine st_end (by kernel_rfl) ?_
                simp only [List.drop_succ_cons, List.drop_zero, List.drop_nil]
                skip
                go_wp2_with fail
                obtain ⟨Ab1, cb1, rfl⟩ := own_slice hownb1
                have hle1 : (l.eraseIdx kb).length + 1 = l.length := by rw [List.length_eraseIdx, if_pos hkl]; omega
                have hbYb : Bel Y wb1 := Bel.trans (by repeat (first | (with_reducible exact Bel.refl _) | (with_reducible assumption) | (with_reducible refine Bel.drewN ?_ _) | (with_reducible refine Bel.drew ?_) | (with_reducible refine Bel.alloc ?_ _) | (with_reducible refine Bel.setNew ?_ ?_ _) | (with_reducible refine Bel.trans ?_ (by assumption)) | (focus (simp; done)) | (focus (simp; omega)))) hbb1
                go_roundw
                case rel =>
                  refine ⟨l.eraseIdx kb, s.set t (sq + 1), upd P q.b.ten (P q.b.ten + K * q.b.cnt), by omega, by simpa using hs3, Rd.own hownb1, Lib.hid (own_ne hownb1 (.inl hS7.1.1)), hS7.bel hbYb, Lib.hid HSTEP.out.2, Lib.hid ?_, Lib.hid ?_, hb7w.trans hbYb⟩
                  · intro u x hu
                    by_cases eu : u = t
                    · subst eu
                      rw [List.getElem?_set_self (by omega)] at hu
                      cases hu
                      rw [HT.out, upd_self, ← HT.out, HPS.out _ _ HSQ.out, HQ5.out, Int.mul_add]
                    · rw [List.getElem?_set_ne (Ne.symm eu)] at hu
                      rw [upd_ne _ _ (by have := HT.out; omega)]
                      exact HPS.out _ _ hu
                  · intro u x hu
                    by_cases eu : u = t
                    · subst eu
                      rw [List.getElem?_set_self (by omega)] at hu
                      cases hu
                      omega
                    · rw [List.getElem?_set_ne (Ne.symm eu)] at hu
                      have := HBD.out _ _ hu
                      omega
                case measure => simp [lenV]; omega
          · have e0 : l.length = 0 := by omega
            rw [e0]
            go_wp2_with fail
            refine (awakeFair_any _).mono ?_; rintro e w3 ⟨rfl, hb3⟩
            go_wp2
            go_ret
            exact ⟨rfl, hbr.trans ‹_›⟩
    · have i2 : decide ((i : Int) < (m : Int)) = false := by simp; omega
      have i1 : (m : Int) ≤ (i : Int) := by omega
      have hlq : (stQ F0 0 ((r3 zs).take i)).length = i := by rw [stQ_len, List.length_take, hzl]; omega
      have hsh : ShI (fun _ => 840 / (1 + c)) (fun _ => 1) (fun _ => 0) (stQ F0 0 ((r3 zs).take i)) := by
        have := HSH.out (zs.take i) (by simp; omega)
        rwa [show r3 (zs.take i) = (r3 zs).take i by simp [r3, List.map_take]] at this
      have hQ0 : Rd wr (.slice A' i c') 12 (stQ F0 0 ((r3 zs).take i)).length (qcells (stQ F0 0 ((r3 zs).take i))) := by rw [hlq]; exact Rd.own hown
      obtain ⟨l0, HL0⟩ : ∃ l0, Hid (l0 = stQ F0 0 ((r3 zs).take i)) := ⟨_, rfl⟩
      rw [← HL0.out] at hQ0 hsh hlq
      have HSH0 := Lib.hid hsh
      have hne0 : ∀ p : Nat, wr.heap.size ≤ p → (Value.slice A' i c').ownBlock ≠ some p := fun p hp => own_ne hown (.inr hp)
      have hQ1 := hQ0.alloc (.cells #[.int .i64 0, .int .i64 0, .int .i64 0] 44)
      have hS1 : AtF (wr.alloc (.cells #[.int .i64 0, .int .i64 0, .int .i64 0] 44)) wr.heap.size (icells [0, 0, 0]) := by
        have := AtF.new wr 44 (icells [0, 0, 0])
        simpa [icells] using this
      have hb1 : Bel w (wr.alloc (.cells #[.int .i64 0, .int .i64 0, .int .i64 0] 44)) := hbr.alloc _
      have hwS : w.heap.size ≤ wr.heap.size := hbr.size
      have hl30 : l0.length ≤ 30 := by omega
      obtain ⟨K, HK⟩ : ∃ K, Hid (K = 840 / (1 + c)) := ⟨_, rfl⟩
      rw [← HK.out] at HSH0
      have hKp : 105 ≤ K := by rw [HK.out]; exact (k_pos (by omega) (by omega)).1
      clear hown hQ0 hsh hbr hAr hrf hfx hzl hlq
      go_wp2_with fail
      generalize wr.alloc (.cells #[.int .i64 0, .int .i64 0, .int .i64 0] 44) = W5 at *
      generalize wr.heap.size = S at *
      go_loopw [10] (fun qv wr => ∃ (l : List Qd) (s : List Int) (P : Int → Int), l.length ≤ 30 ∧ s.length = 3 ∧ Rd wr qv 12 l.length (qcells l) ∧ Hid (qv.ownBlock ≠ some S) ∧ AtF wr S (icells s) ∧ Hid (ShI (fun _ => K) (fun _ => 1) P l) ∧ Hid (∀ (t : Nat) x, s[t]? = some x → P t = K * x) ∧ Hid (∀ (t : Nat) x, s[t]? = some x → 0 ≤ x ∧ x + (l.length : Int) ≤ 30) ∧ Bel w wr) (fun qv _ => lenV qv)
      case atStart =>
        refine ⟨l0, [0, 0, 0], fun _ => 0, hl30, rfl, hQ1, Lib.hid (hne0 S (Nat.le_refl _)), hS1, HSH0, Lib.hid ?_, Lib.hid ?_, hb1⟩
        · intro t x hx
          have : x = 0 := by simpa using List.mem_of_getElem? hx
          subst this; simp
        · intro t x hx
          have : x = 0 := by simpa using List.mem_of_getElem? hx
          subst this; omega
      case round =>
        obtain ⟨l, s, P, hl, hs3, hQr, HNQ, hSr, HSH2, HPS, HBD, hbr⟩ := hrel
        obtain ⟨X, rfl⟩ : ∃ X, X = wr := ⟨_, rfl⟩
        clear hQ1 hS1 hb1 hne0
        obtain ⟨A', c', rfl, hcc1, hcc2⟩ := hQr.form
        unfold maxLen at hcc2
        by_cases h0 : 0 < l.length
        · have h1 : (0 : Int) < (l.length : Int) := by omega
          go_wp2_with fail
          go_loopw [17] (fun av wx => ∃ a : Nat, av = .int .i64 a ∧ a ≤ 3 ∧ Bel X wx) (fun av _ => 3 - (intOf av).toNat)
          case atStart => exact ⟨0, rfl, by omega, Bel.refl _⟩
          case round =>
            obtain ⟨a, rfl, a3, hbx⟩ := hrel
            by_cases ha : a < 3
            · have ha1 : (a : Int) < 3 := by omega
              go_wp2_with fail
              go_loopw [18] (fun bv wy => ∃ b : Nat, bv = .int .i64 b ∧ b ≤ 3 ∧ Bel X wy) (fun bv _ => 3 - (intOf bv).toNat)
              case atStart => exact ⟨0, rfl, by omega, hbx⟩
              case round =>
                obtain ⟨b, rfl, b3, hby⟩ := hrel
                by_cases hb : b < 3
                · have hb1 : (b : Int) < 3 := by omega
                  obtain ⟨sa, hsa⟩ : ∃ x, s[a]? = some x := ⟨s[a]'(by omega), List.getElem?_eq_getElem _⟩
                  obtain ⟨sb, hsb⟩ : ∃ x, s[b]? = some x := ⟨s[b]'(by omega), List.getElem?_eq_getElem _⟩
                  obtain ⟨sa1, sa2⟩ := HBD.out a sa hsa
                  obtain ⟨sb1, sb2⟩ := HBD.out b sb hsb
                  have cSa := hSr.1.2 a _ (icells_at hsa)
                  have cSb := hSr.1.2 b _ (icells_at hsb)
                  obtain ⟨na, HNA⟩ : ∃ x, Hid (x = cntQ l a) := ⟨_, rfl⟩
                  obtain ⟨nb, HNB⟩ : ∃ x, Hid (x = cntQ l b) := ⟨_, rfl⟩
                  have hle : 0 < nb → sa - sb ≤ 1 := fun hn => by
                    have h3 := HSH2.out.2.2.2 a b (cnt_zero.1 (by rw [← HNB.out]; exact hn))
                    rw [HPS.out _ _ hsa, HPS.out _ _ hsb] at h3
                    exact turns_le hKp h3
                  clear hsa hsb
                  have e1 : IntKind.i64.wrap (sa - sb) = sa - sb := IntWalk.i64_in _ (by omega)
                  have HE1 := Lib.hid e1
                  clear e1
                  by_cases hna : 0 < na
                  · have n1 : (0 : Int) < (na : Int) := by omega
                    by_cases hnb : 0 < nb
                    · have n2 : (0 : Int) < (nb : Int) := by omega
                      have hle2 := hle hnb
                      have d1 : decide (1 < sa - sb) = false := by simp; omega
                      have HD1 := Lib.hid d1
                      clear hle d1
                      go_wp2_with fail
                      refine (left_any l a _ _ (hQr.bel hby) (by omega)).mono ?_; rw [← HNA.out]; rintro e w3 ⟨rfl, hb3⟩
                      go_wp2_with fail
                      refine (left_any l b _ _ (hQr.bel (hby.trans hb3)) (by omega)).mono ?_; rw [← HNB.out]; rintro e w4 ⟨rfl, hb4⟩
                      have hb34 := (hby.trans hb3).trans hb4
                      have cSa' := (hb34.cellAt S a hSr.1.1).trans cSa
                      have cSb' := (hb34.cellAt S b hSr.1.1).trans cSb
                      clear cSa cSb hb3 hb4 hby
                      go_wp2_with fail
                      have rg0 := fun d os => cell_regrown cSa' d os
                      have rg1 := fun d os => cell_regrown cSb' d os
                      have e1 := HE1.out
                      have d1 := HD1.out
                      refine wp_region_lex [] 16 (by kernel_rfl) (by kernel_rfl) ?_
                      simp only [List.take_succ_cons, List.take_zero, List.drop_succ_cons, List.drop_zero]
                      with_reducible refine lex_seg 16 _ _ _ _ (by kernel_rfl) ?_
                      simp only [List.take_succ_cons, List.take_zero, List.drop_succ_cons, List.drop_zero]
                      try simp only [Act.put, List.setIfInBounds_toArray, List.set_cons_succ, List.set_cons_zero]
                      repeat (go_big_quiet_step (fail))
                      with_reducible refine wpQuiet_nil ?_
                      with_reducible refine lex_nil ?_
                      clear rg0 rg1 e1 d1
                      go_wp2
                      go_roundw
                      case rel => exact ⟨b + 1, by go_num, by omega, hb34.drew⟩
                      case measure => simp [intOf]; omega
                    · obtain rfl : nb = 0 := by omega
                      clear hle
                      go_wp2_with fail
                      refine (left_any l a _ _ (hQr.bel hby) (by omega)).mono ?_; rw [← HNA.out]; rintro e w3 ⟨rfl, hb3⟩
                      go_wp2_with fail
                      refine (left_any l b _ _ (hQr.bel (hby.trans hb3)) (by omega)).mono ?_; rw [← HNB.out]; rintro e w4 ⟨rfl, hb4⟩
                      have hb34 := (hby.trans hb3).trans hb4
                      have cSa' := (hb34.cellAt S a hSr.1.1).trans cSa
                      have cSb' := (hb34.cellAt S b hSr.1.1).trans cSb
                      clear cSa cSb hb3 hb4 hby
                      go_wp2_with fail
                      have rg0 := fun d os => cell_regrown cSa' d os
                      have rg1 := fun d os => cell_regrown cSb' d os
                      have e1 := HE1.out
                      have d1 : decide ((0 : Int) < ((0 : Nat) : Int)) = false := by simp
                      refine wp_region_lex [] 16 (by kernel_rfl) (by kernel_rfl) ?_
                      simp only [List.take_succ_cons, List.take_zero, List.drop_succ_cons, List.drop_zero]
                      with_reducible refine lex_seg 16 _ _ _ _ (by kernel_rfl) ?_
                      simp only [List.take_succ_cons, List.take_zero, List.drop_succ_cons, List.drop_zero]
                      try simp only [Act.put, List.setIfInBounds_toArray, List.set_cons_succ, List.set_cons_zero]
                      repeat (go_big_quiet_step (fail))
                      with_reducible refine wpQuiet_nil ?_
                      with_reducible refine lex_nil ?_
                      clear rg0 rg1 e1 d1
                      go_wp2
                      go_roundw
                      case rel => exact ⟨b + 1, by go_num, by omega, hb34.drew⟩
                      case measure => simp [intOf]; omega
                  · obtain rfl : na = 0 := by omega
                    clear hle
                    go_wp2_with fail
                    refine (left_any l a _ _ (hQr.bel hby) (by omega)).mono ?_; rw [← HNA.out]; rintro e w3 ⟨rfl, hb3⟩
                    go_wp2_with fail
                    refine (left_any l b _ _ (hQr.bel (hby.trans hb3)) (by omega)).mono ?_; rw [← HNB.out]; rintro e w4 ⟨rfl, hb4⟩
                    have hb34 := (hby.trans hb3).trans hb4
                    have cSa' := (hb34.cellAt S a hSr.1.1).trans cSa
                    have cSb' := (hb34.cellAt S b hSr.1.1).trans cSb
                    clear cSa cSb hb3 hb4 hby
                    go_wp2_with fail
                    have rg0 := fun d os => cell_regrown cSa' d os
                    have rg1 := fun d os => cell_regrown cSb' d os
                    have e1 := HE1.out
                    have d1 : decide ((0 : Int) < ((0 : Nat) : Int)) = false := by simp
                    refine wp_region_lex [] 16 (by kernel_rfl) (by kernel_rfl) ?_
                    simp only [List.take_succ_cons, List.take_zero, List.drop_succ_cons, List.drop_zero]
                    with_reducible refine lex_seg 16 _ _ _ _ (by kernel_rfl) ?_
                    simp only [List.take_succ_cons, List.take_zero, List.drop_succ_cons, List.drop_zero]
                    try simp only [Act.put, List.setIfInBounds_toArray, List.set_cons_succ, List.set_cons_zero]
                    repeat (go_big_quiet_step (fail))
                    with_reducible refine wpQuiet_nil ?_
                    with_reducible refine lex_nil ?_
                    clear rg0 rg1 e1 d1
                    go_wp2
                    go_roundw
                    case rel => exact ⟨b + 1, by go_num, by omega, hb34.drew⟩
                    case measure => simp [intOf]; omega
                · have hb1 : decide ((b : Int) < 3) = false := by simp; omega
                  have hb2 : 3 ≤ (b : Int) := by omega
                  go_wp2
                  go_roundw
                  case rel => exact ⟨a + 1, by go_num, by omega, hby⟩
                  case measure => simp [intOf]; omega
            · have ha1 : decide ((a : Int) < 3) = false := by simp; omega
              have ha2 : 3 ≤ (a : Int) := by omega
              obtain ⟨kb, q, hpick, hkl, hq, hspec⟩ := pick_all h0
              have HP := Lib.hid hpick
              have hstep := HSH2.out.step (fun _ => by omega) (fun _ => by omega) hq hspec
              have hqm := HSH2.out.2.2.1 q (List.mem_of_getElem? hq)
              have HSTEP := Lib.hid hstep
              obtain ⟨q1, q2, q3, q4, q5⟩ := hqm
              have q5' : q.b.cnt = 1 := by have h9 : q.b.cnt ≤ 1 := q5; omega
              have HQ5 := Lib.hid q5'
              have hQ4 := hQr.bel hbx
              have hS4 := hSr.bel hbx
              have hb4w := hbr.trans hbx
              have HNQo := HNQ.out
              obtain ⟨b, o, cq, hv, hlb, hcell⟩ := hQ4.at h0
              cases hv
              have hrow := row_at Qd.cells_len hcell hq
              have c1 := hrow.cell 1 rfl
              obtain ⟨t, ht⟩ : ∃ t : Nat, (t : Int) = q.b.ten := ⟨q.b.ten.toNat, by omega⟩
              obtain ⟨sq, hsq⟩ : ∃ x, s[t]? = some x := ⟨s[t]'(by omega), List.getElem?_eq_getElem _⟩
              obtain ⟨sq1, sq2⟩ := HBD.out t sq hsq
              have cS := hS4.1.2 t _ (icells_at hsq)
              have hrt := rnd_id (n := q.b.ten) (m := 3) (by omega) (by omega) (by omega)
              rw [← ht] at hrt c1 q1 q2
              have HT := Lib.hid ht
              have HRT := Lib.hid hrt
              have HSQ := Lib.hid hsq
              have k1 : (kb : Int) < (l.length : Int) := by omega
              have k0 : (0 : Int) ≤ (kb : Int) := by omega
              clear hpick hspec hq hstep hrow hcell ht hrt hsq HNQo hQr hSr hbr hbx q5 q5'
              go_wp2_with fail
              refine (yes_any l.length _ (by omega)).mono ?_; rintro e w5 ⟨vy, rfl, hY5, hb5⟩
              go_wp2_with fail
              refine (fairPick_any l (yesL l.length) _ vy _ (hQ4.bel hb5) hY5).mono ?_; rw [HP.out]; rintro e w6 ⟨rfl, hb6⟩
              have hb46 := hb5.trans hb6
              have c1' := (hb46.cellAt b (o + kb * 12 + 1) hlb).trans c1
              have cS' := (hb46.cellAt S t hS4.1.1).trans cS
              have hQ6 := hQ4.bel hb46
              have hS6 := hS4.bel hb46
              have hb6w := hb4w.trans hb46
              have hlb6 : b < w6.heap.size := Nat.lt_of_lt_of_le hlb hb46.size
              clear c1 cS hb5 hb6 hY5 hb46 hQ4 hS4 hb4w hlb
              go_wp2_with fail
              refine (round_any (t : Int) 3 _ (by omega)).mono ?_; rw [HRT.out]; rintro e w9 ⟨rfl, rfl⟩
              have hS7 := hS6.set t (by simp [icells]; omega) (.int .i64 (sq + 1))
              rw [icells_set] at hS7
              have hQ7 := hQ6.far (p := ⟨S, t, none⟩) HNQ.out (.int .i64 (sq + 1))
              have hb7w : Bel w (w6.setCell ⟨S, t, none⟩ (.int .i64 (sq + 1))) := hb6w.setNew hwS _
              have hlb7 : b < (w6.setCell ⟨S, t, none⟩ (.int .i64 (sq + 1))).heap.size := by simpa [World.setCell] using hlb6
              have cSf := hS6.2
              have cSl := hS6.1.1
              go_wp2_with fail
              clear hS6 hQ6 hb6w hlb6 c1' cS' cSf cSl
              generalize w6.setCell ⟨S, t, none⟩ (.int .i64 (sq + 1)) = Y at *
              have e6 : IntKind.i64.wrap ((kb : Int) + 1) = (kb : Int) + 1 := IntWalk.i64_in _ (by omega)
              obtain ⟨hnew11, ad1, had1, hnew21⟩ := rem_news hQ7 hlb7 hkl
              have hel1 : kb + (l.length - (kb + 1)) = (l.eraseIdx kb).length := by rw [List.length_eraseIdx, if_pos hkl]; omega
              refine wp_region_st [3, 8] 10 (by kernel_rfl) (by kernel_rfl) ?_
              with_reducible refine st_sel [0, 1, 2, 4, 5, 6, 7] (by kernel_rfl) (by kernel_rfl) ?_
              simp only [picked, List.getElem?_cons_succ, List.getElem?_cons_zero, Option.toList_some, List.nil_append, List.cons_append, List.append_nil]
              try simp only [Act.put, List.setIfInBounds_toArray, List.set_cons_succ, List.set_cons_zero]
              repeat (go_big_quiet_step (fail))
              with_reducible refine wpQuiet_nil ?_
              refine st_branch [3] (by kernel_rfl) (branch_cons (by simp only [List.getElem?_toArray, List.getElem?_cons_succ, List.getElem?_cons_zero]; rfl) ?_ branch_nil)
              refine eff_append_own rfl _ _ 26 rfl (Y).heap.size 53 i0 _ 12 120 Try.underlying26 hi0 hz0 hz1 hz2 rfl (by omega) (.slice none 0 0) 0 [] rfl ⟨by simp, Or.inl ⟨rfl, rfl⟩⟩ ⟨b, o, none⟩ kb _ (qcells ((l).take kb)) rfl (by rw [qcells_len, List.length_take, Nat.min_eq_left (Nat.le_of_lt hkl)]) (hnew11 _ (by repeat (first | (with_reducible exact Bel.refl _) | (with_reducible assumption) | (with_reducible refine Bel.drewN ?_ _) | (with_reducible refine Bel.drew ?_) | (with_reducible refine Bel.alloc ?_ _) | (with_reducible refine Bel.setNew ?_ ?_ _) | (with_reducible refine Bel.trans ?_ (by assumption)) | (focus (simp; done)) | (focus (simp; omega))))) (qcells_one _) (by unfold maxLen; omega) (by omega) (by simp) (by repeat (first | (with_reducible exact Bel.refl _) | (with_reducible assumption) | (with_reducible refine Bel.drewN ?_ _) | (with_reducible refine Bel.drew ?_) | (with_reducible refine Bel.alloc ?_ _) | (with_reducible refine Bel.setNew ?_ ?_ _) | (with_reducible refine Bel.trans ?_ (by assumption)) | (focus (simp; done)) | (focus (simp; omega)))) (by simp) ?_
              intro va1 wa1 howna1 hga1 hba1
              simp only [Nat.zero_add, List.nil_append] at howna1
              try simp only [List.nil_append, List.cons_append, Act.put, List.setIfInBounds_toArray, List.set_cons_succ, List.set_cons_zero]
              refine st_branch [8] (by kernel_rfl) (branch_cons (by simp only [List.getElem?_toArray, List.getElem?_cons_succ, List.getElem?_cons_zero]; rfl) ?_ branch_nil)
              refine eff_append_own rfl _ _ 26 rfl (Y).heap.size 53 i0 _ 12 120 Try.underlying26 hi0 hz0 hz1 hz2 rfl (by omega) va1 kb _ rfl howna1 ad1 ((l).length - (kb + 1)) _ (qcells ((l).drop (kb + 1))) rfl (by rw [qcells_len, List.length_drop]) (hnew21 _ (Bel.trans (by repeat (first | (with_reducible exact Bel.refl _) | (with_reducible assumption) | (with_reducible refine Bel.drewN ?_ _) | (with_reducible refine Bel.drew ?_) | (with_reducible refine Bel.alloc ?_ _) | (with_reducible refine Bel.setNew ?_ ?_ _) | (with_reducible refine Bel.trans ?_ (by assumption)) | (focus (simp; done)) | (focus (simp; omega)))) hba1)) (qcells_one _) (by unfold maxLen; omega) (by omega) hba1.size hba1 (by simp) ?_
              intro vb1 wb1 hownb1 hgb1 hbb1
              rw [← qcells_app, erase_eq, hel1] at hownb1
              try simp only [List.nil_append, List.cons_append, Act.put, List.setIfInBounds_toArray, List.set_cons_succ, List.set_cons_zero]
              with_reducible refine st_sel [9] (by kernel_rfl) (by kernel_rfl) ?_
              simp only [picked, List.getElem?_cons_succ, List.getElem?_cons_zero, Option.toList_some, List.nil_append, List.cons_append, List.append_nil]
              try simp only [Act.put, List.setIfInBounds_toArray, List.set_cons_succ, List.set_cons_zero]
              repeat (go_big_quiet_step (fail))
              with_reducible refine wpQuiet_nil ?_
              refine st_end (by kernel_rfl) ?_
              simp only [List.drop_succ_cons, List.drop_zero, List.drop_nil]
              skip
              go_wp2_with fail
              obtain ⟨Ab1, cb1, rfl⟩ := own_slice hownb1
              have hle1 : (l.eraseIdx kb).length + 1 = l.length := by rw [List.length_eraseIdx, if_pos hkl]; omega
              have hbYb : Bel Y wb1 := Bel.trans (by repeat (first | (with_reducible exact Bel.refl _) | (with_reducible assumption) | (with_reducible refine Bel.drewN ?_ _) | (with_reducible refine Bel.drew ?_) | (with_reducible refine Bel.alloc ?_ _) | (with_reducible refine Bel.setNew ?_ ?_ _) | (with_reducible refine Bel.trans ?_ (by assumption)) | (focus (simp; done)) | (focus (simp; omega)))) hbb1
              go_roundw
              case rel =>
                refine ⟨l.eraseIdx kb, s.set t (sq + 1), upd P q.b.ten (P q.b.ten + K * q.b.cnt), by omega, by simpa using hs3, Rd.own hownb1, Lib.hid (own_ne hownb1 (.inl hS7.1.1)), hS7.bel hbYb, Lib.hid HSTEP.out.2, Lib.hid ?_, Lib.hid ?_, hb7w.trans hbYb⟩
                · intro u x hu
                  by_cases eu : u = t
                  · subst eu
                    rw [List.getElem?_set_self (by omega)] at hu
                    cases hu
                    rw [HT.out, upd_self, ← HT.out, HPS.out _ _ HSQ.out, HQ5.out, Int.mul_add]
                  · rw [List.getElem?_set_ne (Ne.symm eu)] at hu
                    rw [upd_ne _ _ (by have := HT.out; omega)]
                    exact HPS.out _ _ hu
                · intro u x hu
                  by_cases eu : u = t
                  · subst eu
                    rw [List.getElem?_set_self (by omega)] at hu
                    cases hu
                    omega
                  · rw [List.getElem?_set_ne (Ne.symm eu)] at hu
                    have := HBD.out _ _ hu
                    omega
              case measure => simp [lenV]; omega
        · have e0 : l.length = 0 := by omega
          rw [e0]
          go_wp2_with fail
          refine (awakeFair_any _).mono ?_; rintro e w3 ⟨rfl, hb3⟩
          go_wp2
          go_ret
          exact ⟨rfl, hbr.trans ‹_›⟩
end Go.Proofs.Ytacbljfpcchbbaa
