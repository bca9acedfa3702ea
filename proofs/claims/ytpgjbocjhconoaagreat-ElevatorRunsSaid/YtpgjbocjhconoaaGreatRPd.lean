/- The reference's PickDue. -/
import Derived.Test.YtpgjbocjhconoaaGreatRUrg
import Derived.Test.YtpgjbocjhconoaaGreatK6
import Derived.Deep.DeepCutAuto
namespace Go.Proofs.YtpgjbocjhconoaaGreat
open Go.RowKit Go.Maps
set_option linter.unusedSimpArgs false

/-- -1: none. -/
def bestD : Option Nat → Int
  | none => -1
  | some k => k
theorem pickB_past {good : Nat → Bool} {key : Nat → Int} {m : Nat} (h : ∀ j, m ≤ j → good j = false) : ∀ j, m ≤ j → pickB good key j = pickB good key m
  | 0, hj => by have : m = 0 := by omega
                rw [this]
  | j + 1, hj => by
    by_cases e : m = j + 1
    · rw [e]
    · rw [pickB, if_neg (by rw [h j (by omega)]; simp)]
      exact pickB_past h j (by omega)
theorem may_past {may : List Bool} {j : Nat} (h : may.length ≤ j) : mayAt may j = false := by simp [mayAt, List.getElem?_eq_none h]
theorem pickB_no {good : Nat → Bool} {key : Nat → Int} {i : Nat} (h : good i = false) : pickB good key (i + 1) = pickB good key i := by rw [pickB, if_neg (by rw [h]; simp)]
theorem pickB_new {good : Nat → Bool} {key : Nat → Int} {i : Nat} (h : good i = true) (hn : pickB good key i = none) : pickB good key (i + 1) = some i := by rw [pickB, if_pos h, hn]
theorem pickB_lss {good : Nat → Bool} {key : Nat → Int} {i b : Nat} (h : good i = true) (hn : pickB good key i = some b) (hl : key i < key b) : pickB good key (i + 1) = some i := by rw [pickB, if_pos h, hn]; simp only; rw [if_pos hl]
theorem pickB_old {good : Nat → Bool} {key : Nat → Int} {i b : Nat} (h : good i = true) (hn : pickB good key i = some b) (hl : ¬ key i < key b) : pickB good key (i + 1) = some b := by rw [pickB, if_pos h, hn]; simp only; rw [if_neg hl]

/-- Whether entry i takes the place. -/
def takeBD (good : Nat → Bool) (key : Nat → Int) (i : Nat) (o : Option Nat) : Bool := good i && (match o with
  | none => true
  | some b => decide (key i < key b))
theorem pickB_take {good : Nat → Bool} {key : Nat → Int} {i : Nat} {o : Option Nat} (h : pickB good key i = o) : pickB good key (i + 1) = if takeBD good key i o then some i else o := by
  unfold takeBD
  cases hg : good i
  · rw [pickB_no hg, h]; rfl
  · cases o with
    | none => rw [pickB_new hg h]; rfl
    | some b =>
      by_cases hl : key i < key b
      · rw [pickB_lss hg h hl]; simp [hl]
      · rw [pickB_old hg h hl]; simp [hl]

set_option maxRecDepth 100000 in
set_option maxHeartbeats 16000000 in
theorem refPickDue_any (L : List QM) (may : List Bool) (head now : Int) (v mv : Value) (w : World) (hv : QL w v L) (hm : Rd w mv 1 may.length (bcells may)) (hL : L.length ≤ 1000) :
    Calls Tryz.prog 45 #[v, mv, .int .i64 head, .int .i64 now] w fun e w' => e = .returned (.tuple #[.int .i64 ((pickD L may head now L.length).getD 0 : Nat), .bool (pickD L may head now L.length).isSome]) ∧ Bel w w' := by
  obtain ⟨R, HRes⟩ : ∃ R, Hid (R = pickD L may head now L.length) := ⟨_, rfl⟩
  rw [← HRes.out]
  have HU := Lib.hid (fun w' (hb : Bel w w') (i : Nat) => refUrgent_any L i _ w' (hv.bel hb) hL)
  have HAT := Lib.hid (fun j x (hj : L[j]? = some x) => hv.at hj)
  obtain ⟨A, c, rfl, hc1, hc2⟩ := hv.form
  obtain ⟨_, A', cp', rfl, hcp', hmx', hr'⟩ := hm
  unfold maxLen at hmx' hc2
  have HR' := Lib.hid hr'
  obtain ⟨n, Hn⟩ : ∃ n, Hid (n = L.length) := ⟨_, rfl⟩
  obtain ⟨m, Hm⟩ : ∃ m, Hid (m = may.length) := ⟨_, rfl⟩
  rw [← Hn.out] at hc1 hL HU HAT ⊢
  rw [← Hm.out] at hcp' ⊢
  clear hr' hv
  obtain ⟨gU, HgU⟩ : ∃ g : Nat → Bool, Hid (g = fun i => mayAt may i && decide (urg L i ≤ now)) := ⟨_, rfl⟩
  obtain ⟨kU, HkU⟩ : ∃ g : Nat → Int, Hid (g = fun (i : Nat) => urg L (i : Int)) := ⟨_, rfl⟩
  obtain ⟨gA, HgA⟩ : ∃ g : Nat → Bool, Hid (g = fun i => mayAt may i && decide (head ≤ secAt L i)) := ⟨_, rfl⟩
  have hR := HRes.out
  unfold pickD at hR
  rw [← HgU.out, ← HkU.out, ← HgA.out, ← Hn.out] at hR
  have HRR := Lib.hid hR
  have HKU := Lib.hid (fun i => show urg L ((i : Nat) : Int) = kU i from by rw [HkU.out])
  simp only [HKU.out] at HU
  have HGU := Lib.hid (fun i => show gU i = (mayAt may i && decide (kU i ≤ now)) from by rw [HgU.out, HkU.out])
  have HGA := Lib.hid (fun i => show gA i = (mayAt may i && decide (head ≤ secAt L i)) from by rw [HgA.out])
  have HSA := Lib.hid (fun i x (h : L[i]? = some x) => show secAt L i = x.q.b.sec from by rw [secAt, h])
  clear hR
  obtain ⟨sE, HsE⟩ : ∃ g : Nat → Int, Hid (g = secAt L) := ⟨_, rfl⟩
  obtain ⟨mA, HmA⟩ : ∃ g : Nat → Bool, Hid (g = mayAt may) := ⟨_, rfl⟩
  rw [← HsE.out, ← HmA.out] at HRR
  rw [← HmA.out] at HGU
  rw [← HmA.out, ← HsE.out] at HGA
  rw [← HsE.out] at HSA
  have HPU := Lib.hid (show ∀ j, m ≤ j → gU j = false from fun j hj => by rw [HGU.out, HmA.out, may_past (by rw [← Hm.out]; exact hj)]; rfl)
  have HPA := Lib.hid (show ∀ j, m ≤ j → gA j = false from fun j hj => by rw [HGA.out, HmA.out, may_past (by rw [← Hm.out]; exact hj)]; rfl)
  have HPF := Lib.hid (show ∀ j, m ≤ j → mA j = false from fun j hj => by rw [HmA.out, may_past (by rw [← Hm.out]; exact hj)])
  go_enter Tryz.func45, Tryz.ntmps45
  go_wp2
  go_loopw [10, 11, 12, 13] (fun uv av fv iv wr => ∃ (i : Nat) (U A F : Option Nat), Hid (pickB gU kU i = U) ∧ Hid (pickB gA sE i = A) ∧ Hid (pickB mA sE i = F) ∧ uv = .int .i64 (bestD U) ∧ av = .int .i64 (bestD A) ∧ fv = .int .i64 (bestD F) ∧ iv = .int .i64 i ∧ i ≤ n ∧ i ≤ m ∧ Bel w wr) (fun _ _ _ iv _ => n - (intOf iv).toNat)
  case atStart => exact ⟨0, none, none, none, rfl, rfl, rfl, rfl, rfl, rfl, rfl, by omega, by omega, Bel.refl _⟩
  case round =>
    obtain ⟨i, U, A1, F, HU1, HA1, HF1, rfl, rfl, rfl, rfl, p1, p2, hbr⟩ := hrel
    by_cases hlt : i < n ∧ i < m
    · obtain ⟨hin, him⟩ := hlt
      have i1 : (i : Int) < (n : Int) := by omega
      have i2 : (i : Int) < (m : Int) := by omega
      obtain ⟨x, hx⟩ : ∃ x, L[i]? = some x := ⟨L[i]'(by have := Hn.out; omega), List.getElem?_eq_getElem _⟩
      obtain ⟨b', o', rfl, hlb', hcell'⟩ := HR'.out (by have := Hm.out; omega)
      obtain ⟨y, hy⟩ : ∃ y, may[i]? = some y := ⟨may[i]'(by have := Hm.out; omega), List.getElem?_eq_getElem _⟩
      have m0 : wr.cell? ⟨b', o' + i, none⟩ = some (.bool y) := by rw [hbr.cellAt _ _ hlb']; exact hcell' _ _ (bcells_at hy)
      have HMY := Lib.hid (show mA i = y from by rw [HmA.out]; simp [mayAt, hy])
      clear hcell' hy
      obtain ⟨b, o, c9, hX⟩ := HAT.out i x hx
      have hf := hX.form
      simp only [Value.slice.injEq] at hf
      obtain ⟨rfl, _, rfl⟩ := hf
      have HSEC : Hid (∀ w' j x, Bel w w' → L[j]? = some x → w'.cell? ⟨b, o + j * 12 + 3, none⟩ = some (.int .i64 x.q.b.sec)) := by
        intro w' j x hb hj
        obtain ⟨b9, o9, c99, hX⟩ := HAT.out j x hj
        have hf := hX.form
        simp only [Value.slice.injEq, Option.some.injEq, Addr.mk.injEq] at hf
        obtain ⟨⟨rfl, rfl, _⟩, _, rfl⟩ := hf
        exact (hX.bel hb).row.cell 3 rfl
      have HX := Lib.hid hx
      obtain ⟨s, Hs⟩ : ∃ s, Hid (s = x.q.b.sec) := ⟨_, rfl⟩
      have HSI := Lib.hid (show sE i = s from by rw [HSA.out i x hx, Hs.out])
      clear hx hX
      cases y
      · have HU2 : Hid (pickB gU kU (i + 1) = U) := by show _ = _; rw [pickB_no (by rw [HGU.out, HMY.out]; rfl)]; exact HU1.out
        have HA2 : Hid (pickB gA sE (i + 1) = A1) := by show _ = _; rw [pickB_no (by rw [HGA.out, HMY.out]; rfl)]; exact HA1.out
        have HF2 : Hid (pickB mA sE (i + 1) = F) := by show _ = _; rw [pickB_no HMY.out]; exact HF1.out
        go_wp2
        go_roundw
        case rel => exact ⟨i + 1, U, A1, F, HU2, HA2, HF2, rfl, rfl, rfl, by go_num, by omega, by omega, hbr⟩
        case measure => simp [intOf]; omega
      · have x3 := HSEC.out wr i x hbr HX.out
        rw [← Hs.out] at x3
        obtain ⟨u, Hu⟩ : ∃ u, Hid (u = kU i) := ⟨_, rfl⟩
        go_wp2_with fail
        refine (HU.out _ hbr i).mono ?_; rw [← Hu.out]; rintro e w2 ⟨rfl, hb2⟩
        clear x3 m0
        have hbU := hbr.trans hb2
        obtain ⟨cU, HcU⟩ : ∃ c, Hid (c = takeBD gU kU i U) := ⟨_, rfl⟩
        obtain ⟨cA, HcA⟩ : ∃ c, Hid (c = takeBD gA sE i A1) := ⟨_, rfl⟩
        obtain ⟨cF, HcF⟩ : ∃ c, Hid (c = takeBD mA sE i F) := ⟨_, rfl⟩
        have HU2 := Lib.hid (pickB_take HU1.out)
        have HA2 := Lib.hid (pickB_take HA1.out)
        have HF2 := Lib.hid (pickB_take HF1.out)
        rw [← HcU.out] at HU2
        rw [← HcA.out] at HA2
        rw [← HcF.out] at HF2
        have HGUi := Lib.hid (show gU i = decide (u ≤ now) from by rw [HGU.out, HMY.out, ← Hu.out]; rfl)
        have HGAi := Lib.hid (show gA i = decide (head ≤ s) from by rw [HGA.out, HMY.out, HSI.out]; rfl)
        obtain ⟨bU, HbU⟩ : ∃ c, Hid (c = bestD U) := ⟨_, rfl⟩
        obtain ⟨bA, HbA⟩ : ∃ c, Hid (c = bestD A1) := ⟨_, rfl⟩
        obtain ⟨bF, HbF⟩ : ∃ c, Hid (c = bestD F) := ⟨_, rfl⟩
        rw [← HbU.out, ← HbA.out, ← HbF.out]
        go_upto_region 8 with fail
        go_cut [55] (fun c wx => c = .bool cU ∧ Bel w wx)
        case first =>
          by_cases hu : u ≤ now
          · cases U with
            | none =>
              have hc : cU = true := by rw [HcU.out]; unfold takeBD; rw [HGUi.out]; simpa using hu
              have hb : bU = -1 := HbU.out
              subst hb
              have HC := Lib.hid hc
              clear hc
              go_wp2_with fail
              go_meet
              exact ⟨by rw [HC.out], hbU⟩
            | some k =>
              have k1 : k < i := (pickB_lt _ _ _ _ HU1.out).1
              have k2 : (k : Int) < (n : Int) := by omega
              have k3 : (0 : Int) ≤ (k : Int) := by omega
              have hb : bU = (k : Int) := HbU.out
              subst hb
              obtain ⟨uk, HuK⟩ : ∃ x, Hid (x = kU k) := ⟨_, rfl⟩
              have HC := Lib.hid (show cU = decide (u < uk) from by rw [HcU.out]; unfold takeBD; rw [HGUi.out, decide_eq_true hu, ← Hu.out]; show (true && decide (u < kU k)) = _; rw [Bool.true_and, HuK.out])
              go_wp2_with fail
              refine (HU.out _ hbU k).mono ?_; rw [← HuK.out]; rintro e w3 ⟨rfl, hb3⟩
              go_wp2_with fail
              go_meet
              exact ⟨by rw [HC.out]; first | (simp; done) | (simp; omega), hbU.trans hb3⟩
          · have HC := Lib.hid (show cU = false from by rw [HcU.out]; unfold takeBD; rw [HGUi.out, decide_eq_false hu]; rfl)
            have hu' : decide (u ≤ now) = false := decide_eq_false hu
            go_wp2_with fail
            go_meet
            exact ⟨by rw [HC.out], hbU⟩
        case rest =>
          obtain ⟨rfl, hbV⟩ := hcut
          obtain ⟨bU2, HbU2⟩ : ∃ c : Int, Hid (c = if cU then (i : Int) else bU) := ⟨_, rfl⟩
          go_upto_if 55 with fail
          go_cut [10] (fun v wx => v = .int .i64 bU2 ∧ Bel w wx)
          case first =>
            cases cU
            · go_wp2_with fail
              go_meet
              exact ⟨by rw [HbU2.out]; rfl, hbV⟩
            · go_wp2_with fail
              go_meet
              exact ⟨by rw [HbU2.out]; rfl, hbV⟩
          case rest =>
            clear hbV
            obtain ⟨rfl, hbV⟩ := hcut
            go_upto_region 10 with fail
            go_cut [73] (fun c wx => c = .bool cA ∧ Bel w wx)
            case first =>
              by_cases ha : head ≤ s
              · cases A1 with
                | none =>
                  have hc : cA = true := by rw [HcA.out]; unfold takeBD; rw [HGAi.out]; simpa using ha
                  have hb : bA = -1 := HbA.out
                  subst hb
                  have HC := Lib.hid hc
                  clear hc
                  go_wp2_with fail
                  go_meet
                  exact ⟨by rw [HC.out], ‹Bel w _›⟩
                | some ka =>
                  have ka1 : ka < i := (pickB_lt _ _ _ _ HA1.out).1
                  have ka2 : (ka : Int) < (n : Int) := by omega
                  have ka3 : (0 : Int) ≤ (ka : Int) := by omega
                  obtain ⟨xa, hxa⟩ : ∃ x, L[ka]? = some x := ⟨L[ka]'(by have := Hn.out; omega), List.getElem?_eq_getElem _⟩
                  have a3 := HSEC.out _ ka xa hbV hxa
                  have HSX := Lib.hid (HSA.out ka xa hxa)
                  have hb : bA = (ka : Int) := HbA.out
                  subst hb
                  have HC := Lib.hid (show cA = decide (s < xa.q.b.sec) from by rw [HcA.out]; unfold takeBD; rw [HGAi.out, decide_eq_true ha, HSI.out]; show (true && decide (s < sE ka)) = _; rw [Bool.true_and, HSX.out])
                  clear hxa
                  go_wp2_with fail
                  go_meet
                  exact ⟨by rw [HC.out]; first | (simp; done) | (simp; omega), hbV⟩
              · have HC := Lib.hid (show cA = false from by rw [HcA.out]; unfold takeBD; rw [HGAi.out, decide_eq_false ha]; rfl)
                have ha' : decide (head ≤ s) = false := decide_eq_false ha
                go_wp2_with fail
                go_meet
                exact ⟨by rw [HC.out], hbV⟩
            case rest =>
              clear hbV
              obtain ⟨rfl, hbV⟩ := hcut
              obtain ⟨bA2, HbA2⟩ : ∃ c : Int, Hid (c = if cA then (i : Int) else bA) := ⟨_, rfl⟩
              go_upto_if 73 with fail
              go_cut [11] (fun v wx => v = .int .i64 bA2 ∧ Bel w wx)
              case first =>
                cases cA
                · go_wp2_with fail
                  go_meet
                  exact ⟨by rw [HbA2.out]; rfl, hbV⟩
                · go_wp2_with fail
                  go_meet
                  exact ⟨by rw [HbA2.out]; rfl, hbV⟩
              case rest =>
                clear hbV
                obtain ⟨rfl, hbV⟩ := hcut
                go_upto_region 12 with fail
                go_cut [86] (fun c wx => c = .bool cF ∧ Bel w wx)
                case first =>
                  cases F with
                  | none =>
                    have hc : cF = true := by rw [HcF.out]; unfold takeBD; rw [HMY.out]; rfl
                    have hb : bF = -1 := HbF.out
                    subst hb
                    have HC := Lib.hid hc
                    clear hc
                    go_wp2_with fail
                    go_meet
                    exact ⟨by rw [HC.out], hbV⟩
                  | some kf =>
                    have kf1 : kf < i := (pickB_lt _ _ _ _ HF1.out).1
                    have kf2 : (kf : Int) < (n : Int) := by omega
                    have kf3 : (0 : Int) ≤ (kf : Int) := by omega
                    obtain ⟨xf, hxf⟩ : ∃ x, L[kf]? = some x := ⟨L[kf]'(by have := Hn.out; omega), List.getElem?_eq_getElem _⟩
                    have f3 := HSEC.out _ kf xf hbV hxf
                    have HSF := Lib.hid (HSA.out kf xf hxf)
                    have hb : bF = (kf : Int) := HbF.out
                    subst hb
                    have HC := Lib.hid (show cF = decide (s < xf.q.b.sec) from by rw [HcF.out]; unfold takeBD; rw [HMY.out, HSI.out]; show (true && decide (s < sE kf)) = _; rw [Bool.true_and, HSF.out])
                    clear hxf
                    go_wp2_with fail
                    go_meet
                    exact ⟨by rw [HC.out]; first | (simp; done) | (simp; omega), hbV⟩
                case rest =>
                  clear hbV
                  obtain ⟨rfl, hbV⟩ := hcut
                  have EU := Lib.hid (show bU2 = bestD (if cU then some i else U) from by rw [HbU2.out, HbU.out]; cases cU <;> rfl)
                  have EA := Lib.hid (show bA2 = bestD (if cA then some i else A1) from by rw [HbA2.out, HbA.out]; cases cA <;> rfl)
                  cases cF
                  · go_wp2
                    go_roundw
                    case rel => exact ⟨i + 1, _, _, _, HU2, HA2, HF2, by rw [EU.out], by rw [EA.out], by rw [HbF.out]; rfl, by go_num, by omega, by omega, hbV⟩
                    case measure => simp [intOf]; omega
                  · go_wp2
                    go_roundw
                    case rel => exact ⟨i + 1, _, _, _, HU2, HA2, HF2, by rw [EU.out], by rw [EA.out], rfl, by go_num, by omega, by omega, hbV⟩
                    case measure => simp [intOf]; omega
    · have HUn := Lib.hid (show pickB gU kU n = U from by
        by_cases h : i < n
        · have : i = m := by omega
          subst this
          rw [pickB_past HPU.out n (by omega)]; exact HU1.out
        · have : i = n := by omega
          rw [← this]; exact HU1.out)
      have HAn := Lib.hid (show pickB gA sE n = A1 from by
        by_cases h : i < n
        · have : i = m := by omega
          subst this
          rw [pickB_past HPA.out n (by omega)]; exact HA1.out
        · have : i = n := by omega
          rw [← this]; exact HA1.out)
      have HFn := Lib.hid (show pickB mA sE n = F from by
        by_cases h : i < n
        · have : i = m := by omega
          subst this
          rw [pickB_past HPF.out n (by omega)]; exact HF1.out
        · have : i = n := by omega
          rw [← this]; exact HF1.out)
      have hR := HRR.out
      rw [HUn.out, HAn.out, HFn.out] at hR
      have HRX := Lib.hid hR
      clear hR
      by_cases h1 : i < n
      · have i1 : (i : Int) < (n : Int) := by omega
        have i2 : (m : Int) ≤ (i : Int) := by omega
        cases U with
        | some k =>
          rw [show bestD (some k) = (k : Int) from rfl]
          have k3 : (0 : Int) ≤ (k : Int) := by omega
          go_wp2
          go_ret2
          exact ⟨by rw [HRX.out]; rfl, hbr⟩
        | none =>
          rw [show bestD none = -1 from rfl]
          cases A1 with
          | some k =>
            rw [show bestD (some k) = (k : Int) from rfl]
            have k3 : (0 : Int) ≤ (k : Int) := by omega
            go_wp2
            go_ret2
            exact ⟨by rw [HRX.out]; rfl, hbr⟩
          | none =>
            try rw [show bestD none = -1 from rfl]
            cases F with
            | some k =>
              rw [show bestD (some k) = (k : Int) from rfl]
              have k3 : (0 : Int) ≤ (k : Int) := by omega
              go_wp2
              go_ret2
              exact ⟨by rw [HRX.out]; rfl, hbr⟩
            | none =>
              try rw [show bestD none = -1 from rfl]
              go_wp2
              go_ret2
              exact ⟨by rw [HRX.out]; rfl, hbr⟩
      · have i1 : (n : Int) ≤ (i : Int) := by omega
        cases U with
        | some k =>
          rw [show bestD (some k) = (k : Int) from rfl]
          have k3 : (0 : Int) ≤ (k : Int) := by omega
          go_wp2
          go_ret2
          exact ⟨by rw [HRX.out]; rfl, hbr⟩
        | none =>
          rw [show bestD none = -1 from rfl]
          cases A1 with
          | some k =>
            rw [show bestD (some k) = (k : Int) from rfl]
            have k3 : (0 : Int) ≤ (k : Int) := by omega
            go_wp2
            go_ret2
            exact ⟨by rw [HRX.out]; rfl, hbr⟩
          | none =>
            try rw [show bestD none = -1 from rfl]
            cases F with
            | some k =>
              rw [show bestD (some k) = (k : Int) from rfl]
              have k3 : (0 : Int) ≤ (k : Int) := by omega
              go_wp2
              go_ret2
              exact ⟨by rw [HRX.out]; rfl, hbr⟩
            | none =>
              try rw [show bestD none = -1 from rfl]
              go_wp2
              go_ret2
              exact ⟨by rw [HRX.out]; rfl, hbr⟩
end Go.Proofs.YtpgjbocjhconoaaGreat
