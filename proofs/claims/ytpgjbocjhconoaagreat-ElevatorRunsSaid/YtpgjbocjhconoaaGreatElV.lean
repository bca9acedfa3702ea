/- elevator.Wake. -/
import Derived.Test.YtpgjbocjhconoaaGreatK11
namespace Go.Proofs.YtpgjbocjhconoaaGreat
open Go.RowKit Go.Maps
set_option linter.unusedSimpArgs false

/-- When the tokens for an entry are there. -/
def wakT (bs : List Bk) (now : Int) (x : Qu) : Option Int :=
  if (bktE bs x.u.ten x.u.cnt).2.2 && (whenB (bktE bs x.u.ten x.u.cnt).1 (now + 1) (bktE bs x.u.ten x.u.cnt).2.1).2 then some (whenB (bktE bs x.u.ten x.u.cnt).1 (now + 1) (bktE bs x.u.ten x.u.cnt).2.1).1 else none
def wakO (o : Option Int) (t : Option Int) : Option Int := match t with
  | none => o
  | some t => match o with
    | none => some t
    | some l => if t < l then some t else some l
/-- The least of the first ones. -/
def wakL (bs : List Bk) (now : Int) (l : List Qu) : Option Int := if tickE now then l.foldl (fun o x => wakO o (wakT bs now x)) none else none
theorem wakL_snoc (bs : List Bk) (now : Int) (l : List Qu) (x : Qu) : wakL bs now (l ++ [x]) = if tickE now then wakO (wakL bs now l) (wakT bs now x) else none := by
  unfold wakL
  split
  · rw [List.foldl_append]; rfl
  · rfl

set_option maxRecDepth 100000 in
set_option maxHeartbeats 16000000 in
theorem elWake_any (knd rd wt V hd now : Int) (fl bu en : Value) (fs : List (Int × Int)) (bs : List Bk) (L : List QM) (w : World) (hb : Rd w bu 4 bs.length (bkc bs)) (he : QL w en L) (hf : ∃ A c, fl = .slice A fs.length c) (hn : L.length ≤ 1000) (hnow : IsInt (now + 1)) :
    Calls Tryz.prog 13 #[.agg #[.int .i64 knd, .int .i64 rd, .int .i64 wt, .int .i64 V, fl, bu, en, .int .i64 hd], .int .i64 now] w fun e w' => e = .returned (.tuple #[.int .i64 ((wakL bs now (L.map QM.qu)).getD 0), .bool (wakL bs now (L.map QM.qu)).isSome]) ∧ Bel w w' := by
  have HTK := Lib.hid (fun w' => elTick_any now w')
  have HXA := Lib.hid (fun k x (hk : L[k]? = some x) => he.at hk)
  obtain ⟨Af, cf, rfl⟩ := hf
  obtain ⟨Ab, cb, rfl, _, _⟩ := hb.form
  obtain ⟨Ae, ce, rfl, _, hce⟩ := he.form
  unfold maxLen at hce
  have HBK := Lib.hid (fun w' (h : Bel w w') (b : Bun) => elBucket_any knd rd wt V hd (.slice Af fs.length cf) (.slice Ab bs.length cb) (.slice Ae L.length ce) bs b w' (hb.bel h))
  obtain ⟨P, HP⟩ : ∃ P, Hid (L.map QM.qu = P) := ⟨_, rfl⟩
  rw [HP.out]
  obtain ⟨R, HR⟩ : ∃ R, Hid (wakL bs now P = R) := ⟨_, rfl⟩
  rw [HR.out]
  obtain ⟨n, Hn⟩ : ∃ n, Hid (L.length = n) := ⟨_, rfl⟩
  rw [Hn.out] at HXA HBK hn ⊢
  have HPN : Hid (P.length = n) := by show _ = _; rw [← HP.out, List.length_map]; exact Hn.out
  have HWT : Hid (∀ (i : Nat) (x : QM), L[i]? = some x → wakL bs now (P.take (i + 1)) = if tickE now then wakO (wakL bs now (P.take i)) (wakT bs now x.qu) else none) := fun i x hx => by
    have h1 : P[i]? = some x.qu := by rw [← HP.out, List.getElem?_map, hx]; rfl
    rw [List.take_add_one, h1]
    exact wakL_snoc bs now _ _
  obtain ⟨tk, Htk⟩ : ∃ t, Hid (tickE now = t) := ⟨_, rfl⟩
  rw [Htk.out] at HTK HWT
  obtain ⟨hn1, hn2⟩ := hnow
  have en1 : IntKind.i64.wrap (now + 1) = now + 1 := IntWalk.i64_in _ (by omega)
  have hX := AtF.new_at (w := w) rfl 31 [.int .i64 knd, .int .i64 rd, .int .i64 wt, .int .i64 V, .slice Af fs.length cf, .slice Ab bs.length cb, .slice Ae n ce, .int .i64 hd]
  have hbw : Bel w (w.alloc (.cells [.int .i64 knd, .int .i64 rd, .int .i64 wt, .int .i64 V, .slice Af fs.length cf, .slice Ab bs.length cb, .slice Ae n ce, .int .i64 hd].toArray 31)) := bI
  simp only [List.toArray] at hX hbw
  clear hb he
  go_enter Tryz.func13, Tryz.ntmps13
  go_wp2
  generalize hW : w.alloc _ = W at *
  clear hW
  generalize w.heap.size = X at *
  go_loopw [6, 7, 18] (fun lv fv iv wr => ∃ (i : Nat) (o : Option Int), iv = .int .i64 i ∧ i ≤ n ∧ Hid (wakL bs now (P.take i) = o) ∧ lv = .int .i64 (o.getD 0) ∧ fv = .bool o.isSome ∧ Bel W wr) (fun _ _ iv _ => n - (intOf iv).toNat)
  case atStart => exact ⟨0, none, rfl, by omega, by show wakL bs now [] = none; unfold wakL; split <;> rfl, rfl, rfl, Bel.refl _⟩
  case round =>
    obtain ⟨i, o, rfl, p1, HO, rfl, rfl, hbr⟩ := hrel
    obtain ⟨W2, rfl⟩ : ∃ X, X = wr := ⟨_, rfl⟩
    by_cases hlt : i < n
    · have hin : (i : Int) < (n : Int) := by omega
      have HLT := Lib.hid hlt
      obtain ⟨x, hx⟩ : ∃ x, L[i]? = some x := ⟨L[i]'(by have := Hn.out; omega), List.getElem?_eq_getElem _⟩
      obtain ⟨g, o', cx, hat⟩ := HXA.out i x hx
      have hf := hat.form
      injection hf with hf1 hf2 hf3
      subst hf1 hf3
      clear hf2
      have hbw2 := hbw.trans hbr
      have hrow := hat.row.bel hbw2 hat.lt
      have HNW := Lib.hid (HWT.out i x hx)
      rw [HO.out] at HNW
      obtain ⟨⟨bk, pr, ex⟩, HB0⟩ : ∃ r, Hid (bktE bs x.q.b.ten x.q.b.cnt = r) := ⟨_, rfl⟩
      have HBK2 := Lib.hid (fun W' (h : Bel W2 W') => HBK.out W' (hbw2.trans h) x.q.b)
      rw [HB0.out] at HBK2
      have hwt : wakT bs now x.qu = if ex && (whenB bk (now + 1) pr).2 then some (whenB bk (now + 1) pr).1 else none := by
        unfold wakT
        rw [show bktE bs x.qu.u.ten x.qu.u.cnt = (bk, pr, ex) from HB0.out]
      rw [hwt] at HNW
      obtain ⟨rr, ru, rl, rt⟩ := bk
      have HWN := Lib.hid (fun w' => tokWhen_any rr ru rl rt (now + 1) pr w')
      obtain ⟨⟨tt, cm⟩, HW0⟩ : ∃ r, Hid (whenB ⟨rr, ru, rl, rt⟩ (now + 1) pr = r) := ⟨_, rfl⟩
      rw [HW0.out] at HWN HNW
      clear hwt hx hat
      obtain ⟨⟨⟨i2, t2, k2, s2, n2, d2, f2, a2, l2, c2, m2⟩, du, st, tr⟩, ms2⟩ := x
      simp only [bkCells] at hrow HBK2 HWN HNW
      have q0 := (hrow).cell 0 rfl
      have q1 := (hrow).cell 1 rfl
      have q2 := (hrow).cell 2 rfl
      have q3 := (hrow).cell 3 rfl
      have q4 := (hrow).cell 4 rfl
      have q5 := (hrow).cell 5 rfl
      have q6 := (hrow).cell 6 rfl
      have q7 := (hrow).cell 7 rfl
      have q8 := (hrow).cell 8 rfl
      have q9 := (hrow).cell 9 rfl
      have q10 := (hrow).cell 10 rfl
      have q11 := (hrow).cell 11 rfl
      rw [Nat.add_zero] at q0
      have hX2 := hX.bel hbr
      have e0 := (hX2).1.2 0 _ rfl
      have e1 := (hX2).1.2 1 _ rfl
      have e2 := (hX2).1.2 2 _ rfl
      have e3 := (hX2).1.2 3 _ rfl
      have e4 := (hX2).1.2 4 _ rfl
      have e5 := (hX2).1.2 5 _ rfl
      have e6 := (hX2).1.2 6 _ rfl
      have e7 := (hX2).1.2 7 _ rfl
      have el := hX2.1.1
      go_wp2_with fail
      refine (HBK2.out _ bI).mono ?_; rintro e w4 ⟨rfl, hb4⟩
      clear q0 q1 q2 q3 q4 q5 q6 q7 q8 q9 q10 q11 e0 e1 e2 e3 e4 e5 e6 e7 el
      have hb24 : Bel W2 w4 := bI
      go_wp2_with fail
      refine (HWN.out _).mono ?_; rintro e w5 ⟨rfl, hb5⟩
      have hb25 : Bel W2 w5 := bI
      clear hb4 hb5 hX2 hrow hb24
      go_wp2_with fail
      refine (HTK.out _).mono ?_; rintro e w6 ⟨rfl, hb6⟩
      have hb26 := hbr.trans (hb25.trans hb6)
      clear hb6 hb25 hbw2
      have HO0 : Hid (tk = false → o = none) := fun h => by
        rw [← HO.out]
        unfold wakL
        rw [Htk.out, h]
        rfl
      cases tk
      · obtain rfl := HO0.out rfl
        go_wp2
        go_roundw
        case rel => exact ⟨i + 1, none, by go_num, by have := HLT.out; omega, HNW.out, rfl, rfl, hb26⟩
        case measure => have := HLT.out; simp [intOf]; omega
      · simp only [if_true] at HNW
        clear HO0
        cases ex
        · go_wp2
          go_roundw
          case rel => exact ⟨i + 1, o, by go_num, by have := HLT.out; omega, HNW.out, rfl, rfl, hb26⟩
          case measure => have := HLT.out; simp [intOf]; omega
        · cases cm
          · go_wp2
            go_roundw
            case rel => exact ⟨i + 1, o, by go_num, by have := HLT.out; omega, HNW.out, rfl, rfl, hb26⟩
            case measure => have := HLT.out; simp [intOf]; omega
          · cases o with
            | none =>
              go_wp2
              go_roundw
              case rel => exact ⟨i + 1, some tt, by go_num, by have := HLT.out; omega, HNW.out, rfl, rfl, hb26⟩
              case measure => have := HLT.out; simp [intOf]; omega
            | some l =>
              by_cases htl : tt < l
              · have HN2 : Hid (wakL bs now (P.take (i + 1)) = some tt) := by
                  show _ = _
                  rw [HNW.out]
                  show (if tt < l then some tt else some l) = some tt
                  rw [if_pos htl]
                go_wp2
                go_roundw
                case rel => exact ⟨i + 1, some tt, by go_num, by have := HLT.out; omega, HN2.out, rfl, rfl, hb26⟩
                case measure => have := HLT.out; simp [intOf]; omega
              · have HN2 : Hid (wakL bs now (P.take (i + 1)) = some l) := by
                  show _ = _
                  rw [HNW.out]
                  show (if tt < l then some tt else some l) = some l
                  rw [if_neg htl]
                go_wp2
                go_roundw
                case rel => exact ⟨i + 1, some l, by go_num, by have := HLT.out; omega, HN2.out, rfl, rfl, hb26⟩
                case measure => have := HLT.out; simp [intOf]; omega
    · obtain rfl : i = n := by omega
      have jk : decide ((i : Int) < (i : Int)) = false := by simp
      have HRO : Hid (o = R) := by
        show _ = _
        rw [← HO.out, ← HR.out, List.take_of_length_le (by rw [HPN.out]; exact Nat.le_refl _)]
      have hbf := hbw.trans hbr
      go_wp2
      exact bodyPost_ret (v := .tuple #[.int .i64 (o.getD 0), .bool o.isSome]) (by simp [results, Tryz.results13, go_sem]) rfl ⟨by rw [HRO.out], hbf⟩
end Go.Proofs.YtpgjbocjhconoaaGreat
