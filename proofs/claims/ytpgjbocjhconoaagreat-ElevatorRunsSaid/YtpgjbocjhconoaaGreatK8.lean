/- Lemmas and walks that the statements share, part K8. -/
import Derived.Test.YtpgjbocjhconoaaGreatK5
import Derived.Deep.AppendLies
import Derived.Test.YtpgjbocjhconoaaGreatK7
import Derived.Deep.DeepCutAuto
import Derived.Test.YtpgjbocjhconoaaGreatK6
/- The reference's Fair; New of both. -/
namespace Go.Proofs.YtpgjbocjhconoaaGreat
open Go.RowKit
set_option linter.unusedSimpArgs false

set_option maxHeartbeats 2000000 in
theorem refFair_any (V : Int) (fs : List (Int × Int)) (v : Value) (w : World) (h : Rd w v 2 fs.length (fcells fs)) :
    Calls Tryz.prog 95 #[.agg #[.int .i64 V, v]] w fun e w' => e = .returned (.bool (fairOk V fs)) ∧ Bel w w' := by
  obtain ⟨_, A, cp, rfl, hcp, hmx, hr⟩ := h
  unfold maxLen at hmx
  obtain ⟨n, Hn⟩ : ∃ n, Hid (n = fs.length) := ⟨_, rfl⟩
  have hO : Hid (fairOk V fs = (decide (1 ≤ n ∧ n ≤ 4) && timeB V && fs.all flowOk)) := by show _ = _; rw [Hn.out]; rfl
  rw [← Hn.out] at hcp hr ⊢
  have HR := Lib.hid hr
  clear hr
  generalize fairOk V fs = z at hO ⊢
  by_cases h1 : (n : Int) < 1
  · go_enter Tryz.func95, Tryz.ntmps95
    go_wp2
    go_ret
    exact ⟨ret_bool (by rw [hO.out]; simp; omega), bI⟩
  · have g1 : decide ((n : Int) < 1) = false := by simp; omega
    by_cases h2 : 4 < (n : Int)
    · go_enter Tryz.func95, Tryz.ntmps95
      go_wp2
      go_ret
      exact ⟨ret_bool (by rw [hO.out]; simp; omega), bI⟩
    · have g2 : decide (4 < (n : Int)) = false := by simp; omega
      by_cases h3 : V < 0
      · go_enter Tryz.func95, Tryz.ntmps95
        go_wp2
        go_ret
        exact ⟨ret_bool (by rw [hO.out]; simp [timeB]; omega), bI⟩
      · have g3 : decide (V < 0) = false := by simp; omega
        by_cases h4 : 1125899906842624 < V
        · go_enter Tryz.func95, Tryz.ntmps95
          go_wp2
          go_ret
          exact ⟨ret_bool (by rw [hO.out]; simp [timeB]; omega), bI⟩
        · have g4 : decide (1125899906842624 < V) = false := by simp; omega
          have hz : Hid (z = fs.all flowOk) := by
            show _ = _
            rw [hO.out, show timeB V = true from timeB_iff.2 ⟨by omega, by omega⟩]
            have : decide (1 ≤ n ∧ n ≤ 4) = true := by simp; omega
            rw [this]; simp
          have hA := AtF.new w 27 [.int .i64 V, .slice A n cp]
          go_enter Tryz.func95, Tryz.ntmps95
          go_wp2
          go_loopw [3] (fun iv wr => ∃ i : Nat, iv = .int .i64 i ∧ i ≤ n ∧ Hid (∀ j p, j < i → fs[j]? = some p → flowOk p = true) ∧ AtF wr w.heap.size [.int .i64 V, .slice A n cp] ∧ Bel w wr) (fun iv _ => n - (intOf iv).toNat)
          case atStart => exact ⟨0, rfl, by omega, fun j p hj => absurd hj (by omega), hA, bI⟩
          case round =>
            obtain ⟨i, rfl, p1, HA, hAr, hbr⟩ := hrel
            clear hA
            have a0 := hAr.1.2 0 _ rfl
            have a1 := hAr.1.2 1 _ rfl
            have af := hAr.2
            have al := hAr.1.1
            by_cases hlt : i < n
            · obtain ⟨b, o, rfl, hlb, hcell⟩ := HR.out (by omega)
              obtain ⟨⟨x, y⟩, hx⟩ : ∃ p, fs[i]? = some p := ⟨fs[i]'(by have := Hn.out; omega), List.getElem?_eq_getElem _⟩
              have c0 : wr.cell? ⟨b, o + i * 2, none⟩ = some (.int .i64 x) := by rw [hbr.cellAt _ _ hlb]; exact hcell _ _ (fcells_at0 _ _ _ hx)
              have c1 : wr.cell? ⟨b, o + i * 2 + 1, none⟩ = some (.int .i64 y) := by rw [hbr.cellAt _ _ hlb]; exact hcell _ _ (fcells_at1 _ _ _ hx)
              have HX := Lib.hid hx
              clear hx hcell
              have i1 : (i : Int) < (n : Int) := by omega
              cases hf : flowOk (x, y)
              · have h2 : fs.all flowOk = false := by
                  rw [List.all_eq_false]
                  exact ⟨_, List.mem_of_getElem? HX.out, by rw [hf]; simp⟩
                rw [h2] at hz
                have hf2 : x < 1 ∨ 8 < x ∨ y < 0 ∨ 1125899906842624 < y := by
                  have := mt flowOk_iff.2 (by rw [hf]; simp : ¬ flowOk (x, y) = true)
                  omega
                clear hf h2
                go_wp2
                all_goals
                  first
                  | (exfalso; simp at *; omega)
                  | (go_ret
                     exact ⟨ret_bool hz.out.symm, bI⟩)
              · obtain ⟨⟨f1, f2⟩, f3, f4⟩ := flowOk_iff.1 hf
                have HF := Lib.hid hf
                clear hf
                go_wp2
                go_roundw
                case rel =>
                  refine ⟨i + 1, by go_num, by omega, ?_, hAr.alloc _, bI⟩
                  intro j p hj hp
                  rcases Nat.lt_or_ge j i with h1 | h1
                  · exact HA.out j p h1 hp
                  · obtain rfl : j = i := by omega
                    have := HX.out
                    rw [this] at hp
                    cases hp
                    exact HF.out
                case measure => simp [intOf]; omega
            · have i2 : decide ((i : Int) < (n : Int)) = false := by simp; omega
              have i1 : (n : Int) ≤ (i : Int) := by omega
              go_wp2
              go_ret
              have h2 : fs.all flowOk = true := by
                rw [List.all_eq_true]
                intro p hp
                obtain ⟨j, hj⟩ := List.getElem?_of_mem hp
                exact HA.out j p (by have := (List.getElem?_eq_some_iff.1 hj).1; have := Hn.out; omega) hj
              exact ⟨ret_bool (by rw [hz.out, h2]), bI⟩
end Go.Proofs.YtpgjbocjhconoaaGreat

/- New of the reference. -/
namespace Go.Proofs.YtpgjbocjhconoaaGreat
open Go.RowKit
set_option linter.unusedSimpArgs false


def newF (zs : List Int) : List (Int × Int) := zs.map fun z => (z, 0)
theorem newF_snoc {zs : List Int} {i : Nat} {x : Int} (h : zs[i]? = some x) : newF (zs.take (i + 1)) = newF (zs.take i) ++ [(x, 0)] := by
  rw [List.take_add_one, h]; simp [newF]
theorem newF_len (zs : List Int) : (newF zs).length = zs.length := by simp [newF]

end Go.Proofs.YtpgjbocjhconoaaGreat

/- New of the fair package. -/
namespace Go.Proofs.YtpgjbocjhconoaaGreat
open Go.RowKit
set_option linter.unusedSimpArgs false

set_option maxRecDepth 100000 in
set_option maxHeartbeats 4000000 in
theorem fairNew_any (zs : List Int) (v : Value) (w : World) (h : Ints w v zs) (hn : zs.length ≤ 1000) :
    Calls Tryz.prog 53 #[v] w fun e w' =>
      ∃ v', e = .returned (.tuple #[.agg #[.int .i64 0, v'], .bool (fairOk 0 (newF zs))]) ∧ w'.ownsRow w.heap.size 101 2 v' (if fairOk 0 (newF zs) = true then newF zs else []).length (fcells (if fairOk 0 (newF zs) = true then newF zs else [])) ∧ Bel w w' := by
  obtain ⟨hzi, A, cp, rfl, hcp, hmx, hr⟩ := h
  unfold maxLen at hmx
  obtain ⟨i0, hi0, hz0, hz1, hz2⟩ := info_parts Tryz.infoFlow
  have HR := Lib.hid hr
  have HI := Lib.hid hzi
  clear hr hzi
  obtain ⟨n, Hn⟩ : ∃ n, Hid (n = zs.length) := ⟨_, rfl⟩
  rw [← Hn.out] at hcp hn ⊢
  obtain ⟨L, HL⟩ : ∃ L, Hid (L = if fairOk 0 (newF zs) = true then newF zs else []) := ⟨_, rfl⟩
  rw [← HL.out]
  obtain ⟨k, HK⟩ : ∃ k, Hid (k = fairOk 0 (newF zs)) := ⟨_, rfl⟩
  rw [← HK.out] at HL ⊢
  have hA := (AtF.new w 27 [.int .i64 0, .slice none 0 0]).alloc (.cells #[.int .i64 0, .slice none 0 0] 27)
  have hB := AtF.new (w.alloc (.cells #[.int .i64 0, .slice none 0 0] 27)) 27 [.int .i64 0, .slice none 0 0]
  simp only [World.size_alloc] at hB
  by_cases h4 : 4 < (n : Int)
  · have hk0 : k = false := by
      rw [HK.out]; simp only [fairOk, newF_len, ← Hn.out]
      have : decide (1 ≤ n ∧ n ≤ 4) = false := by simp; omega
      rw [this]; simp
    subst hk0
    have hL : L = [] := by rw [HL.out]; simp
    go_enter Tryz.func53, Tryz.ntmps53
    go_wp2
    exact bodyPost_ret (v := .tuple #[.agg #[.int .i64 0, .slice none 0 0], .bool false]) (by simp [results, Tryz.results53, go_sem]) rfl ⟨_, rfl, by rw [hL]; exact ⟨by simp [fcells], Or.inl ⟨rfl, rfl⟩⟩, bI⟩
  have h4' : decide (4 < (n : Int)) = false := by simp; omega
  have h4'' : (n : Int) ≤ 4 := by omega
  go_enter Tryz.func53, Tryz.ntmps53
  go_wp2
  go_loopw [6, 13] (fun _ iv wr => ∃ (i : Nat) (ov : Value), iv = .int .i64 i ∧ i ≤ n ∧ wr.ownsRow (w.heap.size + 2) 101 2 ov i (fcells (newF (zs.take i))) ∧ AtF wr (w.heap.size + 1) [.int .i64 0, ov] ∧ AtF wr w.heap.size [.int .i64 0, .slice none 0 0] ∧ Bel w wr) (fun _ iv _ => n - (intOf iv).toNat)
  case atStart => exact ⟨0, _, rfl, by omega, ⟨by simp [newF, fcells], Or.inl ⟨rfl, rfl⟩⟩, hB, hA, bI⟩
  case round =>
    obtain ⟨i, ov, rfl, p1, hown, hBr, hAr, hbr⟩ := hrel
    clear hA hB
    obtain ⟨A', c', rfl⟩ := own_slice hown
    by_cases hlt : i < n
    · obtain ⟨b, o, rfl, hlb, hcell⟩ := HR.out (by have := Hn.out; omega)
      have hiz : i < zs.length := by have := Hn.out; omega
      obtain ⟨x, hx⟩ : ∃ x, zs[i]? = some x := ⟨zs[i], List.getElem?_eq_getElem hiz⟩
      have g0 : wr.cell? ⟨b, o + i, none⟩ = some (.int .i64 x) := by
        rw [hbr.cellAt _ _ hlb, hcell i hiz]
        rw [List.getElem?_eq_getElem hiz] at hx
        cases hx; rfl
      have HX := Lib.hid hx
      clear hx hcell
      have i1 : (i : Int) < (n : Int) := by omega
      have i3 : (0 : Int) ≤ (i : Int) := by omega
      have b0 := hBr.1.2 0 _ rfl
      have b1 := hBr.1.2 1 _ rfl
      have bf := hBr.2
      have bl := hBr.1.1
      have hsz := hbr.size
      have lk := World.block_lt_of_cell? _ _ g0
      have hf1 := bf 1
      have hltr := hown.lt
      have ah : (Value.slice A' i c').ownBlock ≠ some (w.heap.size + 1) := fun e => by have := hltr _ e; omega
      have aw : (Value.slice A' i c').ownBlock ≠ some w.heap.size := fun e => by have := hltr _ e; omega
      have ab : (Value.slice A' i c').ownBlock ≠ some b := fun e => by have := hltr _ e; omega
      go_wp2_with (at_builtin; go_must (refine wpList_append_own_at _ rfl (.tmp 18) (.tmp 21) 25 rfl (w.heap.size + 2) 101 i0 _ 2 16 Tryz.underlying25 hi0 hz0 hz1 hz2 rfl (by omega) (.slice A' i c') _ _ rfl (hown.alloc _) ⟨wr.heap.size, 0, none⟩ 1 1 [.int .i64 x, .int .i64 0] rfl rfl (World.news_of_block (cs := #[.int .i64 x, .int .i64 0]) (t := 101) (fr := (0, 0)) (heap_alloc_new wr _)) (by simp [Value.oneCell']) (by unfold maxLen; omega) (by omega) (by simp; omega) ?_); intro v' w3 hown' hg' _ _; obtain ⟨gn, cn, hvn, _, _⟩ := hown'.form (by omega); subst hvn; have hB3 := (hBr.alloc _).grown hg' (Ne.symm ah); have hA3 := (hAr.alloc _).grown hg' (Ne.symm aw); have hc3 := hB3.1.2 1 _ rfl; have hf3 := hB3.2 1)
      have hne : w.heap.size + 1 ≠ w.heap.size := by omega
      go_roundw
      case rel =>
        refine ⟨i + 1, _, by go_num, by omega, own_other ?_ (p := ⟨w.heap.size + 1, 1, none⟩) (by simp) _, hB3.set 1 (by simp) _, hA3.other (Ne.symm hne) _ _, ?_⟩
        · rw [newF_snoc HX.out, fcells_app]; simpa [fcells] using hown'
        · exact (bel_own (hbr.alloc _) (hown.alloc _) hg' (by omega)).setNew (by simp) _
      case measure => simp [intOf]; omega
    · obtain rfl : i = n := by omega
      have i2 : decide ((i : Int) < (i : Int)) = false := by simp
      have e1 : newF (zs.take i) = newF zs := by rw [Hn.out, List.take_length]
      rw [e1] at hown
      have hnl : (newF zs).length = i := by rw [newF_len, Hn.out]
      have hrd := Rd.own hown
      rw [← hnl] at hrd
      have HV := Lib.hid (fun w' (hb : Bel wr w') => fairValid_any 0 (newF zs) _ w' (hrd.bel hb))
      rw [hnl] at HV
      rw [← HK.out] at HV
      clear hrd
      have hne : w.heap.size + 1 ≠ w.heap.size := by omega
      have b0 := hBr.1.2 0 _ rfl
      have b1 := hBr.1.2 1 _ rfl
      have bf := hBr.2
      have bl := hBr.1.1
      go_wp2_with fail
      refine (HV.out _ bI).mono ?_; rintro e w2 ⟨rfl, hb2⟩
      have hB2 := hBr.bel hb2
      have hA2 := hAr.bel hb2
      have hown2 := own_keep hown hb2
      have hbw2 := hbr.trans hb2
      clear b0 b1 bf bl hBr hAr hown hbr hb2
      have b0 := hB2.1.2 0 _ rfl
      have b1 := hB2.1.2 1 _ rfl
      have bf := hB2.2
      have bl := hB2.1.1
      have a0 := hA2.1.2 0 _ rfl
      have a1 := hA2.1.2 1 _ rfl
      have af := hA2.2
      have al := hA2.1.1
      cases k
      · have hL : L = [] := by rw [HL.out]; simp
        have hr2 := (hA2.set 0 (by simp) (.int .i64 0)).set 1 (by simp) (.slice none 0 0)
        have r20 := hr2.1.2 0 _ rfl
        have r21 := hr2.1.2 1 _ rfl
        go_wp2
        exact bodyPost_ret (v := .tuple #[.agg #[.int .i64 0, .slice none 0 0], .bool false]) (by simp [results, Tryz.results53, go_sem, r20, r21]) rfl ⟨_, rfl, by rw [hL]; exact ⟨by simp [fcells], Or.inl ⟨rfl, rfl⟩⟩, bI⟩
      · have hL : L = newF zs := by rw [HL.out]; simp
        have hr2 := (hA2.set 0 (by simp) (.int .i64 0)).set 1 (by simp) (.slice A' i c')
        have r20 := hr2.1.2 0 _ rfl
        have r21 := hr2.1.2 1 _ rfl
        have hown3 := own_other (own_other hown2 (p := ⟨w.heap.size, 0, none⟩) (by simp) (.int .i64 0)) (p := ⟨w.heap.size, 1, none⟩) (by simp) (.slice A' i c')
        go_wp2
        exact bodyPost_ret (v := .tuple #[.agg #[.int .i64 0, .slice A' i c'], .bool true]) (by simp [results, Tryz.results53, go_sem, r20, r21]) rfl ⟨_, rfl, by rw [hL, hnl]; exact own_mono hown3 (Nat.le_succ_of_le (Nat.le_succ _)), bI⟩
end Go.Proofs.YtpgjbocjhconoaaGreat

/- elevator.New, of arguments that are valid but for the buckets. -/
namespace Go.Proofs.YtpgjbocjhconoaaGreat
open Go.RowKit Go.Maps
set_option linter.unusedSimpArgs false

set_option maxHeartbeats 1000000 in
theorem newBad_any (b : Bk) (w : World) : Calls Tryz.prog 55 #[.agg (bkCells b).toArray] w fun e w' => e = .returned (.bool (!bkOk b)) ∧ Bel w w' := by
  have H := Lib.hid (fun w' => tokValid_any b.rate b.burst b.level b.last w')
  obtain ⟨rr, ru, rl, rt⟩ := b
  simp only [bkCells] at H ⊢
  obtain ⟨r, Hr⟩ : ∃ r, Hid (bkOk ⟨rr, ru, rl, rt⟩ = r) := ⟨_, rfl⟩
  rw [Hr.out] at H ⊢
  go_enter Tryz.func55, Tryz.ntmps55
  go_wp2_with fail
  refine (H.out _).mono ?_; rintro e w1 ⟨rfl, hb1⟩
  go_wp2
  go_ret
  exact ⟨rfl, bI⟩

open Go.Sort in
theorem wpQuiet_load_at {P : Program} {ops : Array Oper} {w : World} {rest : List Oper} {o : Oper} {a : Act} {Q : Act → Prop} (hgd : o.guard = none) (ty : TypeId) (x : Operand) (ho : o.op = .load ty x)
    {B : Nat} {cs : List Value} (hx : a.eval x = .pointer (some ⟨B, 0, none⟩)) (hB : AtF w B cs) (d : TypeDesc) (hu : P.underlying ty = some d) (hd : (match d with | .struct _ | .array _ _ => true | _ => false) = true) (hi : (P.info? ty).map (·.size) = some cs.length)
    (h : wpQuiet P ops (fun w' => ∃ p : Regrown, w' = grow (redrawn w p.d) p.os) Q rest (a.put o.dst (.agg cs.toArray))) : wpQuiet P ops (fun w' => ∃ p : Regrown, w' = grow (redrawn w p.d) p.os) Q (o :: rest) a := by
  unfold wpQuiet
  have hw : Region.wanted o (yielded ops a.tmps) = true := by simp [Region.wanted, hgd]
  rw [if_pos hw]
  refine ⟨_, ?_, h⟩
  rintro w' ⟨p, rfl⟩
  have hB' : AtF (grow (redrawn w p.d) p.os) B cs := hB.bel (below_regrown _ _ _)
  unfold Oper.quietAt execOp
  simp only [ho, hx, Instr.loadAt, Instr.sureAddr, Sem.run_bind, Sem.run_pure, Result.andThen_ok, loadVar_at ty hB' d hu hd hi]
  exact ⟨rfl, rfl⟩

theorem all_any_not (l : List Bk) : l.all bkOk = !l.any fun b => !bkOk b := by
  induction l with
  | nil => rfl
  | cons x l ih => rw [List.all_cons, List.any_cons, ih, Bool.not_or, Bool.not_not]
/-- What New takes. -/
def newOk (knd rd wt : Int) (zs : List Int) (bs : List Bk) : Bool := decide (knd = 1 ∨ knd = 2 ∨ knd = 3) && tickE rd && tickE wt && decide (zs.length = 4) && decide (bs.length = 4) && fairOk 0 (newF zs) && bs.all bkOk

theorem ElN.nil (w : World) (base : Nat) : ElN w base (.slice none 0 0) (.slice none 0 0) (.slice none 0 0) [] [] [] :=
  ⟨⟨rfl, Or.inl ⟨rfl, rfl⟩⟩, ⟨rfl, Or.inl ⟨rfl, rfl⟩⟩, ⟨QO.nil _ _, fun j x hj => by simp at hj⟩, fun k h1 h2 => (by cases h2), fun k h1 h2 => (by cases h2), fun k h1 h2 => (by cases h2), fun k h1 x hx => (by cases hx), fun k h1 x hx => (by cases hx)⟩

set_option maxRecDepth 100000 in
set_option maxHeartbeats 8000000 in
theorem elNew_any (knd rd wt : Int) (zs : List Int) (bs : List Bk) (wv bv : Value) (w : World) (hw : Ints w wv zs) (hb : Rd w bv 4 bs.length (bkc bs)) (hzn : zs.length ≤ 1000) (hbn : bs.length ≤ 1000) :
    Calls Tryz.prog 17 #[.int .i64 knd, .agg #[.int .i64 rd, .int .i64 wt], wv, bv] w fun e w' => ∃ fl bu en, e = .returned (.tuple #[.agg #[.int .i64 (if newOk knd rd wt zs bs then knd else 0), .int .i64 (if newOk knd rd wt zs bs then rd else 0), .int .i64 (if newOk knd rd wt zs bs then wt else 0), .int .i64 0, fl, bu, en, .int .i64 0], .bool (newOk knd rd wt zs bs)]) ∧ ElN w' w.heap.size fl bu en (if newOk knd rd wt zs bs then newF zs else []) (if newOk knd rd wt zs bs then bs else []) [] ∧ Bel w w' := by
  have HFN := Lib.hid (fun w' (h : Bel w w') => fairNew_any zs wv w' (Ints.bel hw h) hzn)
  have HCB := Lib.hid (fun w' (h : Bel w w') => cloneBkt_any (bkc bs) bs.length bv w' (hb.bel h) (bkc_one bs) hbn)
  have HCT := Lib.hid (fun w' (h : Bel w w') => containsBkt_any bs bv 55 #[] (fun b => !bkOk b) w' (hb.bel h) (enters_of Tryz.func55 (by kernel_rfl) rfl) (fun W x _ _ => newBad_any x W))
  obtain ⟨r, Hr⟩ : ∃ r, Hid (newOk knd rd wt zs bs = r) := ⟨_, rfl⟩
  rw [Hr.out]
  obtain ⟨K, HK⟩ : ∃ K, Hid (decide (knd = 1 ∨ knd = 2 ∨ knd = 3) = K) := ⟨_, rfl⟩
  obtain ⟨ka, HA⟩ : ∃ K, Hid (tickE rd = K) := ⟨_, rfl⟩
  obtain ⟨kb, HB⟩ : ∃ K, Hid (tickE wt = K) := ⟨_, rfl⟩
  obtain ⟨kv, HV⟩ : ∃ K, Hid (fairOk 0 (newF zs) = K) := ⟨_, rfl⟩
  obtain ⟨kc, HC⟩ : ∃ K, Hid ((bs.any fun b => !bkOk b) = K) := ⟨_, rfl⟩
  obtain ⟨F, HF⟩ : ∃ F, Hid (newF zs = F) := ⟨_, rfl⟩
  have HRR : Hid (r = (K && ka && kb && decide (zs.length = 4) && decide (bs.length = 4) && kv && !kc)) := by
    show _ = _
    rw [← Hr.out, newOk, HK.out, HA.out, HB.out, HV.out, ← HC.out]
    congr 1
    exact all_any_not bs
  have HTA := Lib.hid (fun w' => elTick_any rd w')
  have HTB := Lib.hid (fun w' => elTick_any wt w')
  rw [HA.out] at HTA
  rw [HB.out] at HTB
  rw [HV.out, HF.out] at HFN
  rw [HC.out] at HCT
  rw [HF.out]
  obtain ⟨Aw, cw, rfl, hcw, _⟩ := hw.2
  obtain ⟨Ab, cb, rfl, hcb, _⟩ := hb.form
  obtain ⟨n1, Hn1⟩ : ∃ n, Hid (n = zs.length) := ⟨_, rfl⟩
  obtain ⟨n2, Hn2⟩ : ∃ n, Hid (n = bs.length) := ⟨_, rfl⟩
  rw [← Hn1.out] at HFN HRR ⊢
  rw [← Hn2.out] at HCB HCT HRR ⊢
  clear hw hb hcw hcb hzn hbn Hr
  have hX := (AtF.new_at (w := w) rfl 24 [.int .i64 rd, .int .i64 wt]).alloc (.cells [.int .i64 0, .int .i64 0, .int .i64 0, .int .i64 0, .slice none 0 0, .slice none 0 0, .slice none 0 0, .int .i64 0].toArray 31)
  have hR := AtF.new_at (w := w.alloc (.cells [.int .i64 rd, .int .i64 wt].toArray 24)) (g := w.heap.size + 1) (by simp) 31 [.int .i64 0, .int .i64 0, .int .i64 0, .int .i64 0, .slice none 0 0, .slice none 0 0, .slice none 0 0, .int .i64 0]
  have hbw : Bel w ((w.alloc (.cells [.int .i64 rd, .int .i64 wt].toArray 24)).alloc (.cells [.int .i64 0, .int .i64 0, .int .i64 0, .int .i64 0, .slice none 0 0, .slice none 0 0, .slice none 0 0, .int .i64 0].toArray 31)) := bI
  simp only [List.toArray] at hX hR hbw
  go_enter Tryz.func17, Tryz.ntmps17
  go_wp2_with fail
  refine (HFN.out _ bI).mono ?_; rintro e w1 ⟨fl', rfl, hfo, hb1⟩
  obtain ⟨A1, c1, rfl⟩ := own_slice hfo
  have HFO := Lib.hid hfo
  clear hfo
  obtain ⟨G, HG⟩ : ∃ G, Hid (G = if kv = true then F else []) := ⟨_, rfl⟩
  rw [← HG.out] at HFO ⊢
  obtain ⟨n3, Hn3⟩ : ∃ n, Hid (n = G.length) := ⟨_, rfl⟩
  rw [← Hn3.out] at HFO ⊢
  have hX1 := (hX.bel hb1).alloc (.cells [.int .i64 0, .slice A1 n3 c1].toArray 27)
  have hF1 := AtF.new_at (w := w1) rfl 27 [.int .i64 0, .slice A1 n3 c1]
  have hR1 := (hR.bel hb1).alloc (.cells [.int .i64 0, .slice A1 n3 c1].toArray 27)
  have hb2 := (hbw.trans hb1).alloc (.cells [.int .i64 0, .slice A1 n3 c1].toArray 27)
  simp only [List.toArray] at hX1 hF1 hR1 hb2
  have hsz1 := hb1.size
  simp only [World.size_alloc] at hsz1
  go_upto_region 2 with fail
  have HFO2 := Lib.hid (own_mono (own_keep HFO.out (w' := w1.alloc (.cells #[.int .i64 0, .slice A1 n3 c1] 27)) bI) (base' := w.heap.size + 2) (by simp))
  clear HFO hX hR hb1 hbw
  generalize w1.alloc (.cells #[.int .i64 0, .slice A1 n3 c1] 27) = W at *
  generalize w1.heap.size = X at *
  go_cut [12] (fun v wx => v = .bool K ∧ wx = W)
  case first =>
    by_cases h1 : knd = 1
    · have hk : K = true := by rw [← HK.out]; simp [h1]
      have h1b : (knd == 1) = true := by simpa using h1
      go_wp2_with fail
      go_meet
      exact ⟨by rw [hk], rfl⟩
    · have h1b : (knd == 1) = false := by simpa using h1
      by_cases h2 : knd = 2
      · have hk : K = true := by rw [← HK.out]; simp [h2]
        have h2b : (knd == 2) = true := by simpa using h2
        go_wp2_with fail
        go_meet
        exact ⟨by rw [hk], rfl⟩
      · have h2b : (knd == 2) = false := by simpa using h2
        by_cases h3 : knd = 3
        · have hk : K = true := by rw [← HK.out]; simp [h3]
          have h3b : (knd == 3) = true := by simpa using h3
          go_wp2_with fail
          go_meet
          exact ⟨by rw [hk], rfl⟩
        · have h3b : (knd == 3) = false := by simpa using h3
          have hk : K = false := by rw [← HK.out]; simp [h1, h2, h3]
          go_wp2_with fail
          go_meet
          exact ⟨by rw [hk], rfl⟩
  case rest =>
    obtain ⟨rfl, rfl⟩ := hcut
    go_upto_region 3 with fail
    go_cut [59] (fun v wx => v = .bool (!r) ∧ Bel wc wx)
    case first =>
      have x0 := hX1.1.2 0 _ rfl
      have xl := hX1.1.1
      cases K
      · skip
        go_wp2_with fail
        go_meet
        exact ⟨by rw [HRR.out]; simp , bI⟩
      · go_wp2_with fail
        refine (HTA.out _).mono ?_; rintro e w2 ⟨rfl, hb3⟩
        cases ka
        · skip
          go_wp2_with fail
          go_meet
          exact ⟨by rw [HRR.out]; simp , bI⟩
        · have x1 := (hX1.bel hb3).1.2 1 _ rfl
          have xl2 := (hX1.bel hb3).1.1
          go_wp2_with fail
          refine (HTB.out _).mono ?_; rintro e w3 ⟨rfl, hb4⟩
          cases kb
          · skip
            go_wp2_with fail
            go_meet
            exact ⟨by rw [HRR.out]; simp , bI⟩
          · by_cases h1 : n1 = 4
            · subst h1
              by_cases h2 : n2 = 4
              · subst h2
                cases kv
                · skip
                  go_wp2_with fail
                  go_meet
                  exact ⟨by rw [HRR.out]; simp , bI⟩
                · go_wp2_with fail
                  refine (HCT.out _ bI).mono ?_; rintro e w5 ⟨rfl, hb5⟩
                  cases kc
                  · skip
                    go_wp2_with fail
                    go_meet
                    exact ⟨by rw [HRR.out]; simp , bI⟩
                  · skip
                    go_wp2_with fail
                    go_meet
                    exact ⟨by rw [HRR.out]; simp , bI⟩
              · have h2b : ((n2 : Int) != 4) = true := by simp; omega
                go_wp2_with fail
                go_meet
                exact ⟨by rw [HRR.out]; simp [h2], bI⟩
            · have h1b : ((n1 : Int) != 4) = true := by simp; omega
              go_wp2_with fail
              go_meet
              exact ⟨by rw [HRR.out]; simp [h1], bI⟩
    case rest =>
      obtain ⟨rfl, hb3⟩ := hcut
      cases r
      · replace hR1 := hR1.bel hb3
        have r0 := (hR1).1.2 0 _ rfl
        have r1 := (hR1).1.2 1 _ rfl
        have r2 := (hR1).1.2 2 _ rfl
        have r3 := (hR1).1.2 3 _ rfl
        have r4 := (hR1).1.2 4 _ rfl
        have r5 := (hR1).1.2 5 _ rfl
        have r6 := (hR1).1.2 6 _ rfl
        have r7 := (hR1).1.2 7 _ rfl
        have rf := hR1.2
        have rl := hR1.1.1
        go_upto_region 5 with fail
        clear r0 r1 r2 r3 r4 r5 r6 r7
        have hi8 : (Tryz.prog.info? 31).map (·.size) = some 8 := by kernel_rfl
        have hb8 := Bel.setRow (B := w.heap.size + 1) (i := 0) [.int .i64 0, .int .i64 0, .int .i64 0, .int .i64 0, .slice none 0 0, .slice none 0 0, .slice none 0 0, .int .i64 0] (hb2.trans hb3) (by omega)
        have hR8 := hR1.setRow [.int .i64 0, .int .i64 0, .int .i64 0, .int .i64 0, .slice none 0 0, .slice none 0 0, .slice none 0 0, .int .i64 0] rfl
        have hlv := loadVar_at (P := Tryz.prog) 31 hR8 _ Tryz.underlying31 rfl hi8
        clear hR8
        simp only [setRow, Nat.zero_add, Nat.reduceAdd] at hlv hb8
        exact bodyPost_ret (v := .tuple #[.agg #[.int .i64 0, .int .i64 0, .int .i64 0, .int .i64 0, .slice none 0 0, .slice none 0 0, .slice none 0 0, .int .i64 0], .bool false]) (by simp [results, Tryz.results17, hlv, asAddr]) rfl ⟨_, _, _, rfl, ElN.nil _ _, hb8⟩
      · have HKK : Hid (K = true ∧ ka = true ∧ kb = true ∧ n1 = 4 ∧ n2 = 4 ∧ kv = true ∧ kc = false) := by
          have h := HRR.out
          simp only [Bool.true_eq, Bool.and_eq_true, decide_eq_true_eq, Bool.not_eq_true'] at h
          obtain ⟨⟨⟨⟨⟨⟨h1, h2⟩, h3⟩, h4⟩, h5⟩, h6⟩, h7⟩ := h
          exact ⟨h1, h2, h3, h4, h5, h6, h7⟩
        obtain ⟨h1, h2, h3, h4, h5, h6, h7⟩ := HKK.out
        subst h1 h2 h3 h4 h5 h6 h7
        replace hX1 := hX1.bel hb3
        replace hF1 := hF1.bel hb3
        go_upto_region 5 with fail
        refine wp_region_lex [4] 5 (by kernel_rfl) (by kernel_rfl) ?_
        simp only [List.take_succ_cons, List.take_zero, List.drop_succ_cons, List.drop_zero]
        with_reducible refine lex_seg 4 _ _ _ _ (by kernel_rfl) ?_
        simp only [List.take_succ_cons, List.take_zero, List.drop_succ_cons, List.drop_zero]
        go_big_quiet_step (fail)
        refine wpQuiet_load_at rfl 24 _ rfl rfl hX1 _ Tryz.underlying24 rfl (by kernel_rfl) ?_
        refine wpQuiet_load_at rfl 27 _ rfl rfl hF1 _ Tryz.underlying27 rfl (by kernel_rfl) ?_
        try simp only [Act.put, List.setIfInBounds_toArray, List.set_cons_succ, List.set_cons_zero]
        go_big_quiet_step (fail)
        with_reducible refine wpQuiet_nil ?_
        refine lex_call 57 rfl rfl (by simp [go_sem]; rfl) ?_
        refine (HCB.out _ bI).mono ?_; rintro e w2 ⟨bu', rfl, hbo, hb4⟩
        refine ⟨_, rfl, hb4, ?_⟩
        with_reducible refine lex_nil ?_
        have hb5 : Bel wc w2 := bI
        have HFO5 := Lib.hid (own_keep HFO2.out (hb3.trans hb5))
        have hR5 := hR1.bel (hb3.trans hb5)
        obtain ⟨A2, c2, rfl⟩ := own_slice hbo
        have HBO := Lib.hid hbo
        have HEN : Hid (ElN w2 (w.heap.size + 2) (.slice A1 n3 c1) (.slice A2 4 c2) (.slice none 0 0) F bs []) := by
          have hG : G = F := HG.out
          have h3 : ∀ m, m = n3 → w2.ownsRow (w.heap.size + 2) 101 2 (.slice A1 n3 c1) m (fcells F) := fun m e => by rw [e, ← hG]; exact HFO5.out
          have h4 : ∀ m, m = 4 → w2.ownsRow wc.drew.heap.size 54 4 (.slice A2 4 c2) m (bkc bs) := fun m e => by rw [e]; exact HBO.out
          have hs := hb3.size
          have hs2 := hR1.1.1
          have hsw : w.heap.size + 2 ≤ wc.drew.heap.size := by simp only [World.size_drew]; omega
          refine ⟨h3 _ (by rw [← hG]; exact Hn3.out.symm), own_mono (h4 _ Hn2.out.symm) hsw, ⟨QO.nil _ _, fun j x hj => by simp at hj⟩, fun k h1 h2 => ?_, fun k h1 h2 => (by cases h2), fun k h1 h2 => (by cases h2), fun k h1 x hx => (by cases hx), fun k h1 x hx => (by cases hx)⟩
          have g1 := (HFO2.out.lt k h1).2
          have g2 := (HBO.out.lt k h2).1
          simp only [World.size_drew] at g2
          omega
        have hb6 := (hb2.trans hb3).trans hb5
        have CS : ∀ u ∈ ([.int .i64 knd, .int .i64 rd, .int .i64 wt, .int .i64 0, .slice A1 n3 c1, .slice A2 4 c2, .slice none 0 0, .int .i64 0] : List Value), u.oneCell' = true := fun u hu => by
          simp only [List.mem_cons, List.not_mem_nil, or_false] at hu
          rcases hu with rfl | rfl | rfl | rfl | rfl | rfl | rfl | rfl <;> rfl
        have hi8 : (Tryz.prog.info? 31).map (·.size) = some 8 := by kernel_rfl
        have hR9 := hR5.setRow [.int .i64 knd, .int .i64 rd, .int .i64 wt, .int .i64 0, .slice A1 n3 c1, .slice A2 4 c2, .slice none 0 0, .int .i64 0] rfl
        have hE9 := (ElN.setRow (B := w.heap.size + 1) (i := 0) [.int .i64 knd, .int .i64 rd, .int .i64 wt, .int .i64 0, .slice A1 n3 c1, .slice A2 4 c2, .slice none 0 0, .int .i64 0] HEN.out (by omega)).mono (base' := w.heap.size) (by omega)
        have hb9 := Bel.setRow (B := w.heap.size + 1) (i := 0) [.int .i64 knd, .int .i64 rd, .int .i64 wt, .int .i64 0, .slice A1 n3 c1, .slice A2 4 c2, .slice none 0 0, .int .i64 0] hb6 (by omega)
        have hlv := loadVar_at (P := Tryz.prog) 31 hR9 _ Tryz.underlying31 rfl hi8
        simp only [setRow, Nat.zero_add, Nat.reduceAdd] at hlv hb9 hE9
        clear hR9
        have r0 := (hR5).1.2 0 _ rfl
        have r1 := (hR5).1.2 1 _ rfl
        have r2 := (hR5).1.2 2 _ rfl
        have r3 := (hR5).1.2 3 _ rfl
        have r4 := (hR5).1.2 4 _ rfl
        have r5 := (hR5).1.2 5 _ rfl
        have r6 := (hR5).1.2 6 _ rfl
        have r7 := (hR5).1.2 7 _ rfl
        have rf := hR5.2
        have rl := hR5.1.1
        go_wp2
        clear r0 r1 r2 r3 r4 r5 r6 r7
        exact bodyPost_ret (v := .tuple #[.agg #[.int .i64 knd, .int .i64 rd, .int .i64 wt, .int .i64 0, .slice A1 n3 c1, .slice A2 4 c2, .slice none 0 0, .int .i64 0], .bool true]) (by simp [results, Tryz.results17, hlv, asAddr]) rfl ⟨_, _, _, rfl, hE9, hb9⟩
end Go.Proofs.YtpgjbocjhconoaaGreat

/- What Next chooses depends on what the entries are alone, not on where their members lie; plain laws of choosing. -/
namespace Go.Proofs.YtpgjbocjhconoaaGreat
open Go.RowKit Go.Maps
set_option linter.unusedSimpArgs false

section
variable {L L' : List QM} (h : L.map QM.qu = L'.map QM.qu)
include h
theorem qu_len : L.length = L'.length := by have := congrArg List.length h; simpa using this
theorem qu_at (i : Nat) : (L[i]?).map QM.qu = (L'[i]?).map QM.qu := by
  have := congrArg (fun l => l[i]?) h
  simpa [List.getElem?_map] using this
theorem qu_none {i : Nat} (h0 : L[i]? = none) : L'[i]? = none := by
  have := qu_at h i
  rw [h0] at this
  cases hx : L'[i]? with
  | none => rfl
  | some x => rw [hx] at this; cases this
theorem qu_some {i : Nat} {x : QM} (h0 : L[i]? = some x) : ∃ y, L'[i]? = some y ∧ x.qu = y.qu := by
  have := qu_at h i
  rw [h0] at this
  cases hx : L'[i]? with
  | none => rw [hx] at this; cases this
  | some y => rw [hx] at this; exact ⟨y, rfl, by simpa using this⟩
theorem qu_by {α : Type} {f : QM → α} (g : Qu → α) (hf : ∀ x, f x = g x.qu) (d : α) (i : Nat) : (match L[i]? with | some x => f x | none => d) = (match L'[i]? with | some x => f x | none => d) := by
  cases hx : L[i]? with
  | none => rw [qu_none h hx]
  | some x =>
    obtain ⟨y, hy, e⟩ := qu_some h hx
    rw [hy]
    show f x = f y
    rw [hf, hf, e]
theorem confAt_qu (i j : Nat) : confAt L i j = confAt L' i j := by
  unfold confAt
  cases hx : L[i]? with
  | none => rw [qu_none h hx]
  | some x =>
    obtain ⟨y, hy, e⟩ := qu_some h hx
    rw [hy]
    cases hz : L[j]? with
    | none => rw [qu_none h hz]
    | some z =>
      obtain ⟨t, ht, e2⟩ := qu_some h hz
      rw [ht]
      show confU x.qu.u z.qu.u = confU y.qu.u t.qu.u
      rw [e, e2]
theorem dueAt_qu (i : Nat) : dueAt L i = dueAt L' i := qu_by h (f := fun x => x.q.due) (fun x => x.due) (fun _ => rfl) 0 i
theorem secAt_qu (i : Nat) : secAt L i = secAt L' i := qu_by h (f := fun x => x.q.b.sec) (fun x => x.u.sec) (fun _ => rfl) 0 i
theorem chn_qu (i : Nat) : ∀ k, chn L i k = chn L' i k
  | 0 => rfl
  | k + 1 => by simp only [chn, chn_qu i k, confAt_qu h]
theorem lst_qu (i : Nat) : ∀ k, lst L i k = lst L' i k
  | 0 => dueAt_qu h i
  | k + 1 => by simp only [lst, lst_qu i k, chn_qu h, confAt_qu h, dueAt_qu h]
theorem urg_qu (i : Int) : urg L i = urg L' i := by simp only [urg, urgN, lst_qu h, qu_len h]
theorem pickD_qu (may : List Bool) (hd now : Int) (n : Nat) : pickD L may hd now n = pickD L' may hd now n := by
  have e1 : (fun i : Nat => mayAt may i && decide (urg L i ≤ now)) = (fun i : Nat => mayAt may i && decide (urg L' i ≤ now)) := by funext i; rw [urg_qu h]
  have e2 : (fun i : Nat => urg L i) = (fun i : Nat => urg L' i) := by funext i; rw [urg_qu h]
  have e3 : secAt L = secAt L' := by funext i; exact secAt_qu h i
  unfold pickD
  rw [e1, e2, e3]
theorem lessAt_qu (i j : Nat) : lessAt (L.map QM.q) i j = lessAt (L'.map QM.q) i j := by
  unfold lessAt
  rw [List.getElem?_map, List.getElem?_map, List.getElem?_map, List.getElem?_map]
  cases hx : L[i]? with
  | none => rw [qu_none h hx]; rfl
  | some x =>
    obtain ⟨y, hy, e⟩ := qu_some h hx
    rw [hy]
    cases hz : L[j]? with
    | none => rw [qu_none h hz]; rfl
    | some z =>
      obtain ⟨t, ht, e2⟩ := qu_some h hz
      rw [ht]
      show decide (x.qu.sta < z.qu.sta ∨ (x.qu.sta = z.qu.sta ∧ x.qu.u.ten < z.qu.u.ten)) = decide (y.qu.sta < t.qu.sta ∨ (y.qu.sta = t.qu.sta ∧ y.qu.u.ten < t.qu.u.ten))
      rw [e, e2]
theorem pickN_qu (may : List Bool) : ∀ k, pickN (L.map QM.q) may k = pickN (L'.map QM.q) may k
  | 0 => rfl
  | k + 1 => by simp only [pickN, pickN_qu may k, lessAt_qu h]
theorem choL_qu (knd : Int) (may : List Bool) (hd now : Int) : choL knd L may hd now = choL knd L' may hd now := by
  unfold choL
  rw [pickD_qu h, pickN_qu h, qu_len h]
end
theorem qm_qu_map (P : List Qu) : (P.map Qu.qm).map QM.qu = P := by
  rw [List.map_map]
  exact List.map_id P
theorem choE_L (E : El) (L : List QM) (h : L.map QM.qu = E.en) (may : List Bool) (now : Int) : choL E.knd L may E.hd now = choE E may now := by
  have h2 : L.map QM.qu = (E.en.map Qu.qm).map QM.qu := by rw [qm_qu_map]; exact h
  rw [choL_qu h2]
  unfold choL choE
  rw [List.length_map, List.map_map]
  rfl
theorem blkN_Q (P : List Qu) (L : List QM) (h : L.map QM.qu = P) (k : Nat) (B : List BM) : blkN L k B = blkQ P k (B.map BM.bu) := by
  subst h
  unfold blkN blkQ
  rw [List.getElem?_map]
  cases hx : L[k]? with
  | none => rfl
  | some y =>
    show _ = (((L.map QM.qu).take k).any (fun x => confU x.u y.qu.u) || (B.map BM.bu).any fun x => confU x y.qu.u)
    rw [← List.map_take, List.any_map, List.any_map]
    rfl
theorem payB_E (E : El) (b : Bu) (now : Int) : payB E.bk b.ten b.cnt now = payE E b now := by
  unfold payB payE bktE bkAt
  cases (if 0 ≤ b.ten then E.bk[b.ten.toNat]? else none) <;> simp
theorem mayAt_eq {may : List Bool} {k : Nat} (h : mayAt may k = true) : may[k]? = some true := by
  unfold mayAt at h
  cases hx : may[k]? with
  | none => rw [hx] at h; cases h
  | some x => rw [hx] at h; rw [show x = true from h]
theorem pickN_may (l : List Qd) (may : List Bool) : ∀ k b, pickN l may k = some b → may[b]? = some true
  | 0, b, h => by simp [pickN] at h
  | k + 1, b, h => by
    have ih := pickN_may l may k
    unfold pickN at h
    split at h
    · rename_i hk
      split at h
      · cases h; exact hk
      · rename_i b' hb'
        split at h
        · cases h; exact hk
        · cases h; exact ih _ hb'
    · exact ih b h
theorem firstT_may : ∀ (l : List Bool) (k : Nat), firstT l = some k → l[k]? = some true
  | [], k, h => by cases h
  | true :: l, k, h => by cases h; rfl
  | false :: l, k, h => by
    unfold firstT at h
    cases hf : firstT l with
    | none => rw [hf] at h; cases h
    | some j =>
      rw [hf] at h
      cases h
      exact firstT_may l j hf
theorem choL_may {knd : Int} {L : List QM} {may : List Bool} {hd now : Int} {k : Nat} (h : choL knd L may hd now = some k) : may[k]? = some true := by
  unfold choL at h
  split at h
  · unfold pickD at h
    split at h
    · rename_i b hb
      cases h
      have := (pickB_lt _ _ _ _ hb).2
      rw [Bool.and_eq_true] at this
      exact mayAt_eq this.1
    · split at h
      · rename_i b hb
        cases h
        have := (pickB_lt _ _ _ _ hb).2
        rw [Bool.and_eq_true] at this
        exact mayAt_eq this.1
      · exact mayAt_eq (pickB_lt _ _ _ _ h).2
  · split at h
    · exact pickN_may _ _ _ _ h
    · exact firstT_may _ _ h
end Go.Proofs.YtpgjbocjhconoaaGreat

/- Picking by deadlines finds what may be picked. -/
namespace Go.Proofs.YtpgjbocjhconoaaGreat
open Go.RowKit Go.Maps

end Go.Proofs.YtpgjbocjhconoaaGreat
