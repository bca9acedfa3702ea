/- Lemmas and walks that the statements share, part K7. -/
import Derived.Test.YtpgjbocjhconoaaGreatK3
import Derived.Test.YtpgjbocjhconoaaGreatK5
import Derived.Test.YtpgjbocjhconoaaGreatK6
import Derived.Test.YtpgjbocjhconoaaGreatK4
import Derived.Test.YtpgjbocjhconoaaGreatK2
import Derived.Deep.DeepCutAuto
/- The elevator, plain: what New, Add and Next compute. -/
namespace Go.Proofs.YtpgjbocjhconoaaGreat
open Go.RowKit Go.Maps
set_option linter.unusedSimpArgs false

/-- A scheduler, wherever its parts lie. -/
structure El where
  knd : Int
  rdE : Int
  wrE : Int
  vt : Int
  fl : List (Int × Int)
  bk : List Bk
  en : List Qu
  hd : Int
def Qu.qm (x : Qu) : QM := ⟨⟨x.u.bun, x.due, x.sta, x.tri⟩, x.u.ms⟩
/-! ### Add -/
def betw (knd : Int) (b : Bu) (y : Qu) : Bool := confU y.u b || (decide (knd = 3) && (y.u.ten == b.ten))
def goodQ (M B knd : Int) (b : Bu) (P : List Qu) (i : Nat) : Bool :=
  match P[i]? with
  | none => false
  | some a => canU M B a.u b != 0 && !((P.drop (i + 1)).any (betw knd b))
def partP (M B knd : Int) (b : Bu) (P : List Qu) : Option Nat := (List.range P.length).find? (goodQ M B knd b P)
def dueU (r x : Int) (b : Bu) : Int := clampI b.tim + clampI (if b.knd = 1 then r else x)
def addE (M B : Int) (E : El) (b : Bu) : El × Bool :=
  if okU b = true ∧ 0 ≤ b.ten ∧ b.ten < 4 then
    match partP M B E.knd b E.en with
    | some i => match E.en[i]? with
      | some a => if (growB E.vt E.fl b.ten b.cnt).2.2 then ({E with fl := (growB E.vt E.fl b.ten b.cnt).1, en := E.en.set i ⟨joinU a.u b (canU M B a.u b), min a.due (dueU E.rdE E.wrE b), a.sta, a.tri⟩}, true) else (E, false)
      | none => (E, false)
    | none => if (stampB E.vt E.fl b.ten b.cnt).2.2 then ({E with fl := (stampB E.vt E.fl b.ten b.cnt).1, en := E.en ++ [⟨b, dueU E.rdE E.wrE b, (stampB E.vt E.fl b.ten b.cnt).2.1, 0⟩]}, true) else (E, false)
  else (E, false)
theorem partP_some {M B knd : Int} {b : Bu} {P : List Qu} {i : Nat} (h : goodQ M B knd b P i = true) (hb : ∀ j < i, goodQ M B knd b P j = false) : partP M B knd b P = some i := by
  unfold partP
  rw [List.find?_range_eq_some]
  have : i < P.length := by
    unfold goodQ at h
    split at h
    · cases h
    · rename_i x hx; exact (List.getElem?_eq_some_iff.1 hx).1
  exact ⟨h, List.mem_range.2 this, fun j hj => by rw [hb j hj]; rfl⟩
theorem partP_none {M B knd : Int} {b : Bu} {P : List Qu} (hb : ∀ j < P.length, goodQ M B knd b P j = false) : partP M B knd b P = none := by
  unfold partP
  rw [List.find?_eq_none]
  intro j hj
  rw [hb j (List.mem_range.1 hj)]; simp
theorem goodQ_no {M B knd : Int} {b : Bu} {a : Qu} {P : List Qu} {i : Nat} (ha : P[i]? = some a) (h : canU M B a.u b = 0 ∨ ((P.drop (i + 1)).any (betw knd b)) = true) : goodQ M B knd b P i = false := by
  unfold goodQ
  simp only [ha]
  rcases h with h | h <;> simp [h]
theorem partP_find {M B knd : Int} {b : Bu} {P : List Qu} {i : Nat} (h : partP M B knd b P = some i) : ∃ a, P[i]? = some a ∧ canU M B a.u b ≠ 0 ∧ ((P.drop (i + 1)).any (betw knd b)) = false := by
  unfold partP at h
  have := List.find?_some h
  unfold goodQ at this
  split at this
  · cases this
  · rename_i a ha
    rw [Bool.and_eq_true] at this
    exact ⟨a, ha, by simpa using this.1, by simpa using this.2⟩

/-! ### Next -/
def bkZ : Bk := ⟨0, 0, 0, 0⟩
def bkAt (E : El) (t : Int) : Option Bk := if 0 ≤ t then E.bk[t.toNat]? else none
def payE (E : El) (b : Bu) (now : Int) : Bk × Bool :=
  match bkAt E b.ten with
  | some k => takeB k now (min b.cnt k.burst)
  | none => ((takeB bkZ now 0).1, false)
/-- Whether entry i waits for one ahead of it or for a busy bunch. -/
def blkQ (P : List Qu) (i : Nat) (busy : List Bu) : Bool :=
  match P[i]? with
  | none => true
  | some y => (P.take i).any (fun x => confU x.u y.u) || busy.any fun x => confU x y.u
def mayE (E : El) (now : Int) (busy : List Bu) : List Bool := (List.range E.en.length).map fun i => match E.en[i]? with
  | some y => (payE E y.u now).2 && !blkQ E.en i busy
  | none => false
def firstT : List Bool → Option Nat
  | [] => none
  | true :: _ => some 0
  | false :: l => (firstT l).map (· + 1)
def choE (E : El) (may : List Bool) (now : Int) : Option Nat :=
  if E.knd = 2 then pickD (E.en.map Qu.qm) may E.hd now E.en.length
  else if E.knd = 3 then pickN (E.en.map fun x => x.qm.q) may E.en.length
  else firstT may
def servV (V s : Int) : Int := if V < s ∧ s ≤ 1125899906842624 then s else V
def nextE (E : El) (now : Int) (busy : List Bu) : Option (El × Qu) :=
  match choE E (mayE E now busy) now with
  | some k => match E.en[k]? with
    | some x => some ({E with en := E.en.eraseIdx k, bk := E.bk.set x.u.ten.toNat (payE E x.u now).1, hd := x.u.sec + x.u.cnt, vt := servV E.vt x.sta}, x)
    | none => none
  | none => none
end Go.Proofs.YtpgjbocjhconoaaGreat

/- copies.Elevator. -/
namespace Go.Proofs.YtpgjbocjhconoaaGreat
open Go.RowKit Go.Maps
set_option linter.unusedSimpArgs false

def bkCells (b : Bk) : List Value := [.int .i64 b.rate, .int .i64 b.burst, .int .i64 b.level, .int .i64 b.last]
def bkc (l : List Bk) : List Value := l.flatMap bkCells
theorem bkCells_len (b : Bk) : (bkCells b).length = 4 := rfl
theorem bkc_len (l : List Bk) : (bkc l).length = l.length * 4 := flat_len bkCells_len l
theorem bkc_one (l : List Bk) : ∀ u ∈ bkc l, u.oneCell' = true := flat_one (f := bkCells) (fun b u hu => by
  simp only [bkCells, List.mem_cons, List.not_mem_nil, or_false] at hu
  rcases hu with rfl | rfl | rfl | rfl <;> rfl) l
theorem Tryz.infoBkt : (Tryz.prog.info? 54).map (fun i => (i.zero, i.size, i.bytes)) = some (some (.agg #[.int .i64 0, .int .i64 0, .int .i64 0, .int .i64 0]), 4, 32) := by kernel_rfl
set_option maxHeartbeats 2000000 in
theorem cloneBkt_any (cs : List Value) (n : Nat) (v : Value) (w : World) (h : Rd w v 4 n cs) (hone : ∀ u ∈ cs, u.oneCell' = true) (hn : n ≤ 1000) :
    Calls Tryz.prog 57 #[v] w fun e w' => ∃ v', e = .returned v' ∧ w'.ownsRow w.heap.size 54 4 v' n cs ∧ Bel w w' := by
  obtain ⟨hl, A, cp, rfl, hcp, hmx, hr⟩ := h
  have hone := Lib.hid hone
  have q22 : ∀ (w : World) (a : Option Addr) (n c n' c' : Nat), (binOp .eql 28 (.slice a n c) (.slice none n' c')).run Tryz.prog w = .ok (.bool a.isNone) w := fun w a n c n' c' => Lib.run_eql_slice_nil w _ _ a n c n' c' Tryz.underlying28
  obtain ⟨i0, hi, hz0, hz1, hz2⟩ := info_parts Tryz.infoBkt
  have HR := Lib.hid hr
  clear hr
  cases A with
  | none =>
    obtain rfl : n = 0 := by
      rcases Nat.eq_zero_or_pos n with h0 | h0
      · exact h0
      · obtain ⟨b, o, hA, _⟩ := HR.out h0; cases hA
    obtain rfl : cs = [] := by simpa using hl
    go_enter Tryz.func57, Tryz.ntmps57
    go_wp2
    go_ret
    exact ⟨_, rfl, ⟨by simp, Or.inl ⟨rfl, rfl⟩⟩, bI⟩
  | some p =>
    go_enter Tryz.func57, Tryz.ntmps57
    go_wp2_with (at_builtin; go_must (refine wpList_append_own_at _ rfl _ _ 28 rfl w.heap.size 54 i0 _ 4 32 Tryz.underlying28 hi hz0 hz1 hz2 rfl (by omega) _ 0 [] rfl (World.ownsRow_made w #[] 0 (Nat.le_refl _) (Nat.zero_le _) rfl) p n cp cs rfl hl ?q1 hone.out (by unfold maxLen; omega) (by omega) (by simp) ?_))
    case q1 =>
      intro j u hj
      have hjn := (List.getElem?_eq_some_iff.1 hj).1
      obtain ⟨b, o, hA, hlb, hcell⟩ := HR.out (by omega)
      cases hA
      rw [Addr.add_lit]
      refine Lib.cell?_alloc_some _ ?_
      exact hcell j u hj
    intro v' w3 hown hg _ _
    go_wp2
    go_ret
    exact ⟨v', rfl, by simpa using hown, bel_own ((Bel.refl _).alloc _) (World.ownsRow_made (base := w.heap.size) (e := 54) (size := 4) w #[] 0 (Nat.le_refl _) (Nat.zero_le _) rfl) hg (Nat.le_refl _)⟩

/-- The three rows of a scheduler of the call's own. -/
structure ElN (w : World) (base : Nat) (fl bu en : Value) (fs : List (Int × Int)) (bs : List Bk) (L : List QM) : Prop where
  flo : w.ownsRow base 101 2 fl fs.length (fcells fs)
  buo : w.ownsRow base 54 4 bu bs.length (bkc bs)
  eno : QN w base en L
  sFB : ∀ k, fl.ownBlock = some k → bu.ownBlock ≠ some k
  sFE : ∀ k, fl.ownBlock = some k → en.ownBlock ≠ some k
  sBE : ∀ k, bu.ownBlock = some k → en.ownBlock ≠ some k
  sFM : ∀ k, fl.ownBlock = some k → ∀ x ∈ L, 0 < x.ms.length → (Value.slice x.q.b.mA x.q.b.mL x.q.b.mC).ownBlock ≠ some k
  sBM : ∀ k, bu.ownBlock = some k → ∀ x ∈ L, 0 < x.ms.length → (Value.slice x.q.b.mA x.q.b.mL x.q.b.mC).ownBlock ≠ some k

theorem ElN.far {w : World} {base : Nat} {fl bu en : Value} {fs : List (Int × Int)} {bs : List Bk} {L : List QM} (h : ElN w base fl bu en fs bs L) {p : Addr} (hp : p.block < base) (u : Value) : ElN (w.setCell p u) base fl bu en fs bs L :=
  ⟨own_far h.flo (fun e => by have := (h.flo.lt _ e).1; omega) u, own_far h.buo (fun e => by have := (h.buo.lt _ e).1; omega) u, h.eno.far hp u, h.sFB, h.sFE, h.sBE, h.sFM, h.sBM⟩
theorem ElN.setRow : ∀ (vs : List Value) {w : World} {base : Nat} {fl bu en : Value} {fs : List (Int × Int)} {bs : List Bk} {L : List QM} {B i : Nat}, ElN w base fl bu en fs bs L → B < base → ElN (Proofs.YtpgjbocjhconoaaGreat.setRow w B i vs) base fl bu en fs bs L
  | [], _, _, _, _, _, _, _, _, _, _, h, _ => h
  | u :: vs, _, _, _, _, _, _, _, _, B, i, h, hB => ElN.setRow vs (h.far (p := ⟨B, i, none⟩) hB u) hB
theorem ElN.keep {w w' : World} {base : Nat} {fl bu en : Value} {fs : List (Int × Int)} {bs : List Bk} {L : List QM} (h : ElN w base fl bu en fs bs L) (hb : Bel w w') : ElN w' base fl bu en fs bs L :=
  ⟨own_keep h.flo hb, own_keep h.buo hb, h.eno.keep hb, h.sFB, h.sFE, h.sBE, h.sFM, h.sBM⟩
theorem ElN.mono {w : World} {base base' : Nat} {fl bu en : Value} {fs : List (Int × Int)} {bs : List Bk} {L : List QM} (h : ElN w base fl bu en fs bs L) (hb : base' ≤ base) : ElN w base' fl bu en fs bs L :=
  ⟨own_mono h.flo hb, own_mono h.buo hb, h.eno.mono hb, h.sFB, h.sFE, h.sBE, h.sFM, h.sBM⟩

set_option maxRecDepth 100000 in
set_option maxHeartbeats 8000000 in
theorem copyElev_any (knd rd wt V hd : Int) (fl bu en : Value) (fs : List (Int × Int)) (bs : List Bk) (L : List QM) (w : World) (hf : Rd w fl 2 fs.length (fcells fs)) (hb : Rd w bu 4 bs.length (bkc bs)) (he : QL w en L) (hfn : fs.length ≤ 1000) (hbn : bs.length ≤ 1000) (hn : L.length ≤ 100) (hms : ∀ x ∈ L, x.ms.length ≤ 1000) :
    Calls Tryz.prog 19 #[.agg #[.int .i64 knd, .int .i64 rd, .int .i64 wt, .int .i64 V, fl, bu, en, .int .i64 hd]] w fun e w' => ∃ fl' bu' en' L', e = .returned (.agg #[.int .i64 knd, .int .i64 rd, .int .i64 wt, .int .i64 V, fl', bu', en', .int .i64 hd]) ∧ ElN w' w.heap.size fl' bu' en' fs bs L' ∧ CpQ L L' ∧ Bel w w' := by
  have HF := Lib.hid (fun w' (h : Bel w w') => fairClone_any fs fl w' (hf.bel h) hfn)
  have HB := Lib.hid (fun w' (h : Bel w w') => cloneBkt_any (bkc bs) bs.length bu w' (hb.bel h) (bkc_one bs) hbn)
  have HE := Lib.hid (fun w' (h : Bel w w') => eachQ_any en L w' (he.bel h) hn hms)
  obtain ⟨Af, cf, rfl, _, _⟩ := hf.form
  obtain ⟨Ab, cb, rfl, _, _⟩ := hb.form
  obtain ⟨Ae, ce, rfl, _, _⟩ := he.form
  have hA := (AtF.new_at (w := w) rfl 31 [.int .i64 knd, .int .i64 rd, .int .i64 wt, .int .i64 V, .slice Af fs.length cf, .slice Ab bs.length cb, .slice Ae L.length ce, .int .i64 hd]).alloc (.cells [.int .i64 0, .int .i64 0, .int .i64 0, .int .i64 0, .slice none 0 0, .slice none 0 0, .slice none 0 0, .int .i64 0].toArray 31)
  have hR := AtF.new_at (w := w.alloc (.cells [.int .i64 knd, .int .i64 rd, .int .i64 wt, .int .i64 V, .slice Af fs.length cf, .slice Ab bs.length cb, .slice Ae L.length ce, .int .i64 hd].toArray 31)) (g := w.heap.size + 1) (by simp) 31 [.int .i64 0, .int .i64 0, .int .i64 0, .int .i64 0, .slice none 0 0, .slice none 0 0, .slice none 0 0, .int .i64 0]
  have hbw : Bel w ((w.alloc (.cells [.int .i64 knd, .int .i64 rd, .int .i64 wt, .int .i64 V, .slice Af fs.length cf, .slice Ab bs.length cb, .slice Ae L.length ce, .int .i64 hd].toArray 31)).alloc (.cells [.int .i64 0, .int .i64 0, .int .i64 0, .int .i64 0, .slice none 0 0, .slice none 0 0, .slice none 0 0, .int .i64 0].toArray 31)) := bI
  simp only [List.toArray] at hA hR hbw
  clear hf hb he
  go_enter Tryz.func19, Tryz.ntmps19
  go_upto_region 1 with fail
  generalize hW : (w.alloc (.cells #[.int .i64 knd, .int .i64 rd, .int .i64 wt, .int .i64 V, .slice Af fs.length cf, .slice Ab bs.length cb, .slice Ae L.length ce, .int .i64 hd] 31)).alloc (.cells #[.int .i64 0, .int .i64 0, .int .i64 0, .int .i64 0, .slice none 0 0, .slice none 0 0, .slice none 0 0, .int .i64 0] 31) = W at *
  have hWs : W.heap.size = w.heap.size + 2 := by rw [← hW]; simp
  clear hW
  have a4 := hA.1.2 4 _ rfl
  have a5 := hA.1.2 5 _ rfl
  have a6 := hA.1.2 6 _ rfl
  have r4 := fun d os => cell_regrown a4 d os
  have r5 := fun d os => cell_regrown a5 d os
  have r6 := fun d os => cell_regrown a6 d os
  refine wp_region_lex [3, 6, 9] 12 (by kernel_rfl) (by kernel_rfl) ?_
  simp only [List.take_succ_cons, List.take_zero, List.drop_succ_cons, List.drop_zero]
  with_reducible refine lex_seg 3 _ _ _ _ (by kernel_rfl) ?_
  simp only [List.take_succ_cons, List.take_zero, List.drop_succ_cons, List.drop_zero]
  try simp only [Act.put, List.setIfInBounds_toArray, List.set_cons_succ, List.set_cons_zero]
  repeat (go_big_quiet_step (fail))
  with_reducible refine wpQuiet_nil ?_
  refine lex_call 59 rfl rfl (by simp [go_sem]; rfl) ?_
  refine (HF.out _ bI).mono ?_; rintro e w1 ⟨fl', rfl, hfo, hb1⟩
  refine ⟨_, rfl, hb1, ?_⟩
  with_reducible refine lex_seg 2 _ _ _ _ (by kernel_rfl) ?_
  simp only [List.take_succ_cons, List.take_zero, List.drop_succ_cons, List.drop_zero]
  try simp only [Act.put, List.setIfInBounds_toArray, List.set_cons_succ, List.set_cons_zero]
  repeat (go_big_quiet_step (fail))
  with_reducible refine wpQuiet_nil ?_
  refine lex_call 57 rfl rfl (by simp [go_sem]; rfl) ?_
  refine (HB.out _ bI).mono ?_; rintro e w2 ⟨bu', rfl, hbo, hb2⟩
  refine ⟨_, rfl, hb2, ?_⟩
  with_reducible refine lex_seg 2 _ _ _ _ (by kernel_rfl) ?_
  simp only [List.take_succ_cons, List.take_zero, List.drop_succ_cons, List.drop_zero]
  try simp only [Act.put, List.setIfInBounds_toArray, List.set_cons_succ, List.set_cons_zero]
  repeat (go_big_quiet_step (fail))
  with_reducible refine wpQuiet_nil ?_
  refine lex_call 60 rfl rfl (by simp [go_sem]; rfl) ?_
  refine (HE.out _ bI).mono ?_; rintro e w3 ⟨en', L', rfl, heo, hcp, hb3⟩
  refine ⟨_, rfl, hb3, ?_⟩
  with_reducible refine lex_seg 2 _ _ _ _ (by kernel_rfl) ?_
  simp only [List.take_succ_cons, List.take_zero, List.drop_succ_cons, List.drop_zero]
  try simp only [Act.put, List.setIfInBounds_toArray, List.set_cons_succ, List.set_cons_zero]
  repeat (go_big_quiet_step (fail))
  with_reducible refine wpQuiet_nil ?_
  with_reducible refine lex_nil ?_
  clear r4 r5 r6 a4 a5 a6
  have hb13 := hb2.trans hb3
  have hb03 : Bel W w3 := (Bel.drew (Bel.refl W)).trans (hb1.trans hb13)
  have hbw3 := hbw.trans hb03
  have hs1 : w.heap.size + 2 ≤ W.drew.heap.size := by simp only [World.size_drew]; omega
  have hs2 := hb1.size
  have hs3 := hb2.size
  have HE1 : Hid (ElN w3 (w.heap.size + 2) fl' bu' en' fs bs L') := by
    have f1 := own_keep hfo hb13
    have f2 := own_keep hbo hb3
    refine ⟨own_mono f1 hs1, own_mono f2 (by omega), heo.mono (by omega), fun k h1 h2 => ?_, fun k h1 h2 => ?_, fun k h1 h2 => ?_, fun k h1 x hx h0 h2 => ?_, fun k h1 x hx h0 h2 => ?_⟩
    · have := (hfo.lt k h1).2; have := (f2.lt k h2).1; omega
    · have := (hfo.lt k h1).2; have := (heo.bo.own.lt k h2).1; omega
    · have := (hbo.lt k h1).2; have := (heo.bo.own.lt k h2).1; omega
    · have := (hfo.lt k h1).2; obtain ⟨j, hj⟩ := List.mem_iff_getElem?.1 hx; have := heo.fr j x (List.getElem?_eq_some_iff.1 hj).1 hj h0 k h2; omega
    · have := (hbo.lt k h1).2; obtain ⟨j, hj⟩ := List.mem_iff_getElem?.1 hx; have := heo.fr j x (List.getElem?_eq_some_iff.1 hj).1 hj h0 k h2; omega
  obtain ⟨A1, c1, rfl⟩ := own_slice hfo
  obtain ⟨A2, c2, rfl⟩ := own_slice hbo
  obtain ⟨A3, c3, hv3⟩ := own_slice heo.bo.own
  subst hv3
  generalize fs.length = n1 at *
  generalize bs.length = n2 at *
  generalize L'.length = n3 at *
  have hA3 := hA.bel hb03
  have hR3 := hR.bel hb03
  have a4 := hA3.1.2 4 _ rfl
  have a5 := hA3.1.2 5 _ rfl
  have a6 := hA3.1.2 6 _ rfl
  have af := hA3.2
  have al := hA3.1.1
  have hA4 := ((hA3.set 4 (by simp) (.slice A1 n1 c1)).set 5 (by simp) (.slice A2 n2 c2)).set 6 (by simp) (.slice A3 n3 c3)
  have hR4 := ((hR3.other (C := w.heap.size) (by omega) 4 (.slice A1 n1 c1)).other (C := w.heap.size) (by omega) 5 (.slice A2 n2 c2)).other (C := w.heap.size) (by omega) 6 (.slice A3 n3 c3)
  have hE4 := ((HE1.out.far (p := ⟨w.heap.size, 4, none⟩) (by show w.heap.size < _; omega) (.slice A1 n1 c1)).far (p := ⟨w.heap.size, 5, none⟩) (by show w.heap.size < _; omega) (.slice A2 n2 c2)).far (p := ⟨w.heap.size, 6, none⟩) (by show w.heap.size < _; omega) (.slice A3 n3 c3)
  have hb4 := ((hbw3.setNew (p := ⟨w.heap.size, 4, none⟩) (Nat.le_refl _) (.slice A1 n1 c1)).setNew (p := ⟨w.heap.size, 5, none⟩) (Nat.le_refl _) (.slice A2 n2 c2)).setNew (p := ⟨w.heap.size, 6, none⟩) (Nat.le_refl _) (.slice A3 n3 c3)
  have hi8 : (Tryz.prog.info? 31).map (·.size) = some 8 := by kernel_rfl
  have one8 : ∀ u ∈ ([.int .i64 knd, .int .i64 rd, .int .i64 wt, .int .i64 V, .slice A1 n1 c1, .slice A2 n2 c2, .slice A3 n3 c3, .int .i64 hd] : List Value), u.oneCell' = true := fun u hu => by
    simp only [List.mem_cons, List.not_mem_nil, or_false] at hu
    rcases hu with rfl | rfl | rfl | rfl | rfl | rfl | rfl | rfl <;> rfl
  simp only [List.set_cons_succ, List.set_cons_zero] at hA4
  clear hA3 hR3 hbw3 hb03 hb13 hb1 hb2 hb3 hfo hbo heo
  go_upto_region 2 with fail
  generalize (((w3.setCell ⟨w.heap.size, 4, none⟩ (.slice A1 n1 c1)).setCell ⟨w.heap.size, 5, none⟩ (.slice A2 n2 c2)).setCell ⟨w.heap.size, 6, none⟩ (.slice A3 n3 c3)) = W4 at *
  refine wp_region_lit ?_
  refine wpList_load_at rfl 31 (.tmp 1) rfl rfl hA4 _ Tryz.underlying31 rfl hi8 ?_
  refine wpList_store_at rfl 31 (.tmp 2) (.tmp 17) rfl rfl rfl hR4 rfl one8 hi8 ?_
  have hR9 := hR4.setRow [.int .i64 knd, .int .i64 rd, .int .i64 wt, .int .i64 V, .slice A1 n1 c1, .slice A2 n2 c2, .slice A3 n3 c3, .int .i64 hd] rfl
  have hE9 := (ElN.setRow (B := w.heap.size + 1) (i := 0) [.int .i64 knd, .int .i64 rd, .int .i64 wt, .int .i64 V, .slice A1 n1 c1, .slice A2 n2 c2, .slice A3 n3 c3, .int .i64 hd] hE4 (by omega)).mono (base' := w.heap.size) (by omega)
  have hb9 := Bel.setRow (B := w.heap.size + 1) (i := 0) [.int .i64 knd, .int .i64 rd, .int .i64 wt, .int .i64 V, .slice A1 n1 c1, .slice A2 n2 c2, .slice A3 n3 c3, .int .i64 hd] hb4 (by omega)
  have hlv := loadVar_at (P := Tryz.prog) 31 hR9 _ Tryz.underlying31 rfl hi8
  generalize setRow W4 (w.heap.size + 1) 0 [.int .i64 knd, .int .i64 rd, .int .i64 wt, .int .i64 V, .slice A1 n1 c1, .slice A2 n2 c2, .slice A3 n3 c3, .int .i64 hd] = W10 at *
  simp only [Act.put, Act.eval, List.setIfInBounds_toArray, List.set_cons_succ, List.set_cons_zero]
  refine wpList_nil ?_
  go_wp2
  exact bodyPost_ret (v := .agg #[.int .i64 knd, .int .i64 rd, .int .i64 wt, .int .i64 V, .slice A1 n1 c1, .slice A2 n2 c2, .slice A3 n3 c3, .int .i64 hd]) (by simp [results, Tryz.results19, hlv, asAddr]) rfl ⟨_, _, _, L', rfl, hE9, hcp, hb9⟩
end Go.Proofs.YtpgjbocjhconoaaGreat

/- elevator.tick, bucket, pay. -/
namespace Go.Proofs.YtpgjbocjhconoaaGreat
open Go.RowKit Go.Maps
set_option linter.unusedSimpArgs false

def tickE (n : Int) : Bool := decide (0 ≤ n ∧ n ≤ 1000000)
theorem elTick_any (n : Int) (w : World) : Calls Tryz.prog 50 #[.int .i64 n] w fun e w' => e = .returned (.bool (tickE n)) ∧ Bel w w' := by
  go_enter Tryz.func50, Tryz.ntmps50
  go_wp2
  all_goals
    go_ret
    exact ⟨ret_bool (by first | (simp [tickE, *]; done) | (simp [tickE, *]; omega) | (simp [tickE]; omega) | (rw [Bool.eq_iff_iff]; simp [tickE, *]; omega)), bI⟩

/-- The bucket of a bunch's tenant, its price. -/
def bktE (bs : List Bk) (t n : Int) : Bk × Int × Bool :=
  match (if 0 ≤ t then bs[t.toNat]? else none) with
  | some k => (k, min n k.burst, true)
  | none => (bkZ, 0, false)

set_option maxRecDepth 100000 in
set_option maxHeartbeats 8000000 in
theorem elBucket_any (knd rd wt V hd : Int) (fl bu en : Value) (bs : List Bk) (b : Bun) (w : World) (hb : Rd w bu 4 bs.length (bkc bs)) :
    Calls Tryz.prog 48 #[.agg #[.int .i64 knd, .int .i64 rd, .int .i64 wt, .int .i64 V, fl, bu, en, .int .i64 hd], .agg #[.int .i64 (b).id, .int .i64 (b).ten, .int .i64 (b).knd, .int .i64 (b).sec, .int .i64 (b).cnt, .string (b).dat, .bool (b).fua, .slice (b).mA (b).mL (b).mC, .int .i64 (b).tim]] w fun e w' => e = .returned (.tuple #[.agg (bkCells (bktE bs b.ten b.cnt).1).toArray, .int .i64 (bktE bs b.ten b.cnt).2.1, .bool (bktE bs b.ten b.cnt).2.2]) ∧ Bel w w' := by
  obtain ⟨Ab, cb, rfl, hc1, hc2⟩ := hb.form
  obtain ⟨i1, t1, k1, s1, n1, d1, f1, a1, l1, c1, m1⟩ := b
  simp only
  obtain ⟨n, Hn⟩ : ∃ n, Hid (n = bs.length) := ⟨_, rfl⟩
  have HBR := Lib.hid hb
  rw [← Hn.out] at HBR hc1 ⊢
  unfold maxLen at hc2
  have hA := ((AtF.new_at (w := w) rfl 31 [.int .i64 knd, .int .i64 rd, .int .i64 wt, .int .i64 V, fl, .slice Ab n cb, en, .int .i64 hd]).alloc (.cells [.int .i64 i1, .int .i64 t1, .int .i64 k1, .int .i64 s1, .int .i64 n1, .string d1, .bool f1, .slice a1 l1 c1, .int .i64 m1].toArray 44)).alloc (.cells [.int .i64 0, .int .i64 0, .int .i64 0, .int .i64 0].toArray 54)
  have hB := (AtF.new_at (w := w.alloc (.cells [.int .i64 knd, .int .i64 rd, .int .i64 wt, .int .i64 V, fl, .slice Ab n cb, en, .int .i64 hd].toArray 31)) (g := w.heap.size + 1) (by simp) 44 [.int .i64 i1, .int .i64 t1, .int .i64 k1, .int .i64 s1, .int .i64 n1, .string d1, .bool f1, .slice a1 l1 c1, .int .i64 m1]).alloc (.cells [.int .i64 0, .int .i64 0, .int .i64 0, .int .i64 0].toArray 54)
  have hR := AtF.new_at (w := (w.alloc (.cells [.int .i64 knd, .int .i64 rd, .int .i64 wt, .int .i64 V, fl, .slice Ab n cb, en, .int .i64 hd].toArray 31)).alloc (.cells [.int .i64 i1, .int .i64 t1, .int .i64 k1, .int .i64 s1, .int .i64 n1, .string d1, .bool f1, .slice a1 l1 c1, .int .i64 m1].toArray 44)) (g := w.heap.size + 2) (by simp) 54 [.int .i64 0, .int .i64 0, .int .i64 0, .int .i64 0]
  have hbw : Bel w (((w.alloc (.cells [.int .i64 knd, .int .i64 rd, .int .i64 wt, .int .i64 V, fl, .slice Ab n cb, en, .int .i64 hd].toArray 31)).alloc (.cells [.int .i64 i1, .int .i64 t1, .int .i64 k1, .int .i64 s1, .int .i64 n1, .string d1, .bool f1, .slice a1 l1 c1, .int .i64 m1].toArray 44)).alloc (.cells [.int .i64 0, .int .i64 0, .int .i64 0, .int .i64 0].toArray 54)) := bI
  simp only [List.toArray] at hA hB hR hbw
  have hi4 : (Tryz.prog.info? 54).map (·.size) = some 4 := by kernel_rfl
  clear hb
  by_cases hin : 0 ≤ t1 ∧ t1 < (n : Int)
  · obtain ⟨q, rfl⟩ : ∃ q : Nat, t1 = (q : Int) := ⟨t1.toNat, by omega⟩
    have hqn : q < n := by omega
    have hqi : (q : Int) < (n : Int) := by omega
    obtain ⟨⟨rr, ru, rl, rt⟩, hk⟩ : ∃ k, bs[q]? = some k := ⟨bs[q]'(by have := Hn.out; omega), List.getElem?_eq_getElem _⟩
    obtain ⟨mn, HMN⟩ : ∃ m, Hid (m = min n1 ru) := ⟨_, rfl⟩
    have hmin : (if ru < n1 then ru else n1) = mn := by rw [HMN.out]; split <;> omega
    have HRES : Hid (bktE bs (q : Int) n1 = (⟨rr, ru, rl, rt⟩, mn, true)) := by
      show _ = _
      unfold bktE
      rw [if_pos (by omega), Int.toNat_natCast, hk, HMN.out]
    obtain ⟨g, o, c', hv, hgl, hcell⟩ := HBR.out.at (by omega)
    injection hv with hv1 _ hv2
    subst hv1 hv2
    have hrow := row_at (l := bs) bkCells_len hcell hk
    have e0 := (hrow.bel hbw hgl).cell 0 rfl
    have e1 := (hrow.bel hbw hgl).cell 1 rfl
    have e2 := (hrow.bel hbw hgl).cell 2 rfl
    have e3 := (hrow.bel hbw hgl).cell 3 rfl
    rw [Nat.add_zero] at e0
    have hlt : decide ((q : Int) < 0) = false := by simp
    have hge : decide (n ≤ q) = false := by simp; omega
    have one4 : ∀ u ∈ ([.int .i64 rr, .int .i64 ru, .int .i64 rl, .int .i64 rt] : List Value), u.oneCell' = true := fun u hu => by
      simp only [List.mem_cons, List.not_mem_nil, or_false] at hu
      rcases hu with rfl | rfl | rfl | rfl <;> rfl
    clear hcell hrow hk
    go_enter Tryz.func48, Tryz.ntmps48
    have hX2 := AtF.new_at (w := (((w.alloc (.cells #[.int .i64 knd, .int .i64 rd, .int .i64 wt, .int .i64 V, fl, .slice (some ⟨g, o, none⟩) n cb, en, .int .i64 hd] 31)).alloc (.cells #[.int .i64 i1, .int .i64 (q : Int), .int .i64 k1, .int .i64 s1, .int .i64 n1, .string d1, .bool f1, .slice a1 l1 c1, .int .i64 m1] 44)).alloc (.cells #[.int .i64 0, .int .i64 0, .int .i64 0, .int .i64 0] 54))) (g := w.heap.size + 3) (by simp) 54 [.int .i64 rr, .int .i64 ru, .int .i64 rl, .int .i64 rt]
    have hB2 := hB.alloc (.cells [.int .i64 rr, .int .i64 ru, .int .i64 rl, .int .i64 rt].toArray 54)
    have hR2 := hR.alloc (.cells [.int .i64 rr, .int .i64 ru, .int .i64 rl, .int .i64 rt].toArray 54)
    have hbw2 := hbw.alloc (.cells [.int .i64 rr, .int .i64 ru, .int .i64 rl, .int .i64 rt].toArray 54)
    simp only [List.toArray] at hX2 hB2 hR2 hbw2
    go_upto_region 4 with fail
    clear e0 e1 e2 e3 hA hB hR hbw
    generalize (((w.alloc (.cells #[.int .i64 knd, .int .i64 rd, .int .i64 wt, .int .i64 V, fl, .slice (some ⟨g, o, none⟩) n cb, en, .int .i64 hd] 31)).alloc (.cells #[.int .i64 i1, .int .i64 (q : Int), .int .i64 k1, .int .i64 s1, .int .i64 n1, .string d1, .bool f1, .slice a1 l1 c1, .int .i64 m1] 44)).alloc (.cells #[.int .i64 0, .int .i64 0, .int .i64 0, .int .i64 0] 54)).alloc (.cells #[.int .i64 rr, .int .i64 ru, .int .i64 rl, .int .i64 rt] 54) = w2 at *
    let EBS : World → Prop := fun W' => AtF W' (w.heap.size + 1) [.int .i64 i1, .int .i64 (q : Int), .int .i64 k1, .int .i64 s1, .int .i64 n1, .string d1, .bool f1, .slice a1 l1 c1, .int .i64 m1] ∧ AtF W' (w.heap.size + 3) [.int .i64 rr, .int .i64 ru, .int .i64 rl, .int .i64 rt]
    haveI nnS : Nonempty (InS EBS) := ⟨⟨w2, hB2, hX2⟩⟩
    have ra4 := fun (p : InS EBS) => p.h.1.1.2 4 _ rfl
    have rb0 := fun (p : InS EBS) => p.h.2.1.2 0 _ rfl
    have rb1 := fun (p : InS EBS) => p.h.2.1.2 1 _ rfl
    have rb2 := fun (p : InS EBS) => p.h.2.1.2 2 _ rfl
    have rb3 := fun (p : InS EBS) => p.h.2.1.2 3 _ rfl
    refine wp_region_sts EBS [6] 7 (by kernel_rfl) (by kernel_rfl) ?hS0 ?_
    case hS0 => exact ⟨hB2.drew, hX2.drew⟩
    with_reducible refine st_sel [0, 1, 2, 3, 4, 5] (by kernel_rfl) (by kernel_rfl) ?_
    simp only [picked, List.getElem?_cons_succ, List.getElem?_cons_zero, Option.toList_some, List.nil_append, List.cons_append, List.append_nil]
    try simp only [Act.put, List.setIfInBounds_toArray, List.set_cons_succ, List.set_cons_zero]
    repeat (go_big_quiet_step (fail))
    with_reducible refine wpQuiet_nil ?_
    refine st_branch [6] (by kernel_rfl) (branch_cons (by simp only [List.getElem?_toArray, List.getElem?_cons_succ, List.getElem?_cons_zero]; rfl) ?_ branch_nil)
    refine eff_done_s (w' := setRow w2.drew (w.heap.size + 2) 0 [.int .i64 rr, .int .i64 ru, .int .i64 rl, .int .i64 rt]) rfl (exec_store_at (vs := [.int .i64 rr, .int .i64 ru, .int .i64 rl, .int .i64 rt]) 54 (.tmp 4) (.tmp 26) rfl rfl rfl hR2.drew rfl one4 hi4) ?hS1 ?_
    case hS1 => exact ⟨hB2.drew.setRow_other (B := w.heap.size + 2) (i := 0) _ (by omega), hX2.drew.setRow_other (B := w.heap.size + 2) (i := 0) _ (by omega)⟩
    try simp only [List.nil_append, List.cons_append, Act.put, List.setIfInBounds_toArray, List.set_cons_succ, List.set_cons_zero]
    refine st_end (by kernel_rfl) ?_
    simp only [List.drop_succ_cons, List.drop_zero, List.drop_nil]
    have hR9 := hR2.drew.setRow [.int .i64 rr, .int .i64 ru, .int .i64 rl, .int .i64 rt] rfl
    have hb9 : Bel w (setRow w2.drew (w.heap.size + 2) 0 [.int .i64 rr, .int .i64 ru, .int .i64 rl, .int .i64 rt]) := Bel.setRow _ hbw2.drew (by omega)
    have hlv := loadVar_at (P := Tryz.prog) 54 hR9 _ Tryz.underlying54 rfl hi4
    generalize setRow w2.drew (w.heap.size + 2) 0 [.int .i64 rr, .int .i64 ru, .int .i64 rl, .int .i64 rt] = W9 at *
    go_wp2
    exact bodyPost_ret (v := .tuple #[.agg #[.int .i64 rr, .int .i64 ru, .int .i64 rl, .int .i64 rt], .int .i64 mn, .bool true]) (by simp [results, Tryz.results48, hlv, asAddr]) rfl ⟨by rw [HRES.out]; rfl, hb9⟩
  · have HRES : Hid (bktE bs t1 n1 = (bkZ, 0, false)) := by
      show _ = _
      unfold bktE
      by_cases h0 : 0 ≤ t1
      · rw [if_pos h0, List.getElem?_eq_none (by have := Hn.out; omega)]
      · rw [if_neg h0]
    have r0 := hR.1.2 0 _ rfl
    have r1 := hR.1.2 1 _ rfl
    have r2 := hR.1.2 2 _ rfl
    have r3 := hR.1.2 3 _ rfl
    by_cases h0 : t1 < 0
    · go_enter Tryz.func48, Tryz.ntmps48
      go_wp2
      exact bodyPost_ret (v := .tuple #[.agg #[.int .i64 0, .int .i64 0, .int .i64 0, .int .i64 0], .int .i64 0, .bool false]) (by simp [results, Tryz.results48, go_sem, r0, r1, r2, r3]) rfl ⟨by rw [HRES.out]; rfl, hbw⟩
    · have hge : ((n : Int) ≤ t1) := by omega
      clear hin
      go_enter Tryz.func48, Tryz.ntmps48
      go_wp2
      exact bodyPost_ret (v := .tuple #[.agg #[.int .i64 0, .int .i64 0, .int .i64 0, .int .i64 0], .int .i64 0, .bool false]) (by simp [results, Tryz.results48, go_sem, r0, r1, r2, r3]) rfl ⟨by rw [HRES.out]; rfl, hbw⟩

def payB (bs : List Bk) (t n now : Int) : Bk × Bool := ((takeB (bktE bs t n).1 now (bktE bs t n).2.1).1, (bktE bs t n).2.2 && (takeB (bktE bs t n).1 now (bktE bs t n).2.1).2)

set_option maxRecDepth 100000 in
set_option maxHeartbeats 8000000 in
theorem elPay_any (knd rd wt V hd now : Int) (Af Ab Ae : Option Addr) (nf cf cb ne ce : Nat) (bs : List Bk) (b : Bun) (w : World) (hb : Rd w (.slice Ab bs.length cb) 4 bs.length (bkc bs)) :
    Calls Tryz.prog 37 #[.agg #[.int .i64 knd, .int .i64 rd, .int .i64 wt, .int .i64 V, .slice Af nf cf, .slice Ab bs.length cb, .slice Ae ne ce, .int .i64 hd], .agg #[.int .i64 (b).id, .int .i64 (b).ten, .int .i64 (b).knd, .int .i64 (b).sec, .int .i64 (b).cnt, .string (b).dat, .bool (b).fua, .slice (b).mA (b).mL (b).mC, .int .i64 (b).tim], .int .i64 now] w fun e w' => e = .returned (.tuple #[.agg (bkCells (payB bs b.ten b.cnt now).1).toArray, .bool (payB bs b.ten b.cnt now).2]) ∧ Bel w w' := by
  have HB := Lib.hid (fun w' (h : Bel w w') => elBucket_any knd rd wt V hd (.slice Af nf cf) (.slice Ab bs.length cb) (.slice Ae ne ce) bs b w' (hb.bel h))
  obtain ⟨i1, t1, k1, s1, n1, d1, f1, a1, l1, c1, m1⟩ := b
  simp only at HB ⊢
  obtain ⟨R, HR0⟩ : ∃ r, Hid (bktE bs t1 n1 = r) := ⟨_, rfl⟩
  obtain ⟨⟨rr, ru, rl, rt⟩, pr, ex⟩ := R
  have HPB : Hid (payB bs t1 n1 now = ((takeB ⟨rr, ru, rl, rt⟩ now pr).1, ex && (takeB ⟨rr, ru, rl, rt⟩ now pr).2)) := by show _ = _; unfold payB; rw [HR0.out]
  rw [HR0.out] at HB
  have HTK := Lib.hid (fun w' => tokTake_any rr ru rl rt now pr w')
  obtain ⟨TK, HTK0⟩ : ∃ r, Hid (takeB ⟨rr, ru, rl, rt⟩ now pr = r) := ⟨_, rfl⟩
  rw [HPB.out]
  rw [HTK0.out] at HTK ⊢
  obtain ⟨⟨qr, qu, ql, qt⟩, pd⟩ := TK
  simp only [bkCells, bv] at HB HTK ⊢
  obtain ⟨n, Hn⟩ : ∃ n, Hid (n = bs.length) := ⟨_, rfl⟩
  rw [← Hn.out] at HB ⊢
  clear hb HPB
  have hA := ((AtF.new_at (w := w) rfl 31 [.int .i64 knd, .int .i64 rd, .int .i64 wt, .int .i64 V, .slice Af nf cf, .slice Ab n cb, .slice Ae ne ce, .int .i64 hd]).alloc (.cells [.int .i64 i1, .int .i64 t1, .int .i64 k1, .int .i64 s1, .int .i64 n1, .string d1, .bool f1, .slice a1 l1 c1, .int .i64 m1].toArray 44)).alloc (.cells [.int .i64 0, .int .i64 0, .int .i64 0, .int .i64 0].toArray 54)
  have hB := (AtF.new_at (w := w.alloc (.cells [.int .i64 knd, .int .i64 rd, .int .i64 wt, .int .i64 V, .slice Af nf cf, .slice Ab n cb, .slice Ae ne ce, .int .i64 hd].toArray 31)) (g := w.heap.size + 1) (by simp) 44 [.int .i64 i1, .int .i64 t1, .int .i64 k1, .int .i64 s1, .int .i64 n1, .string d1, .bool f1, .slice a1 l1 c1, .int .i64 m1]).alloc (.cells [.int .i64 0, .int .i64 0, .int .i64 0, .int .i64 0].toArray 54)
  have hR := AtF.new_at (w := (w.alloc (.cells [.int .i64 knd, .int .i64 rd, .int .i64 wt, .int .i64 V, .slice Af nf cf, .slice Ab n cb, .slice Ae ne ce, .int .i64 hd].toArray 31)).alloc (.cells [.int .i64 i1, .int .i64 t1, .int .i64 k1, .int .i64 s1, .int .i64 n1, .string d1, .bool f1, .slice a1 l1 c1, .int .i64 m1].toArray 44)) (g := w.heap.size + 2) (by simp) 54 [.int .i64 0, .int .i64 0, .int .i64 0, .int .i64 0]
  have hbw : Bel w (((w.alloc (.cells [.int .i64 knd, .int .i64 rd, .int .i64 wt, .int .i64 V, .slice Af nf cf, .slice Ab n cb, .slice Ae ne ce, .int .i64 hd].toArray 31)).alloc (.cells [.int .i64 i1, .int .i64 t1, .int .i64 k1, .int .i64 s1, .int .i64 n1, .string d1, .bool f1, .slice a1 l1 c1, .int .i64 m1].toArray 44)).alloc (.cells [.int .i64 0, .int .i64 0, .int .i64 0, .int .i64 0].toArray 54)) := bI
  simp only [List.toArray] at hA hB hR hbw
  go_enter Tryz.func37, Tryz.ntmps37
  go_wp2_with fail
  refine (HB.out _ hbw).mono ?_; rintro e w1 ⟨rfl, hb1⟩
  have hX := AtF.new_at (w := w1) rfl 54 [.int .i64 rr, .int .i64 ru, .int .i64 rl, .int .i64 rt]
  have hR1 := (hR.bel hb1).alloc (.cells [.int .i64 rr, .int .i64 ru, .int .i64 rl, .int .i64 rt].toArray 54)
  have hb2 := (hbw.trans hb1).alloc (.cells [.int .i64 rr, .int .i64 ru, .int .i64 rl, .int .i64 rt].toArray 54)
  have hRX : w.heap.size + 2 < w1.heap.size := (hR.bel hb1).1.1
  simp only [List.toArray] at hX hR1 hb2
  clear hA hB hR hbw hb1
  go_wp2_with fail
  refine (HTK.out _).mono ?_; rintro e w3 ⟨rfl, hb3⟩
  have hX3 := hX.bel hb3
  have hR3 := hR1.bel hb3
  have hb33 := hb2.trans hb3
  generalize w1.heap.size = X at *
  have x0 := hX3.1.2 0 _ rfl
  have x1 := hX3.1.2 1 _ rfl
  have x2 := hX3.1.2 2 _ rfl
  have x3 := hX3.1.2 3 _ rfl
  have xf := hX3.2
  have xl := hX3.1.1
  have r0 := hR3.1.2 0 _ rfl
  have r1 := hR3.1.2 1 _ rfl
  have r2 := hR3.1.2 2 _ rfl
  have r3 := hR3.1.2 3 _ rfl
  have rf := hR3.2
  have rl' := hR3.1.1
  have hX4 := hX3.setRow [.int .i64 qr, .int .i64 qu, .int .i64 ql, .int .i64 qt] rfl
  have hR4 := (hR3.setRow_other (B := X) (i := 0) [.int .i64 qr, .int .i64 qu, .int .i64 ql, .int .i64 qt] (by omega)).setRow [.int .i64 qr, .int .i64 qu, .int .i64 ql, .int .i64 qt] rfl
  have hb4 := Bel.setRow (B := w.heap.size + 2) (i := 0) [.int .i64 qr, .int .i64 qu, .int .i64 ql, .int .i64 qt] (Bel.setRow (B := X) (i := 0) [.int .i64 qr, .int .i64 qu, .int .i64 ql, .int .i64 qt] hb33 (by omega)) (by omega)
  have s0 := hR4.1.2 0 _ rfl
  have s1' := hR4.1.2 1 _ rfl
  have s2 := hR4.1.2 2 _ rfl
  have s3 := hR4.1.2 3 _ rfl
  clear hX hR1 hb2 hX3 hR3 hb33 hX4 hR4
  cases ex
  all_goals
    go_wp2
    exact bodyPost_ret (v := .tuple #[.agg #[.int .i64 qr, .int .i64 qu, .int .i64 ql, .int .i64 qt], .bool _]) (by simp only [setRow] at s0 s1' s2 s3; simp [results, Tryz.results37, go_sem, s0, s1', s2, s3]; try rfl) rfl ⟨rfl, hb4⟩
end Go.Proofs.YtpgjbocjhconoaaGreat

/- slices.Index over bools; elevator.choose. -/
namespace Go.Proofs.YtpgjbocjhconoaaGreat
open Go.RowKit Go.Maps
set_option linter.unusedSimpArgs false

def firstI (l : List Bool) : Int := match firstT l with
  | some k => (k : Int)
  | none => -1
theorem firstT_hit {l : List Bool} {i : Nat} (hi : l[i]? = some true) (hb : ∀ j < i, l[j]? = some false) : firstT l = some i := by
  induction l generalizing i with
  | nil => cases hi
  | cons x l ih =>
    cases i with
    | zero =>
      obtain rfl : x = true := by simpa using hi
      rfl
    | succ i =>
      obtain rfl : x = false := by have := hb 0 (by omega); simpa using this
      have := ih (i := i) (by simpa using hi) (fun j hj => by have := hb (j + 1) (by omega); simpa using this)
      show (firstT l).map (· + 1) = _
      rw [this]; rfl
theorem firstT_miss {l : List Bool} (hb : ∀ j < l.length, l[j]? = some false) : firstT l = none := by
  induction l with
  | nil => rfl
  | cons x l ih =>
    obtain rfl : x = false := by have := hb 0 (by simp); simpa using this
    have := ih (fun j hj => by have := hb (j + 1) (by simpa using hj); simpa using this)
    show (firstT l).map (· + 1) = _
    rw [this]; rfl

set_option maxRecDepth 100000 in
set_option maxHeartbeats 4000000 in
theorem indexB_any (l : List Bool) (v : Value) (w : World) (h : Rd w v 1 l.length (bcells l)) :
    Calls Tryz.prog 79 #[v, .bool true] w fun e w' => e = .returned (.int .i64 (firstI l)) ∧ Bel w w' := by
  obtain ⟨A, c, rfl, hc1, hc2⟩ := h.form
  unfold maxLen at hc2
  have HR := Lib.hid h
  obtain ⟨n, Hn⟩ : ∃ n, Hid (n = l.length) := ⟨_, rfl⟩
  rw [← Hn.out] at HR hc1 ⊢
  obtain ⟨V, HV⟩ : ∃ V, Hid (firstI l = V) := ⟨_, rfl⟩
  rw [HV.out]
  clear h
  go_enter Tryz.func79, Tryz.ntmps79
  go_wp2
  go_loopw [8] (fun iv wr => ∃ i : Nat, iv = .int .i64 i ∧ i ≤ n ∧ Hid (∀ j < i, l[j]? = some false) ∧ Bel w wr) (fun iv _ => n - (intOf iv).toNat)
  case atStart => exact ⟨0, rfl, by omega, fun j h => absurd h (by omega), Bel.refl _⟩
  case round =>
    obtain ⟨i, rfl, p1, HN, hbr⟩ := hrel
    by_cases hlt : i < n
    · have hin : (i : Int) < (n : Int) := by omega
      obtain ⟨x, hx⟩ : ∃ x, l[i]? = some x := ⟨l[i]'(by have := Hn.out; omega), List.getElem?_eq_getElem _⟩
      obtain ⟨b, o, c', hv, hlb, hcell⟩ := HR.out.at (by omega)
      injection hv with hv1 _ hv2
      subst hv1 hv2
      have e0 : wr.cell? ⟨b, o + i, none⟩ = some (.bool x) := by rw [hbr.cellAt b _ hlb]; exact hcell i _ (bcells_at hx)
      have HX := Lib.hid hx
      clear hcell hx
      cases x
      · have HS : Hid (∀ j < i + 1, l[j]? = some false) := fun j hj => by
          by_cases h : j < i
          · exact HN.out j h
          · obtain rfl : j = i := by omega
            exact HX.out
        go_wp2
        go_roundw
        case rel => exact ⟨i + 1, by go_num, by omega, HS, hbr⟩
        case measure => simp [intOf]; omega
      · have HS : Hid (V = (i : Int)) := by show _ = _; rw [← HV.out]; unfold firstI; rw [firstT_hit HX.out HN.out]
        go_wp2
        go_ret
        exact ⟨ret_int HS.out.symm, hbr⟩
    · obtain rfl : i = n := by omega
      have jk : decide ((i : Int) < (i : Int)) = false := by simp
      have HS : Hid (V = -1) := by show _ = _; rw [← HV.out]; unfold firstI; rw [firstT_miss (fun j hj => HN.out j (by rw [Hn.out]; exact hj))]
      go_wp2
      go_ret
      exact ⟨ret_int HS.out.symm, hbr⟩

def choL (knd : Int) (L : List QM) (may : List Bool) (head now : Int) : Option Nat :=
  if knd = 2 then pickD L may head now L.length else if knd = 3 then pickN (L.map QM.q) may L.length else firstT may

set_option maxRecDepth 100000 in
set_option maxHeartbeats 4000000 in
theorem elChoose_any (knd rd wt V hd now : Int) (fl bu en : Value) (L : List QM) (may : List Bool) (mv : Value) (w : World) (he : QL w en L) (hm : Rd w mv 1 may.length (bcells may)) (hL : L.length ≤ 1000) :
    Calls Tryz.prog 39 #[.agg #[.int .i64 knd, .int .i64 rd, .int .i64 wt, .int .i64 V, fl, bu, en, .int .i64 hd], mv, .int .i64 now] w fun e w' => ∃ i : Int, e = .returned (.tuple #[.int .i64 i, .bool (choL knd L may hd now).isSome]) ∧ (∀ k, choL knd L may hd now = some k → i = (k : Int)) ∧ Bel w w' := by
  have HD := Lib.hid (fun w' (h : Bel w w') => dlPickAll_any L may hd now en mv w' (he.bel h) (hm.bel h) hL)
  have HF := Lib.hid (fun w' (h : Bel w w') => fairPick_any (L.map QM.q) may en mv w' (by rw [List.length_map]; exact (he.bel h).rd) (hm.bel h))
  have HI := Lib.hid (fun w' (h : Bel w w') => indexB_any may mv w' (hm.bel h))
  rw [List.length_map] at HF
  obtain ⟨C, HC⟩ : ∃ C, Hid (choL knd L may hd now = C) := ⟨_, rfl⟩
  rw [HC.out]
  have hA := AtF.new_at (w := w) rfl 31 [.int .i64 knd, .int .i64 rd, .int .i64 wt, .int .i64 V, fl, bu, en, .int .i64 hd]
  have hbw : Bel w (w.alloc (.cells [.int .i64 knd, .int .i64 rd, .int .i64 wt, .int .i64 V, fl, bu, en, .int .i64 hd].toArray 31)) := bI
  obtain ⟨Ae, ce, rfl, _, _⟩ := he.form
  simp only [List.toArray] at hA hbw
  clear he hm
  by_cases h2 : knd = 2
  · subst h2
    have HC2 : Hid (C = pickD L may hd now L.length) := by show _ = _; rw [← HC.out]; rfl
    rw [← HC2.out] at HD
    go_enter Tryz.func39, Tryz.ntmps39
    go_wp2_with fail
    refine (HD.out _ hbw).mono ?_; rintro e w1 ⟨rfl, hb1⟩
    go_wp2
    exact bodyPost_ret (v := .tuple #[.int .i64 ((C.getD 0 : Nat) : Int), .bool C.isSome]) (by simp [results, Tryz.results39, go_sem]) rfl ⟨_, rfl, fun k hk => by rw [hk]; rfl, hbw.trans hb1⟩
  · have e2 : (knd == 2) = false := by simp [h2]
    by_cases h3 : knd = 3
    · subst h3
      have HC2 : Hid (C = pickN (L.map QM.q) may L.length) := by show _ = _; rw [← HC.out]; rfl
      rw [← HC2.out] at HF
      clear h2
      go_enter Tryz.func39, Tryz.ntmps39
      go_wp2_with fail
      refine (HF.out _ hbw).mono ?_; rintro e w1 ⟨rfl, hb1⟩
      go_wp2
      exact bodyPost_ret (v := .tuple #[.int .i64 ((C.getD 0 : Nat) : Int), .bool C.isSome]) (by simp [results, Tryz.results39, go_sem]) rfl ⟨_, rfl, fun k hk => by rw [hk]; rfl, hbw.trans hb1⟩
    · have e3 : (knd == 3) = false := by simp [h3]
      have HC2 : Hid (C = firstT may) := by show _ = _; rw [← HC.out]; unfold choL; rw [if_neg h2, if_neg h3]
      obtain ⟨fi, HFI⟩ : ∃ f, Hid (firstI may = f) := ⟨_, rfl⟩
      have HGE : Hid (decide (0 ≤ fi) = C.isSome ∧ ∀ k, C = some k → fi = (k : Int)) := by
        show _ ∧ _
        rw [← HFI.out, HC2.out]
        unfold firstI
        cases firstT may with
        | none => exact ⟨rfl, fun k hk => by cases hk⟩
        | some k => exact ⟨by simp, fun k' hk => by cases hk; rfl⟩
      rw [HFI.out] at HI
      clear h2 h3
      go_enter Tryz.func39, Tryz.ntmps39
      go_wp2_with fail
      refine (HI.out _ hbw).mono ?_; rintro e w1 ⟨rfl, hb1⟩
      go_wp2
      exact bodyPost_ret (v := .tuple #[.int .i64 fi, .bool (decide (0 ≤ fi))]) (by simp [results, Tryz.results39, go_sem]) rfl ⟨_, by rw [HGE.out.1], HGE.out.2, hbw.trans hb1⟩
end Go.Proofs.YtpgjbocjhconoaaGreat

/- slices.ContainsFunc over entries and over buckets; the closures of the elevator. -/
namespace Go.Proofs.YtpgjbocjhconoaaGreat
open Go.RowKit Go.Maps
set_option linter.unusedSimpArgs false

set_option maxHeartbeats 4000000 in
theorem indexQue_any (L : List QM) (v : Value) (g : Nat) (lb : Array Value) (p : QM → Bool) (w : World) (h : QL w v L)
    (eg : ∀ args w, (callFunc g args).run Tryz.prog w = .ok (.enter g args) w)
    (hg : ∀ W x, Bel w W → x ∈ L → Calls Tryz.prog g (#[.agg #[.int .i64 (x.q).b.id, .int .i64 (x.q).b.ten, .int .i64 (x.q).b.knd, .int .i64 (x.q).b.sec, .int .i64 (x.q).b.cnt, .string (x.q).b.dat, .bool (x.q).b.fua, .slice (x.q).b.mA (x.q).b.mL (x.q).b.mC, .int .i64 (x.q).b.tim, .int .i64 (x.q).due, .int .i64 (x.q).sta, .int .i64 (x.q).tri]] ++ lb) W fun e w' => e = .returned (.bool (p x)) ∧ Bel W w') :
    Calls Tryz.prog 92 #[v, .func (.func g) #[] lb] w fun e w' => e = .returned (.int .i64 (idxB p L)) ∧ Bel w w' := by
  obtain ⟨A, c, rfl, hc1, hc2⟩ := h.form
  unfold maxLen at hc2
  have HAT := Lib.hid (fun k m (hk : L[k]? = some m) => h.at hk)
  have HG := Lib.hid hg
  obtain ⟨n, Hn⟩ : ∃ n, Hid (n = L.length) := ⟨_, rfl⟩
  obtain ⟨R, HR⟩ : ∃ R, Hid (R = idxB p L) := ⟨_, rfl⟩
  rw [← HR.out]
  rw [← Hn.out] at hc1 ⊢
  clear h hg
  go_enter Tryz.func92, Tryz.ntmps92
  go_wp2
  go_loopw [8] (fun iv wr => ∃ i : Nat, iv = .int .i64 i ∧ i ≤ n ∧ Hid ((L.take i).any p = false) ∧ Bel w wr) (fun iv _ => n - (intOf iv).toNat)
  case atStart => exact ⟨0, rfl, by omega, by simp [Hid], Bel.refl _⟩
  case round =>
    obtain ⟨i, rfl, p1, HA, hbr⟩ := hrel
    by_cases hlt : i < n
    · have i1 : (i : Int) < (n : Int) := by omega
      obtain ⟨x, hx⟩ : ∃ x, L[i]? = some x := ⟨L[i]'(by have := Hn.out; omega), List.getElem?_eq_getElem _⟩
      obtain ⟨b, o, c2, hat⟩ := HAT.out i x hx
      have hf := hat.form
      injection hf with hf1 hf2 hf3
      subst hf1
      have hlb := hat.lt
      have hrow := hat.row.bel hbr hlb
      have d0 := (hrow).cell 0 rfl
      have d1 := (hrow).cell 1 rfl
      have d2 := (hrow).cell 2 rfl
      have d3 := (hrow).cell 3 rfl
      have d4 := (hrow).cell 4 rfl
      have d5 := (hrow).cell 5 rfl
      have d6 := (hrow).cell 6 rfl
      have d7 := (hrow).cell 7 rfl
      have d8 := (hrow).cell 8 rfl
      have d9 := (hrow).cell 9 rfl
      have d10 := (hrow).cell 10 rfl
      have d11 := (hrow).cell 11 rfl
      rw [Nat.add_zero] at d0
      have HX := Lib.hid hx
      have HS := Lib.hid (any_take_succ' (p := p) hx)
      have hmem := List.mem_of_getElem? hx
      clear hx hrow hat hf2 hf3
      go_wp2_with fail
      refine (HG.out _ x hbr hmem).mono ?_; rintro e w1 ⟨rfl, hb1⟩
      cases hp : p x
      · have HA2 : Hid ((L.take (i + 1)).any p = false) := by show _ = _; rw [HS.out, HA.out, hp]; rfl
        clear hp
        go_wp2
        go_roundw
        case rel => exact ⟨i + 1, by go_num, by omega, HA2, hbr.trans hb1⟩
        case measure => simp [intOf]; omega
      · have HF : Hid (R = (i : Int)) := by show _ = _; rw [HR.out]; exact idxB_at HX.out hp HA.out
        clear hp
        go_wp2
        go_ret
        exact ⟨ret_int HF.out.symm, hbr.trans hb1⟩
    · obtain rfl : i = n := by omega
      have i1 : decide ((i : Int) < (i : Int)) = false := by simp
      have HF : Hid (R = -1) := by
        show _ = _
        rw [HR.out]
        exact idxB_no (by rw [← HA.out, List.take_of_length_le (by have := Hn.out; omega)])
      go_wp2
      go_ret
      exact ⟨ret_int HF.out.symm, hbr⟩

set_option maxHeartbeats 2000000 in
theorem containsQue_any (L : List QM) (v : Value) (g : Nat) (lb : Array Value) (p : QM → Bool) (w : World) (h : QL w v L)
    (eg : ∀ args w, (callFunc g args).run Tryz.prog w = .ok (.enter g args) w)
    (hg : ∀ W x, Bel w W → x ∈ L → Calls Tryz.prog g (#[.agg #[.int .i64 (x.q).b.id, .int .i64 (x.q).b.ten, .int .i64 (x.q).b.knd, .int .i64 (x.q).b.sec, .int .i64 (x.q).b.cnt, .string (x.q).b.dat, .bool (x.q).b.fua, .slice (x.q).b.mA (x.q).b.mL (x.q).b.mC, .int .i64 (x.q).b.tim, .int .i64 (x.q).due, .int .i64 (x.q).sta, .int .i64 (x.q).tri]] ++ lb) W fun e w' => e = .returned (.bool (p x)) ∧ Bel W w') :
    Calls Tryz.prog 66 #[v, .func (.func g) #[] lb] w fun e w' => e = .returned (.bool (L.any p)) ∧ Bel w w' := by
  have HI := Lib.hid (indexQue_any L v g lb p w h eg hg)
  have HV := Lib.hid (idxB_any p L)
  generalize idxB p L = k at *
  generalize L.any p = bb at *
  obtain ⟨A, c, rfl, _, _⟩ := h.form
  clear h hg eg
  go_enter Tryz.func66, Tryz.ntmps66
  go_wp2_with fail
  refine HI.out.mono ?_; rintro e w1 ⟨rfl, hb1⟩
  go_wp2
  go_ret
  exact ⟨ret_bool HV.out, hb1⟩

set_option maxHeartbeats 4000000 in
theorem indexBkt_any (L : List Bk) (v : Value) (g : Nat) (lb : Array Value) (p : Bk → Bool) (w : World) (h : Rd w v 4 L.length (bkc L))
    (eg : ∀ args w, (callFunc g args).run Tryz.prog w = .ok (.enter g args) w)
    (hg : ∀ W x, Bel w W → x ∈ L → Calls Tryz.prog g (#[.agg (bkCells x).toArray] ++ lb) W fun e w' => e = .returned (.bool (p x)) ∧ Bel W w') :
    Calls Tryz.prog 88 #[v, .func (.func g) #[] lb] w fun e w' => e = .returned (.int .i64 (idxB p L)) ∧ Bel w w' := by
  obtain ⟨A, c, rfl, hc1, hc2⟩ := h.form
  unfold maxLen at hc2
  have HAT := Lib.hid h
  have HG := Lib.hid hg
  obtain ⟨n, Hn⟩ : ∃ n, Hid (n = L.length) := ⟨_, rfl⟩
  obtain ⟨R, HR⟩ : ∃ R, Hid (R = idxB p L) := ⟨_, rfl⟩
  rw [← HR.out]
  rw [← Hn.out] at hc1 ⊢
  clear h hg
  go_enter Tryz.func88, Tryz.ntmps88
  go_wp2
  go_loopw [8] (fun iv wr => ∃ i : Nat, iv = .int .i64 i ∧ i ≤ n ∧ Hid ((L.take i).any p = false) ∧ Bel w wr) (fun iv _ => n - (intOf iv).toNat)
  case atStart => exact ⟨0, rfl, by omega, by simp [Hid], Bel.refl _⟩
  case round =>
    obtain ⟨i, rfl, p1, HA, hbr⟩ := hrel
    by_cases hlt : i < n
    · have i1 : (i : Int) < (n : Int) := by omega
      obtain ⟨x, hx⟩ : ∃ x, L[i]? = some x := ⟨L[i]'(by have := Hn.out; omega), List.getElem?_eq_getElem _⟩
      obtain ⟨b, o, c2, hv, hlb, hcell⟩ := HAT.out.at (by have := Hn.out; omega)
      injection hv with hv1 _ hv2
      subst hv1 hv2
      have hrow := (row_at (l := L) bkCells_len hcell hx).bel hbr hlb
      have d0 := hrow.cell 0 rfl
      have d1 := hrow.cell 1 rfl
      have d2 := hrow.cell 2 rfl
      have d3 := hrow.cell 3 rfl
      rw [Nat.add_zero] at d0
      have HX := Lib.hid hx
      have HS := Lib.hid (any_take_succ' (p := p) hx)
      have hmem := List.mem_of_getElem? hx
      clear hx hrow hcell
      simp only [bkCells] at HG
      go_wp2_with fail
      refine (HG.out _ x hbr hmem).mono ?_; rintro e w1 ⟨rfl, hb1⟩
      cases hp : p x
      · have HA2 : Hid ((L.take (i + 1)).any p = false) := by show _ = _; rw [HS.out, HA.out, hp]; rfl
        clear hp
        go_wp2
        go_roundw
        case rel => exact ⟨i + 1, by go_num, by omega, HA2, hbr.trans hb1⟩
        case measure => simp [intOf]; omega
      · have HF : Hid (R = (i : Int)) := by show _ = _; rw [HR.out]; exact idxB_at HX.out hp HA.out
        clear hp
        go_wp2
        go_ret
        exact ⟨ret_int HF.out.symm, hbr.trans hb1⟩
    · obtain rfl : i = n := by omega
      have i1 : decide ((i : Int) < (i : Int)) = false := by simp
      have HF : Hid (R = -1) := by
        show _ = _
        rw [HR.out]
        exact idxB_no (by rw [← HA.out, List.take_of_length_le (by have := Hn.out; omega)])
      go_wp2
      go_ret
      exact ⟨ret_int HF.out.symm, hbr⟩

set_option maxHeartbeats 2000000 in
theorem containsBkt_any (L : List Bk) (v : Value) (g : Nat) (lb : Array Value) (p : Bk → Bool) (w : World) (h : Rd w v 4 L.length (bkc L))
    (eg : ∀ args w, (callFunc g args).run Tryz.prog w = .ok (.enter g args) w)
    (hg : ∀ W x, Bel w W → x ∈ L → Calls Tryz.prog g (#[.agg (bkCells x).toArray] ++ lb) W fun e w' => e = .returned (.bool (p x)) ∧ Bel W w') :
    Calls Tryz.prog 54 #[v, .func (.func g) #[] lb] w fun e w' => e = .returned (.bool (L.any p)) ∧ Bel w w' := by
  have HI := Lib.hid (indexBkt_any L v g lb p w h eg hg)
  have HV := Lib.hid (idxB_any p L)
  generalize idxB p L = k at *
  generalize L.any p = bb at *
  obtain ⟨A, c, rfl, _, _⟩ := h.form
  clear h hg eg
  go_enter Tryz.func54, Tryz.ntmps54
  go_wp2_with fail
  refine HI.out.mono ?_; rintro e w1 ⟨rfl, hb1⟩
  go_wp2
  go_ret
  exact ⟨ret_bool HV.out, hb1⟩

/-- Whether an entry stands between. -/
def betQ (knd : Int) (y : BM) (x : QM) : Bool := confB x.bm y || (decide (knd = 3) && (x.q.b.ten == y.b.ten))
set_option maxRecDepth 100000 in
set_option maxHeartbeats 4000000 in
theorem between_any (x : QM) (y : BM) (knd rd wt V hd : Int) (fl bu en : Value) (B E : Nat) (w : World) (hx : Mems w x.q.b x.ms) (hy : Mems w y.b y.ms) (hB : AtF w B [.int .i64 (y.b).id, .int .i64 (y.b).ten, .int .i64 (y.b).knd, .int .i64 (y.b).sec, .int .i64 (y.b).cnt, .string (y.b).dat, .bool (y.b).fua, .slice (y.b).mA (y.b).mL (y.b).mC, .int .i64 (y.b).tim]) (hE : AtF w E [.int .i64 knd, .int .i64 rd, .int .i64 wt, .int .i64 V, fl, bu, en, .int .i64 hd]) :
    Calls Tryz.prog 63 #[.agg #[.int .i64 (x.q).b.id, .int .i64 (x.q).b.ten, .int .i64 (x.q).b.knd, .int .i64 (x.q).b.sec, .int .i64 (x.q).b.cnt, .string (x.q).b.dat, .bool (x.q).b.fua, .slice (x.q).b.mA (x.q).b.mL (x.q).b.mC, .int .i64 (x.q).b.tim, .int .i64 (x.q).due, .int .i64 (x.q).sta, .int .i64 (x.q).tri], .pointer (some ⟨B, 0, none⟩), .pointer (some ⟨E, 0, none⟩)] w fun e w' => e = .returned (.bool (betQ knd y x)) ∧ Bel w w' := by
  have HC := Lib.hid (fun w' (h : Bel w w') => conflict_any x.bm y w' (hx.bel h) (hy.bel h))
  obtain ⟨r, Hr⟩ : ∃ r, Hid (r = confB x.bm y) := ⟨_, rfl⟩
  have HBQ : Hid (betQ knd y x = (r || (decide (knd = 3) && (x.q.b.ten == y.b.ten)))) := by show _ = _; unfold betQ; rw [Hr.out]
  rw [HBQ.out]
  rw [← Hr.out] at HC
  obtain ⟨⟨⟨i1, t1, k1, s1, n1, d1, f1, a1, l1, c1, m1⟩, du, st, tr⟩, ms1⟩ := x
  obtain ⟨⟨i2, t2, k2, s2, n2, d2, f2, a2, l2, c2, m2⟩, ms2⟩ := y
  simp only [QM.bm] at HC hB ⊢
  have b0 := (hB).1.2 0 _ rfl
  have b1 := (hB).1.2 1 _ rfl
  have b2 := (hB).1.2 2 _ rfl
  have b3 := (hB).1.2 3 _ rfl
  have b4 := (hB).1.2 4 _ rfl
  have b5 := (hB).1.2 5 _ rfl
  have b6 := (hB).1.2 6 _ rfl
  have b7 := (hB).1.2 7 _ rfl
  have b8 := (hB).1.2 8 _ rfl
  have hl := hB.1.1
  have hX := AtF.new_at (w := w) rfl 67 [.int .i64 i1, .int .i64 t1, .int .i64 k1, .int .i64 s1, .int .i64 n1, .string d1, .bool f1, .slice a1 l1 c1, .int .i64 m1, .int .i64 du, .int .i64 st, .int .i64 tr]
  have hbw : Bel w (w.alloc (.cells [.int .i64 i1, .int .i64 t1, .int .i64 k1, .int .i64 s1, .int .i64 n1, .string d1, .bool f1, .slice a1 l1 c1, .int .i64 m1, .int .i64 du, .int .i64 st, .int .i64 tr].toArray 67)) := bI
  simp only [List.toArray] at hX hbw
  clear hx hy
  go_enter Tryz.func63, Tryz.ntmps63
  go_wp2_with fail
  refine (HC.out _ hbw).mono ?_; rintro e w1 ⟨rfl, hb1⟩
  have e0 := (hE.bel (hbw.trans hb1)).1.2 0 _ rfl
  have x1 := (hX.bel hb1).1.2 1 _ rfl
  have y1 := (hB.bel (hbw.trans hb1)).1.2 1 _ rfl
  have hbe := hbw.trans hb1
  clear b0 b1 b2 b3 b4 b5 b6 b7 b8 hl
  cases r
  · by_cases hk : knd = 3
    · subst hk
      go_wp2
      go_ret
      exact ⟨by simp, hbe⟩
    · have hk' : (knd == 3) = false := by simp [hk]
      go_wp2
      go_ret
      exact ⟨by simp [hk], hbe⟩
  · go_wp2
    go_ret
    exact ⟨by simp, hbe⟩
end Go.Proofs.YtpgjbocjhconoaaGreat

/- elevator.partner. -/
namespace Go.Proofs.YtpgjbocjhconoaaGreat
open Go.RowKit Go.Maps
set_option linter.unusedSimpArgs false

theorem qmc_drop (L : List QM) (k : Nat) : qmc (L.drop k) = (qmc L).drop (k * 12) := by
  induction k generalizing L with
  | zero => simp
  | succ k ih =>
    cases L with
    | nil => simp [qmc, qcells]
    | cons x L =>
      rw [List.drop_succ_cons, ih]
      have : qmc (x :: L) = x.q.cells ++ qmc L := by simp [qmc, qcells]
      rw [this, Nat.succ_mul, Nat.add_comm (k * 12), List.drop_append]
      have h12 : x.q.cells.length = 12 := x.q.cells_len
      rw [@List.drop_eq_nil_of_le _ x.q.cells _ (by omega), List.nil_append, h12, show 12 + k * 12 - 12 = k * 12 by omega]
theorem QL.drop {w : World} {g o n c : Nat} {L : List QM} (h : QL w (.slice (some ⟨g, o, none⟩) n c) L) (k : Nat) (hk : k ≤ L.length) : QL w (.slice (some ⟨g, o + k * 12, none⟩) (n - k) (c - k)) (L.drop k) := by
  obtain ⟨h1, A, c', hv, hc, hm, hr⟩ := h.rd
  injection hv with e1 e2 e3
  subst e1 e2 e3
  refine ⟨⟨by rw [qmc_len], _, _, by rw [List.length_drop], by rw [List.length_drop]; omega, by omega, fun h0 => ?_⟩, fun x hx => h.mem x (List.mem_of_mem_drop hx)⟩
  obtain ⟨b, o', hA, hb, hcell⟩ := hr (by rw [List.length_drop] at h0; omega)
  injection hA with hA
  injection hA with e4 e5
  subst e4 e5
  refine ⟨_, _, rfl, hb, fun j u hu => ?_⟩
  rw [qmc_drop, List.getElem?_drop] at hu
  rw [Nat.add_assoc]
  exact hcell _ u hu

def howQ (M B : Int) (y : Bu) (P : List Qu) (o : Option Nat) : Int × Int :=
  match o with
  | some i => ((i : Int), match P[i]? with
    | some a => canU M B a.u y
    | none => 0)
  | none => (-1, 0)

set_option maxRecDepth 100000 in
set_option maxHeartbeats 16000000 in
theorem elPartner_any (M B knd rd wt V hd : Int) (fl bu en : Value) (L : List QM) (y : BM) (w : World) (he : QL w en L) (hy : Mems w y.b y.ms) (hn : L.length ≤ 1000) :
    Calls Tryz.prog 22 #[.agg #[.int .i64 M, .int .i64 B], .agg #[.int .i64 knd, .int .i64 rd, .int .i64 wt, .int .i64 V, fl, bu, en, .int .i64 hd], .agg #[.int .i64 (y.b).id, .int .i64 (y.b).ten, .int .i64 (y.b).knd, .int .i64 (y.b).sec, .int .i64 (y.b).cnt, .string (y.b).dat, .bool (y.b).fua, .slice (y.b).mA (y.b).mL (y.b).mC, .int .i64 (y.b).tim]] w fun e w' => e = .returned (.tuple #[.int .i64 (howQ M B y.bu (L.map QM.qu) (partP M B knd y.bu (L.map QM.qu))).1, .int .i64 (howQ M B y.bu (L.map QM.qu) (partP M B knd y.bu (L.map QM.qu))).2]) ∧ Bel w w' := by
  obtain ⟨Ae, ce, rfl, hc1, hc2⟩ := he.form
  obtain ⟨P, HP⟩ : ∃ P, Hid (L.map QM.qu = P) := ⟨_, rfl⟩
  obtain ⟨u, HU⟩ : ∃ u, Hid (y.bu = u) := ⟨_, rfl⟩
  obtain ⟨n, Hn⟩ : ∃ n, Hid (n = L.length) := ⟨_, rfl⟩
  have HLN : Hid (P.length = n) := by show _ = _; rw [← HP.out, List.length_map]; exact Hn.out.symm
  have HE := Lib.hid he
  have HY := Lib.hid hy
  rw [HP.out, HU.out]
  obtain ⟨res, HRES⟩ : ∃ r, Hid (howQ M B u P (partP M B knd u P) = r) := ⟨_, rfl⟩
  rw [HRES.out]
  unfold maxLen at hc2
  rw [← Hn.out] at hn hc1 HE ⊢
  clear he hy
  obtain ⟨⟨i1, t1, k1, s1, n1, d1, f1, a1, l1, c1, m1⟩, ms1⟩ := y
  simp only at HY ⊢
  have hA := ((AtF.new_at (w := w) rfl 36 [.int .i64 M, .int .i64 B]).alloc (.cells [.int .i64 knd, .int .i64 rd, .int .i64 wt, .int .i64 V, fl, bu, .slice Ae n ce, .int .i64 hd].toArray 31)).alloc (.cells [.int .i64 i1, .int .i64 t1, .int .i64 k1, .int .i64 s1, .int .i64 n1, .string d1, .bool f1, .slice a1 l1 c1, .int .i64 m1].toArray 44)
  have hE := (AtF.new_at (w := w.alloc (.cells [.int .i64 M, .int .i64 B].toArray 36)) (g := w.heap.size + 1) (by simp) 31 [.int .i64 knd, .int .i64 rd, .int .i64 wt, .int .i64 V, fl, bu, .slice Ae n ce, .int .i64 hd]).alloc (.cells [.int .i64 i1, .int .i64 t1, .int .i64 k1, .int .i64 s1, .int .i64 n1, .string d1, .bool f1, .slice a1 l1 c1, .int .i64 m1].toArray 44)
  have hB := AtF.new_at (w := (w.alloc (.cells [.int .i64 M, .int .i64 B].toArray 36)).alloc (.cells [.int .i64 knd, .int .i64 rd, .int .i64 wt, .int .i64 V, fl, bu, .slice Ae n ce, .int .i64 hd].toArray 31)) (g := w.heap.size + 2) (by simp) 44 [.int .i64 i1, .int .i64 t1, .int .i64 k1, .int .i64 s1, .int .i64 n1, .string d1, .bool f1, .slice a1 l1 c1, .int .i64 m1]
  have hbw : Bel w (((w.alloc (.cells [.int .i64 M, .int .i64 B].toArray 36)).alloc (.cells [.int .i64 knd, .int .i64 rd, .int .i64 wt, .int .i64 V, fl, bu, .slice Ae n ce, .int .i64 hd].toArray 31)).alloc (.cells [.int .i64 i1, .int .i64 t1, .int .i64 k1, .int .i64 s1, .int .i64 n1, .string d1, .bool f1, .slice a1 l1 c1, .int .i64 m1].toArray 44)) := bI
  simp only [List.toArray] at hA hE hB hbw
  go_enter Tryz.func22, Tryz.ntmps22
  go_wp2
  obtain ⟨W0, HW0⟩ : ∃ W, Hid (W = ((w.alloc (.cells #[.int .i64 M, .int .i64 B] 36)).alloc (.cells #[.int .i64 knd, .int .i64 rd, .int .i64 wt, .int .i64 V, fl, bu, .slice Ae n ce, .int .i64 hd] 31)).alloc (.cells #[.int .i64 i1, .int .i64 t1, .int .i64 k1, .int .i64 s1, .int .i64 n1, .string d1, .bool f1, .slice a1 l1 c1, .int .i64 m1] 44)) := ⟨_, rfl⟩
  rw [← HW0.out] at hA hE hB hbw ⊢
  clear HW0
  generalize w.heap.size = N at *
  go_loopw [15] (fun iv wr => ∃ i : Nat, iv = .int .i64 i ∧ i ≤ n ∧ Hid (∀ j < i, goodQ M B knd u P j = false) ∧ Bel W0 wr) (fun iv _ => n - (intOf iv).toNat)
  case atStart => exact ⟨0, rfl, by omega, fun j h => absurd h (by omega), Bel.refl _⟩
  case round =>
    obtain ⟨i, rfl, p1, HG, hbr⟩ := hrel
    obtain ⟨W1, rfl⟩ : ∃ X, X = wr := ⟨_, rfl⟩
    by_cases hlt : i < n
    · have hin : (i : Int) < (n : Int) := by omega
      obtain ⟨x, hx⟩ : ∃ x, L[i]? = some x := ⟨L[i]'(by have := Hn.out; omega), List.getElem?_eq_getElem _⟩
      have HPX : Hid (P[i]? = some x.qu) := by show _ = _; rw [← HP.out, List.getElem?_map, hx]; rfl
      obtain ⟨g, o, cx, hat⟩ := HE.out.at hx
      have hf := hat.form
      injection hf with hf1 hf2 hf3
      subst hf1 hf3
      clear hf2
      have hbw1 := hbw.trans hbr
      have hrow := hat.row.bel hbw1 hat.lt
      have hmx := hat.mem.bel hbw1
      clear hat
      have HCN := Lib.hid (fun W (hb : Bel W1 W) => can_any M B x.bm ⟨⟨i1, t1, k1, s1, n1, d1, f1, a1, l1, c1, m1⟩, ms1⟩ W (hmx.bel hb) (HY.out.bel (hbw1.trans hb)))
      rw [HU.out] at HCN
      obtain ⟨how, HW⟩ : ∃ how, Hid (canU M B x.bm.bu u = how) := ⟨_, rfl⟩
      rw [HW.out] at HCN
      have HXD := Lib.hid (fun W (hb : Bel W0 W) => (HE.out.bel (hbw.trans hb)).drop (i + 1) (by have := Hn.out; omega))
      have hcL : L.length ≤ ce := by have := Hn.out; omega
      have HLL : Hid (L.length = n) := Hn.out.symm
      have HX := Lib.hid hx
      clear hx
      obtain ⟨⟨⟨i2, t2, k2, s2, n2, d2, f2, a2, l2, c2, m2⟩, du, st, tr⟩, ms2⟩ := x
      simp only [QM.bm] at HCN
      simp only at hrow
      have q0 := (hrow).cell 0 rfl
      have q1 := (hrow).cell 1 rfl
      have q2 := (hrow).cell 2 rfl
      have q3 := (hrow).cell 3 rfl
      have q4 := (hrow).cell 4 rfl
      have q5 := (hrow).cell 5 rfl
      have q6 := (hrow).cell 6 rfl
      have q7 := (hrow).cell 7 rfl
      have q8 := (hrow).cell 8 rfl
      have q9 := (hrow).cell 9 rfl
      have q10 := (hrow).cell 10 rfl
      have q11 := (hrow).cell 11 rfl
      rw [Nat.add_zero] at q0
      have hX := AtF.new_at (w := W1) rfl 67 [.int .i64 i2, .int .i64 t2, .int .i64 k2, .int .i64 s2, .int .i64 n2, .string d2, .bool f2, .slice a2 l2 c2, .int .i64 m2, .int .i64 du, .int .i64 st, .int .i64 tr]
      have hA2 := (hA.bel hbr).alloc (.cells [.int .i64 i2, .int .i64 t2, .int .i64 k2, .int .i64 s2, .int .i64 n2, .string d2, .bool f2, .slice a2 l2 c2, .int .i64 m2, .int .i64 du, .int .i64 st, .int .i64 tr].toArray 67)
      have hB2 := (hB.bel hbr).alloc (.cells [.int .i64 i2, .int .i64 t2, .int .i64 k2, .int .i64 s2, .int .i64 n2, .string d2, .bool f2, .slice a2 l2 c2, .int .i64 m2, .int .i64 du, .int .i64 st, .int .i64 tr].toArray 67)
      have hE2 := (hE.bel hbr).alloc (.cells [.int .i64 i2, .int .i64 t2, .int .i64 k2, .int .i64 s2, .int .i64 n2, .string d2, .bool f2, .slice a2 l2 c2, .int .i64 m2, .int .i64 du, .int .i64 st, .int .i64 tr].toArray 67)
      have hb2 : Bel W1 (W1.alloc (.cells [.int .i64 i2, .int .i64 t2, .int .i64 k2, .int .i64 s2, .int .i64 n2, .string d2, .bool f2, .slice a2 l2 c2, .int .i64 m2, .int .i64 du, .int .i64 st, .int .i64 tr].toArray 67)) := bI
      simp only [List.toArray] at hX hA2 hB2 hE2 hb2
      have ca := (hA.bel hbr).1.2 0 _ rfl
      have cb := (hA.bel hbr).1.2 1 _ rfl
      have cl := (hA.bel hbr).1.1
      have hBr := hB.bel hbr
      have p0 := (hBr).1.2 0 _ rfl
      have p1 := (hBr).1.2 1 _ rfl
      have p2 := (hBr).1.2 2 _ rfl
      have p3 := (hBr).1.2 3 _ rfl
      have p4 := (hBr).1.2 4 _ rfl
      have p5 := (hBr).1.2 5 _ rfl
      have p6 := (hBr).1.2 6 _ rfl
      have p7 := (hBr).1.2 7 _ rfl
      have p8 := (hBr).1.2 8 _ rfl
      have pl := hBr.1.1
      have e6 := (hE.bel hbr).1.2 6 _ rfl
      have el := (hE.bel hbr).1.1
      go_wp2_with fail
      refine (HCN.out _ hb2).mono ?_; rintro e w4 ⟨rfl, hb4⟩
      clear ca cb cl pl e6 el p0 p1 p2 p3 p4 p5 p6 p7 p8 q0 q1 q2 q3 q4 q5 q6 q7 q8 q9 q10 q11
      have hb14 := hb2.trans hb4
      have hb04 := hbr.trans hb14
      by_cases hz : how = 0
      · have HG2 : Hid (∀ j < i + 1, goodQ M B knd u P j = false) := by
          intro j hj
          by_cases h : j < i
          · exact HG.out j h
          · obtain rfl : j = i := by omega
            exact goodQ_no HPX.out (.inl (by show canU M B _ u = 0; exact HW.out.trans hz))
        subst hz
        go_wp2
        go_roundw
        case rel => exact ⟨i + 1, by go_num, by omega, HG2, hb04⟩
        case measure => simp [intOf]; omega
      · have hzb : (how != 0) = true := by simpa using hz
        have hE4 := hE2.bel hb4
        have hB4 := hB2.bel hb4
        have e6 := hE4.1.2 6 _ rfl
        have el := hE4.1.1
        have HCON : Hid (∀ v, QL w4 v (L.drop (i + 1)) → Calls Tryz.prog 66 #[v, .func (.func 63) #[] #[.pointer (some ⟨N + 1 + 1, 0, none⟩), .pointer (some ⟨N + 1, 0, none⟩)]] w4 fun e w' => e = .returned (.bool ((P.drop (i + 1)).any (betw knd u))) ∧ Bel w4 w') := fun v hv => by
          have hE := enters_of Tryz.func63 (by kernel_rfl) rfl
          have := containsQue_any (L.drop (i + 1)) v 63 #[.pointer (some ⟨N + 1 + 1, 0, none⟩), .pointer (some ⟨N + 1, 0, none⟩)] (fun z => betQ knd ⟨⟨i1, t1, k1, s1, n1, d1, f1, a1, l1, c1, m1⟩, ms1⟩ z) w4 hv hE (fun W z hW hz => between_any z ⟨⟨i1, t1, k1, s1, n1, d1, f1, a1, l1, c1, m1⟩, ms1⟩ knd rd wt V hd fl bu _ (N + 1 + 1) (N + 1) W ((hv.mem z hz).bel hW) (HY.out.bel ((hbw.trans hb04).trans hW)) (hB4.bel hW) (hE4.bel hW))
          have e : (P.drop (i + 1)).any (betw knd u) = (L.drop (i + 1)).any (fun z => betQ knd ⟨⟨i1, t1, k1, s1, n1, d1, f1, a1, l1, c1, m1⟩, ms1⟩ z) := by
            rw [← HP.out, ← HU.out, ← List.map_drop, List.any_map]; rfl
          rw [e]
          exact this
        have HD1 : Hid (QL w4 (.slice (some ⟨g, o + (i + 1) * 12, none⟩) (n - (i + 1)) (ce - (i + 1))) (L.drop (i + 1))) := HXD.out w4 hb04
        have HD2 : Hid (ce = i + 1 → QL w4 (.slice (some ⟨g, o, none⟩) (n - (i + 1)) 0) (L.drop (i + 1))) := fun hc => by
          have hln : L.length = i + 1 := by have := HLL.out; omega
          have e : L.drop (i + 1) = [] := List.drop_eq_nil_of_le (by omega)
          rw [e, show n - (i + 1) = 0 by omega]
          exact ⟨⟨rfl, _, _, rfl, Nat.le_refl _, by unfold maxLen; omega, fun h => absurd h (by simp)⟩, fun z hz => by cases hz⟩
        obtain ⟨r, Hr⟩ : ∃ r, Hid ((P.drop (i + 1)).any (betw knd u) = r) := ⟨_, rfl⟩
        rw [Hr.out] at HCON
        have HR0 : Hid (ce = i + 1 → r = false) := fun hc => by
          have hln : P.length ≤ i + 1 := by have := HLN.out; omega
          rw [← Hr.out, List.drop_eq_nil_of_le hln]
          rfl
        clear hA2 hB2 hE2 hX
        go_wp2_with fail
        · rename ce = i + 1 => hcc
          refine (HCON.out _ (HD2.out hcc)).mono ?_
          have hr2 := HR0.out hcc
          clear hcc HR0
          subst hr2
          rintro e w5 ⟨rfl, hb5⟩
          clear HCON HD1 HD2 e6 el
          have hb05 := hb04.trans hb5
          have HF : Hid (res = ((i : Int), how)) := by
            show _ = _
            have hgd : goodQ M B knd u P i = true := by
              unfold goodQ
              simp only [HPX.out]
              have h1 : canU M B (QM.qu ⟨⟨⟨i2, t2, k2, s2, n2, d2, f2, a2, l2, c2, m2⟩, du, st, tr⟩, ms2⟩).u u = how := HW.out
              rw [Hr.out, h1]
              simpa using hz
            rw [← HRES.out, partP_some hgd HG.out]
            unfold howQ
            simp only [HPX.out]
            have h1 : canU M B (QM.qu ⟨⟨⟨i2, t2, k2, s2, n2, d2, f2, a2, l2, c2, m2⟩, du, st, tr⟩, ms2⟩).u u = how := HW.out
            rw [h1]
          go_wp2
          exact bodyPost_ret (v := .tuple #[.int .i64 (i : Int), .int .i64 how]) (by simp [results, Tryz.results22, go_sem]) rfl ⟨by rw [HF.out], hbw.trans hb05⟩
        · refine (HCON.out _ HD1.out).mono ?_
          rintro e w5 ⟨rfl, hb5⟩
          clear HCON HD1 HD2 HR0 e6 el
          have hb05 := hb04.trans hb5
          cases r
          · skip
            have HF : Hid (res = ((i : Int), how)) := by
              show _ = _
              have hgd : goodQ M B knd u P i = true := by
                unfold goodQ
                simp only [HPX.out]
                have h1 : canU M B (QM.qu ⟨⟨⟨i2, t2, k2, s2, n2, d2, f2, a2, l2, c2, m2⟩, du, st, tr⟩, ms2⟩).u u = how := HW.out
                rw [Hr.out, h1]
                simpa using hz
              rw [← HRES.out, partP_some hgd HG.out]
              unfold howQ
              simp only [HPX.out]
              have h1 : canU M B (QM.qu ⟨⟨⟨i2, t2, k2, s2, n2, d2, f2, a2, l2, c2, m2⟩, du, st, tr⟩, ms2⟩).u u = how := HW.out
              rw [h1]
            go_wp2
            exact bodyPost_ret (v := .tuple #[.int .i64 (i : Int), .int .i64 how]) (by simp [results, Tryz.results22, go_sem]) rfl ⟨by rw [HF.out], hbw.trans hb05⟩
          · have HG2 : Hid (∀ j < i + 1, goodQ M B knd u P j = false) := by
              intro j hj
              by_cases h : j < i
              · exact HG.out j h
              · obtain rfl : j = i := by omega
                exact goodQ_no HPX.out (.inr Hr.out)
            go_wp2
            go_roundw
            case rel => exact ⟨i + 1, by go_num, by omega, HG2, hb05⟩
            case measure => simp [intOf]; omega
    · obtain rfl : i = n := by omega
      have jk : decide ((i : Int) < (i : Int)) = false := by simp
      have HF : Hid (res = (-1, 0)) := by
        show _ = _
        rw [← HRES.out, partP_none (fun j hj => HG.out j (by rw [← HLN.out]; exact hj))]
        rfl
      go_wp2
      exact bodyPost_ret (v := .tuple #[.int .i64 (-1), .int .i64 0]) (by simp [results, Tryz.results22, go_sem]) rfl ⟨by rw [HF.out], hbw.trans hbr⟩
end Go.Proofs.YtpgjbocjhconoaaGreat

/- slices.Delete over entries of the call's own. -/
namespace Go.Proofs.YtpgjbocjhconoaaGreat
open Go.RowKit Go.Maps
set_option linter.unusedSimpArgs false

theorem qmc_app (A B : List QM) : qmc (A ++ B) = qmc A ++ qmc B := by simp [qmc, qcells]
theorem qmc_take (L : List QM) (k : Nat) (hk : k ≤ L.length) : qmc (L.take k) = (qmc L).take (k * 12) := by
  have e : qmc L = qmc (L.take k) ++ qmc (L.drop k) := by
    rw [← qmc_app, List.take_append_drop]
  have hl : (qmc (L.take k)).length = k * 12 := by rw [qmc_len, List.length_take, Nat.min_eq_left hk]
  rw [e, ← hl, List.take_left']
  rfl
theorem qmc_erase (L : List QM) (k : Nat) (hk : k < L.length) : qmc (L.eraseIdx k) = (qmc L).take (k * 12) ++ (qmc L).drop ((k + 1) * 12) := by
  rw [List.eraseIdx_eq_take_drop_succ, qmc_app, qmc_take L k (by omega), qmc_drop]

section
variable {P : Program} {ops : Array Oper} {rest : List Oper} {o : Oper} {a : Act} {w : World} {Q : Exit → Act → World → Prop}
theorem wpList_append_room_own (hgd : o.guard = none) (s x : Operand) (t : TypeId) (ho : o.op = .call { callee := .builtin .append, args := #[s, x], argTypes := #[t, t] })
    (e : TypeId) (size : Nat) (ht : P.underlying t = some (.slice e)) (hi : (P.info? e).map (·.size) = some size)
    (g sLen sCap : Nat) (cur : Array Value) (hg : w.heap[g]? = some (.cells cur e (0, 0))) (hs : a.eval s = .slice (some ⟨g, 0, none⟩) sLen sCap)
    (ad : Addr) (m c : Nat) (news : List Value) (hx : a.eval x = .slice (some ad) m c) (hl : news.length = m * size) (hnews : ∀ j u, news[j]? = some u → w.cell? (ad.add j) = some u) (h1 : ∀ u ∈ news, u.oneCell' = true)
    (hroom : sLen + m ≤ sCap) (hfit : sLen * size + news.length ≤ cur.size)
    (h : wpList P ops Q rest (a.put o.dst (.slice (some ⟨g, 0, none⟩) (sLen + m) sCap)) (w.setRow g (cur.toList.take (sLen * size) ++ news ++ cur.toList.drop (sLen * size + news.length)).toArray)) : wpList P ops Q (o :: rest) a w := by
  refine wpList_plain hgd fun K hK => ?_
  obtain ⟨i, hi2, rfl⟩ := Option.map_eq_some_iff.1 hi
  have hr := run_append_room (P := P) w t o.type e i ht hi2 g sLen sCap cur hg ad m c news hl hnews h1 hroom hfit
  unfold Oper.wp execOp
  simp only [ho, resolve, invoke, builtin, Sem.run_bind, Sem.run_pure, Result.andThen_ok, List.map_toArray, List.map_cons, List.map_nil, hs, hx, hr]
  exact hK _ _ h
/-- 'clear(s)' over one element within a whole block. -/
theorem run_clear_row {P : Program} (w : World) (t e ty : TypeId) (z : Value) (size : Nat) (ht : P.underlying t = some (.slice e)) (hv : ∀ w, (zeroValue e).run P w = .ok z w) (hz : z.cells.size = size) (h1 : ∀ u ∈ z.cells, u.oneCell' = true)
    (g off c : Nat) (cur : Array Value) (e2 : TypeId) (hg : w.heap[g]? = some (.cells cur e2 (0, 0))) (hfit : off + size ≤ cur.size) :
    ∃ Z : List Value, Z.length = size ∧ (Builtin.clear_ #[t] ty #[.slice (some ⟨g, off, none⟩) 1 c]).run P w = .ok (.tuple #[]) (w.setRow g (cur.toList.take off ++ Z ++ cur.toList.drop (off + Z.length)).toArray) := by
  have hlen : (Builtin.zeroCells z.cells 1).toList.length = size := by simp [Builtin.zeroCells, hz]
  refine ⟨(Builtin.zeroCells z.cells 1).toList, hlen, ?_⟩
  have hst := run_storeCells_at P g off e2 (Builtin.zeroCells z.cells 1).toList 0 cur w hg (by rw [hlen]; simpa using hfit) (by
    intro v hv'
    simp [Builtin.zeroCells] at hv'
    obtain ⟨a, ha, rfl⟩ := hv'
    have hs : 0 < z.cells.size := by
      rcases Nat.eq_zero_or_pos z.cells.size with h0 | h0
      · rw [h0] at ha; simp at ha
      · exact h0
    have hm := Nat.mod_lt a hs
    rw [getElem!_pos z.cells _ hm]
    exact h1 _ (Array.getElem_mem hm))
  simp only [Nat.add_zero] at hst
  simp [Builtin.clear_, run_underlying ht, hv, hst]
end
theorem Tryz.zeroQue (w : World) : (zeroValue 67).run Tryz.prog w = .ok (.agg #[.int .i64 0, .int .i64 0, .int .i64 0, .int .i64 0, .int .i64 0, .string ⟨#[]⟩, .bool false, .slice none 0 0, .int .i64 0, .int .i64 0, .int .i64 0, .int .i64 0]) w := by kernel_rfl

theorem setRow_grown (w : World) (g : Nat) (cs : Array Value) : w.grownBy (w.setRow g cs) (some g) :=
  ⟨rfl, rfl, rfl, by simp, fun k _ hk => setRow_other w g k cs (fun e => hk (by rw [e]))⟩
theorem grown_trans {a b c : World} {r : Option Nat} (h : a.grownBy b r) (h2 : b.grownBy c r) : a.grownBy c r :=
  ⟨h2.os.trans h.os, h2.tape.trans h.tape, h2.output.trans h.output, Nat.le_trans h.size h2.size, fun k hk hr => (h2.block k (Nat.lt_of_lt_of_le hk h.size) hr).trans (h.block k hk hr)⟩
theorem grown_drew (w : World) (r : Option Nat) : w.grownBy w.drew r := ⟨rfl, rfl, rfl, Nat.le_refl _, fun _ _ _ => rfl⟩

/-- The row behind the removal of element k. -/
theorem cur_erase {cur : List Value} {L : List QM} {k n : Nat} {news : List Value} (hn : n + 1 = L.length) (hk : k < L.length) (ht : cur.take (L.length * 12) = qmc L) (hnews : news = (qmc L).drop ((k + 1) * 12)) :
    (cur.take (k * 12) ++ news ++ cur.drop (k * 12 + news.length)).take (n * 12) = qmc (L.eraseIdx k) := by
  have hql := qmc_len L
  have hcl : L.length * 12 ≤ cur.length := by
    have := congrArg List.length ht
    rw [List.length_take, hql] at this
    omega
  have hnl : news.length = (n - k) * 12 := by rw [hnews, List.length_drop, hql]; omega
  have h1 : (cur.take (k * 12)).length = k * 12 := by rw [List.length_take]; omega
  rw [List.take_append_of_le_length (by rw [List.length_append, h1, hnl]; omega), List.take_of_length_le (by rw [List.length_append, h1, hnl]; omega), qmc_erase L k hk, hnews, ← ht]
  congr 1
  rw [List.take_take, Nat.min_eq_left (by omega)]

set_option maxRecDepth 100000 in
set_option maxHeartbeats 8000000 in
theorem deleteQ_any (L : List QM) (k base g c : Nat) (w : World) (h : QN w base (.slice (some ⟨g, 0, none⟩) L.length c) L) (hk : k < L.length) (hn : L.length ≤ 1000) :
    Calls Tryz.prog 40 #[.slice (some ⟨g, 0, none⟩) L.length c, .int .i64 k, .int .i64 ((k : Int) + 1)] w fun e w' => e = .returned (.slice (some ⟨g, 0, none⟩) (L.eraseIdx k).length c) ∧ QN w' base (.slice (some ⟨g, 0, none⟩) (L.eraseIdx k).length c) (L.eraseIdx k) ∧ w.grownBy w' (some g) := by
  have HQ := Lib.hid h
  have hel : (L.eraseIdx k).length = L.length - 1 := List.length_eraseIdx_of_lt hk
  rw [hel]
  obtain ⟨cur, hbg, hgg, hlc, hcm, hcs, hct⟩ : ∃ cur, base ≤ g ∧ w.heap[g]? = some (.cells cur 67 (0, 0)) ∧ L.length ≤ c ∧ c ≤ maxLen ∧ cur.size = c * 12 ∧ cur.toList.take (L.length * 12) = qmc L := by
    rcases h.bo.own.2 with ⟨h1, _⟩ | ⟨g', cap, cur, h1, h2⟩
    · cases h1
    · cases h1; exact ⟨cur, h2⟩
  obtain ⟨n, Hn⟩ : ∃ n, Hid (n + 1 = L.length) := ⟨L.length - 1, Lib.hid (by omega)⟩
  have HF : Hid (qmc L = cur.toList.take (L.length * 12)) := Lib.hid hct.symm
  clear h hct hel
  unfold maxLen at hcm
  rw [← Hn.out] at hk hn hlc ⊢
  have e1 : n + 1 - 1 = n := rfl
  rw [e1]
  have hgl := (Array.getElem?_eq_some_iff.1 hgg).1
  have k0 : (k : Int) ≤ (n : Int) := by omega
  go_enter Tryz.func40, Tryz.ntmps40
  go_upto_region 5 with fail
  have k1 : (0 : Int) ≤ (k : Int) := by omega
  refine wp_region_lex [] 6 (by kernel_rfl) (by kernel_rfl) ?_
  simp only [List.take_succ_cons, List.take_zero, List.drop_succ_cons, List.drop_zero]
  with_reducible refine lex_seg 6 _ _ _ _ (by kernel_rfl) ?_
  simp only [List.take_succ_cons, List.take_zero, List.drop_succ_cons, List.drop_zero]
  try simp only [Act.put, List.setIfInBounds_toArray, List.set_cons_succ, List.set_cons_zero]
  repeat (go_big_quiet_step (fail))
  with_reducible refine wpQuiet_nil ?_
  with_reducible refine lex_nil ?_
  have hl3 : ((qmc L).drop ((k + 1) * 12)).length = (n - k) * 12 := by rw [List.length_drop, qmc_len, ← Hn.out]; omega
  obtain ⟨ad, had, hnews⟩ : ∃ ad, (if c = k + 1 then some (⟨g, 0, none⟩ : Addr) else some ⟨g, (k + 1) * 12, none⟩) = some ad ∧ ∀ j u, ((qmc L).drop ((k + 1) * 12))[j]? = some u → w.drew.cell? (ad.add j) = some u := by
    by_cases e : c = k + 1
    · rw [if_pos e]
      refine ⟨_, rfl, fun j u hu => ?_⟩
      have := (List.getElem?_eq_some_iff.1 hu).1
      omega
    · rw [if_neg e]
      refine ⟨_, rfl, fun j u hu => ?_⟩
      rw [Addr.add_lit]
      rw [List.getElem?_drop] at hu
      have h2 := HQ.out.bo.own.cells (g := g) rfl _ u hu
      rw [add_zero_off] at h2
      exact h2
  rw [had]
  have hq1 : ∀ u ∈ (qmc L).drop ((k + 1) * 12), u.oneCell' = true := fun u hu => qmc_one L u (List.mem_of_mem_drop hu)
  refine wpList_append_room_own rfl _ _ 29 rfl 67 12 Tryz.underlying29 (by kernel_rfl) g k c cur hgg rfl ad (n - k) (c - (k + 1)) _ rfl hl3 hnews hq1 (by omega) (by rw [hl3, hcs]; omega) ?_
  obtain ⟨cur1, HC1⟩ : ∃ x, Hid (x = (cur.toList.take (k * 12) ++ (qmc L).drop ((k + 1) * 12) ++ cur.toList.drop (k * 12 + ((qmc L).drop ((k + 1) * 12)).length))) := ⟨_, rfl⟩
  rw [← HC1.out]
  have hs1 : cur1.length = c * 12 := by
    rw [HC1.out, List.length_append, List.length_append, List.length_take, List.length_drop (i := k * 12 + _), hl3, Array.length_toList, hcs]
    omega
  have hg1 : (w.drew.setRow g cur1.toArray).heap[g]? = some (.cells cur1.toArray 67 (0, 0)) := setRow_heap w.drew g cur cur1.toArray 67 (0, 0) hgg
  have HT1 : Hid (cur1.take (n * 12) = qmc (L.eraseIdx k)) := by
    show _ = _
    rw [HC1.out]
    exact cur_erase Hn.out (by rw [← Hn.out]; exact hk) HF.out.symm rfl
  have hgr1 : w.grownBy (w.drew.setRow g cur1.toArray) (some g) := grown_trans (grown_drew w _) (setRow_grown _ _ _)
  have HW1 := Lib.hid (And.intro hg1 hgr1)
  have e2 : k + (n - k) = n := by omega
  rw [e2]
  obtain ⟨Z, hZ, hr⟩ := run_clear_row (P := Tryz.prog) (w.drew.setRow g cur1.toArray) 29 67 0 (.agg #[.int .i64 0, .int .i64 0, .int .i64 0, .int .i64 0, .int .i64 0, .string ⟨#[]⟩, .bool false, .slice none 0 0, .int .i64 0, .int .i64 0, .int .i64 0, .int .i64 0]) 12 Tryz.underlying29 Tryz.zeroQue rfl (fun u hu => by simp [Value.cells] at hu; rcases hu with rfl | rfl | rfl | rfl | rfl | rfl | rfl | rfl | rfl | rfl | rfl | rfl <;> rfl) g (n * 12) (c - n) cur1.toArray 67 hg1 (by simp only [List.size_toArray, hs1]; omega)
  clear hnews hq1 hl3 had hg1 hgr1 hgg hcs
  generalize w.drew.setRow g cur1.toArray = W1 at *
  have hcn : ¬ c = n := by omega
  have e3 : n + 1 - n = 1 := by omega
  obtain ⟨cur2, HC2⟩ : ∃ x, Hid (x = (cur1.take (n * 12) ++ Z ++ cur1.drop (n * 12 + Z.length))) := ⟨_, rfl⟩
  rw [← HC2.out] at hr
  go_wp2
  have hl4 : (cur1.take (n * 12)).length = n * 12 := by rw [List.length_take, hs1]; omega
  have hs2 : cur2.length = c * 12 := by
    rw [HC2.out, List.length_append, List.length_append, hl4, List.length_drop, hZ, hs1]
    omega
  have ht2 : cur2.take (n * 12) = qmc (L.eraseIdx k) := by
    rw [← HT1.out, HC2.out, List.append_assoc, List.take_append_of_le_length (by rw [hl4]; exact Nat.le_refl _), List.take_take, Nat.min_self]
  have hel : (L.eraseIdx k).length = n := by rw [List.length_eraseIdx_of_lt (by rw [← Hn.out]; exact hk), ← Hn.out]; rfl
  have hgr : w.grownBy (W1.setRow g cur2.toArray) (some g) := grown_trans HW1.out.2 (setRow_grown _ _ _)
  go_ret
  refine ⟨rfl, ⟨⟨⟨by rw [qmc_len], Or.inr ⟨g, c, cur2.toArray, by rw [hel], hbg, setRow_heap W1 g cur1.toArray cur2.toArray 67 (0, 0) HW1.out.1, by omega, by unfold maxLen; omega, by simp [hs2], by rw [hel]; exact ht2⟩⟩, fun x hx => ?_, fun x hx => HQ.out.bo.sep x (List.mem_of_mem_eraseIdx hx)⟩, fun j x hj hx h0 q hq => ?_⟩, hgr⟩
  · have hx2 := List.mem_of_mem_eraseIdx hx
    have hm := HQ.out.bo.mem x hx2
    refine ⟨hm.len, ?_, hm.ids, hm.dl⟩
    by_cases h0 : 0 < x.ms.length
    · exact hm.rd.grown hgr (fun b hb e => HQ.out.bo.sep x hx2 h0 b hb e)
    · exact hm.rd.empty h0 _
  · have hx2 := List.mem_of_mem_eraseIdx (List.mem_of_getElem? hx)
    obtain ⟨j2, hj2⟩ := List.getElem?_of_mem hx2
    exact HQ.out.fr j2 x (List.getElem?_eq_some_iff.1 hj2).1 hj2 h0 q hq
end Go.Proofs.YtpgjbocjhconoaaGreat

/- The rows of a scheduler of the call's own: stores beside them, an entry stored over, an entry behind them. -/
namespace Go.Proofs.YtpgjbocjhconoaaGreat
open Go.RowKit Go.Maps
set_option linter.unusedSimpArgs false

theorem Mems.off {w : World} {b : Bun} {ms : List Mem} (h : Mems w b ms) {p : Addr} (hm : 0 < ms.length → (Value.slice b.mA b.mL b.mC).ownBlock ≠ some p.block) (u : Value) : Mems (w.setCell p u) b ms := by
  refine ⟨h.len, ?_, h.ids, h.dl⟩
  by_cases h0 : 0 < ms.length
  · exact h.rd.far (hm h0) u
  · exact h.rd.empty h0 _
theorem QN.off {w : World} {base : Nat} {v : Value} {L : List QM} (h : QN w base v L) {p : Addr} (hv : v.ownBlock ≠ some p.block) (hm : ∀ x ∈ L, 0 < x.ms.length → (Value.slice x.q.b.mA x.q.b.mL x.q.b.mC).ownBlock ≠ some p.block) (u : Value) : QN (w.setCell p u) base v L :=
  ⟨⟨own_far h.bo.own hv u, fun x hx => (h.bo.mem x hx).off (hm x hx) u, h.bo.sep⟩, h.fr⟩
/-- Block N is none of a scheduler's. -/
structure Off (N : Nat) (fl bu en : Value) (L : List QM) : Prop where
  f : fl.ownBlock ≠ some N
  b : bu.ownBlock ≠ some N
  e : en.ownBlock ≠ some N
  m : ∀ x ∈ L, 0 < x.ms.length → (Value.slice x.q.b.mA x.q.b.mL x.q.b.mC).ownBlock ≠ some N
theorem ElN.off {w : World} {base : Nat} {fl bu en : Value} {fs : List (Int × Int)} {bs : List Bk} {L : List QM} (h : ElN w base fl bu en fs bs L) {p : Addr} (ho : Off p.block fl bu en L) (u : Value) : ElN (w.setCell p u) base fl bu en fs bs L :=
  ⟨own_far h.flo ho.f u, own_far h.buo ho.b u, h.eno.off ho.e ho.m u, h.sFB, h.sFE, h.sBE, h.sFM, h.sBM⟩
theorem ElN.offRow {N : Nat} {fl bu en : Value} {fs : List (Int × Int)} {bs : List Bk} {L : List QM} (ho : Off N fl bu en L) : ∀ (vs : List Value) {w : World} {base : Nat} {i : Nat}, ElN w base fl bu en fs bs L → ElN (Proofs.YtpgjbocjhconoaaGreat.setRow w N i vs) base fl bu en fs bs L
  | [], _, _, _, h => h
  | u :: vs, _, _, i, h => ElN.offRow ho vs (h.off (p := ⟨N, i, none⟩) ho u)
/-- All of a scheduler lies below the size of the memory. -/
theorem ElN.newOff {w : World} {base : Nat} {fl bu en : Value} {fs : List (Int × Int)} {bs : List Bk} {L : List QM} (h : ElN w base fl bu en fs bs L) {N : Nat} (hN : w.heap.size ≤ N) : Off N fl bu en L :=
  ⟨fun e => by have := (h.flo.lt _ e).2; omega, fun e => by have := (h.buo.lt _ e).2; omega, fun e => by have := (h.eno.bo.own.lt _ e).2; omega, fun x hx h0 e => by
    have hm := h.eno.bo.mem x hx
    have := hm.rd.own_lt h0 e
    omega⟩
/-- Another row of flows, made later. -/
theorem ElN.newF {w w' : World} {base B : Nat} {fl fl' bu en : Value} {fs fs' : List (Int × Int)} {bs : List Bk} {L : List QM} (h : ElN w base fl bu en fs bs L) (hb : Bel w w') (hf : w'.ownsRow B 101 2 fl' fs'.length (fcells fs')) (hB : w.heap.size ≤ B) (hbB : base ≤ B) : ElN w' base fl' bu en fs' bs L := by
  have h2 := h.keep hb
  refine ⟨own_mono hf hbB, h2.buo, h2.eno, fun k h1 h3 => ?_, fun k h1 h3 => ?_, h.sBE, fun k h1 x hx h0 h3 => ?_, h.sBM⟩
  · have := (hf.lt k h1).1; have := (h.buo.lt k h3).2; omega
  · have := (hf.lt k h1).1; have := (h.eno.bo.own.lt k h3).2; omega
  · have := (hf.lt k h1).1
    have hm := h.eno.bo.mem x hx
    have := hm.rd.own_lt h0 h3
    omega
theorem setL_app : ∀ (a b xs : List Value) (i : Nat), setL xs i (a ++ b) = setL (setL xs i a) (i + a.length) b
  | [], b, xs, i => by simp [setL]
  | u :: a, b, xs, i => by
    show setL (xs.set i u) (i + 1) (a ++ b) = setL (setL (xs.set i u) (i + 1) a) (i + (a.length + 1)) b
    rw [setL_app a b (xs.set i u) (i + 1), show i + 1 + a.length = i + (a.length + 1) by omega]
theorem setL_same : ∀ (b xs : List Value) (i : Nat), (∀ t u, b[t]? = some u → xs[i + t]? = some u) → setL xs i b = xs
  | [], _, _, _ => rfl
  | u :: b, xs, i, h => by
    have h0 := h 0 u rfl
    rw [Nat.add_zero] at h0
    have e : xs.set i u = xs := by
      obtain ⟨hl, hx⟩ := List.getElem?_eq_some_iff.1 h0
      rw [← hx]; exact List.set_getElem_self hl
    show setL (xs.set i u) (i + 1) b = xs
    rw [e]
    refine setL_same b xs (i + 1) fun t v hv => ?_
    have := h (t + 1) v (by simpa using hv)
    rwa [show i + 1 + t = i + (t + 1) by omega]
theorem setL_getElem? : ∀ (vs xs : List Value) (i j : Nat), (j < i ∨ i + vs.length ≤ j) → (setL xs i vs)[j]? = xs[j]?
  | [], _, _, _, _ => rfl
  | u :: vs, xs, i, j, h => by
    show (setL (xs.set i u) (i + 1) vs)[j]? = xs[j]?
    rw [setL_getElem? vs _ (i + 1) j (by simp at h; omega), List.getElem?_set_ne (by simp at h; omega)]
/-- Ten cells of an entry stored over: its bunch and its due. -/
theorem setL_ten {L : List QM} {k : Nat} {x y : QM} {vs : List Value} (h : L[k]? = some x) (hv : y.q.cells = vs ++ [.int .i64 x.q.sta, .int .i64 x.q.tri]) (hl : vs.length = 10) : setL (qmc L) (k * 12) vs = qmc (L.set k y) := by
  rw [← qmc_set (y := y) h, hv, setL_app]
  refine (setL_same _ _ _ fun t u hu => ?_).symm
  have hq : ∀ j v, x.q.cells[j]? = some v → (qmc L)[k * 12 + j]? = some v := fun j v hj => flat_at (l := L.map QM.q) (f := Qd.cells) Qd.cells_len (by rw [List.getElem?_map, h]; rfl) hj
  rw [hl, Nat.add_assoc, setL_getElem? _ _ _ _ (by rw [hl]; omega)]
  refine hq _ _ ?_
  match t with
  | 0 => exact hu
  | 1 => exact hu
  | t + 2 => simp at hu
theorem QN.setV {w : World} {base g cap : Nat} {L : List QM} {k : Nat} {x y : QM} {vs : List Value} (h : QN w base (.slice (some ⟨g, 0, none⟩) L.length cap) L) (_hk : L[k]? = some x) (hv : setL (qmc L) (k * 12) vs = qmc (L.set k y)) (hy : Mems w y.q.b y.ms) (hs : ∀ q, (Value.slice y.q.b.mA y.q.b.mL y.q.b.mC).ownBlock = some q → g < q ∧ base ≤ q) :
    QN (Proofs.YtpgjbocjhconoaaGreat.setRow w g (k * 12) vs) base (.slice (some ⟨g, 0, none⟩) (L.set k y).length cap) (L.set k y) := by
  have h1 := own_setRow vs (i := k * 12) h.bo.own
  rw [hv] at h1
  have hm : ∀ z ∈ L.set k y, (Mems w z.q.b z.ms) ∧ (0 < z.ms.length → ∀ q, (Value.slice z.q.b.mA z.q.b.mL z.q.b.mC).ownBlock = some q → q ≠ g) := by
    intro z hz
    rcases List.mem_or_eq_of_mem_set hz with hz | rfl
    · exact ⟨h.bo.mem z hz, fun h0 q hq e => h.bo.sep z hz h0 q hq (by rw [e]; rfl)⟩
    · exact ⟨hy, fun _ q hq => by have := (hs q hq).1; omega⟩
  refine ⟨⟨by rw [List.length_set]; exact h1, fun z hz => ?_, fun z hz h0 q hq e => ?_⟩, fun j z hj hz h0 q hq => ?_⟩
  · obtain ⟨g1, g2⟩ := hm z hz
    refine ⟨g1.len, ?_, g1.ids, g1.dl⟩
    by_cases h0 : 0 < z.ms.length
    · exact g1.rd.setRow _ (fun e => g2 h0 _ e rfl)
    · exact g1.rd.empty h0 _
  · have : some g = some q := e
    exact (hm z hz).2 h0 q hq (by injection this with h; exact h.symm)
  · rw [List.getElem?_set] at hz
    split at hz
    · split at hz
      · cases hz; exact (hs q hq).2
      · cases hz
    · exact h.fr j z (List.getElem?_eq_some_iff.1 hz).1 hz h0 q hq
theorem ElN.setV {w : World} {base g cap : Nat} {fl bu : Value} {fs : List (Int × Int)} {bs : List Bk} {L : List QM} {k : Nat} {x y : QM} {vs : List Value} (h : ElN w base fl bu (.slice (some ⟨g, 0, none⟩) L.length cap) fs bs L) (hk : L[k]? = some x) (hv : setL (qmc L) (k * 12) vs = qmc (L.set k y)) (hy : Mems w y.q.b y.ms)
    (hs : ∀ q, (Value.slice y.q.b.mA y.q.b.mL y.q.b.mC).ownBlock = some q → g < q ∧ base ≤ q ∧ fl.ownBlock ≠ some q ∧ bu.ownBlock ≠ some q) :
    ElN (Proofs.YtpgjbocjhconoaaGreat.setRow w g (k * 12) vs) base fl bu (.slice (some ⟨g, 0, none⟩) (L.set k y).length cap) fs bs (L.set k y) := by
  have hm : ∀ (v : Value), (∀ k, v.ownBlock = some k → ∀ x ∈ L, 0 < x.ms.length → (Value.slice x.q.b.mA x.q.b.mL x.q.b.mC).ownBlock ≠ some k) → (∀ q, (Value.slice y.q.b.mA y.q.b.mL y.q.b.mC).ownBlock = some q → v.ownBlock ≠ some q) →
      ∀ k', v.ownBlock = some k' → ∀ x ∈ L.set k y, 0 < x.ms.length → (Value.slice x.q.b.mA x.q.b.mL x.q.b.mC).ownBlock ≠ some k' := by
    intro v h1 h2 k' hk' z hz h0 e
    rcases List.mem_or_eq_of_mem_set hz with hz | rfl
    · exact h1 k' hk' z hz h0 e
    · exact h2 k' e hk'
  have gF : fl.ownBlock ≠ some g := fun e => h.sFE g e rfl
  have gB : bu.ownBlock ≠ some g := fun e => h.sBE g e rfl
  exact ⟨setRow_own _ h.flo gF, setRow_own _ h.buo gB, h.eno.setV hk hv hy (fun q hq => ⟨(hs q hq).1, (hs q hq).2.1⟩), h.sFB, h.sFE, h.sBE, hm fl h.sFM (fun q hq => (hs q hq).2.2.1), hm bu h.sBM (fun q hq => (hs q hq).2.2.2)⟩
/-- Behind an append of one entry. -/
theorem ElN.snoc {w1 w3 : World} {base wz : Nat} {fl bu v v' : Value} {fs : List (Int × Int)} {bs : List Bk} {L : List QM} {x : QM} {o : Obj} (h : ElN w1 base fl bu v fs bs L) (hm : Mems w1 x.q.b x.ms) (hx : ∀ k, (Value.slice x.q.b.mA x.q.b.mL x.q.b.mC).ownBlock = some k → wz ≤ k) (hb : base ≤ wz)
    (hv : ∀ k, v.ownBlock = some k → k < wz) (hvf : ∀ k, fl.ownBlock = some k → k < wz) (hvb : ∀ k, bu.ownBlock = some k → k < wz)
    (hown : w3.ownsRow base 67 12 v' (L.length + 1) (qmc L ++ x.q.cells)) (hg : (w1.alloc o).grownBy w3 v.ownBlock) (hl : v'.ownBlock = v.ownBlock ∨ v'.ownBlock = some (w1.alloc o).heap.size) : ElN w3 base fl bu v' fs bs (L ++ [x]) := by
  have h2 := h.eno.snoc hm hx hb hv hown hg hl
  have kf : ∀ {e : TypeId} {size n : Nat} {xs : List Value} {u : Value}, w1.ownsRow base e size u n xs → (∀ k, u.ownBlock = some k → v.ownBlock ≠ some k) → w3.ownsRow base e size u n xs := by
    intro e size n xs u hu hne
    refine (hu.alloc o).kept hg ?_
    cases hq : u.ownBlock with
    | none => exact .inl rfl
    | some k => exact .inr (fun e => hne k hq e.symm)
  have sep : ∀ (u : Value) {e : TypeId} {size n : Nat} {xs : List Value}, w1.ownsRow base e size u n xs → (∀ k, u.ownBlock = some k → v.ownBlock ≠ some k) → ∀ k, u.ownBlock = some k → v'.ownBlock ≠ some k := by
    intro u e size n xs hu hne k hk
    rcases hl with e1 | e1
    · rw [e1]; exact hne k hk
    · rw [e1]
      intro e2
      have := (hu.lt k hk).2
      simp at e2; omega
  have ms : ∀ (u : Value), (∀ k, u.ownBlock = some k → ∀ x ∈ L, 0 < x.ms.length → (Value.slice x.q.b.mA x.q.b.mL x.q.b.mC).ownBlock ≠ some k) → (∀ k, u.ownBlock = some k → k < wz) → ∀ k, u.ownBlock = some k → ∀ z ∈ L ++ [x], 0 < z.ms.length → (Value.slice z.q.b.mA z.q.b.mL z.q.b.mC).ownBlock ≠ some k := by
    intro u hu hlt k hk z hz h0 e
    rw [List.mem_append, List.mem_singleton] at hz
    rcases hz with hz | rfl
    · exact hu k hk z hz h0 e
    · have := hx k e; have := hlt k hk; omega
  exact ⟨kf h.flo h.sFE, kf h.buo h.sBE, h2, h.sFB, sep fl h.flo h.sFE, sep bu h.buo h.sBE, ms fl h.sFM hvf, ms bu h.sBM hvb⟩

/-! ### Cells at an offset -/
theorem loadVar_off {P : Program} {W : World} {B off : Nat} {cs : List Value} (ty : TypeId) (hc : ∀ j v, cs[j]? = some v → W.cell? ⟨B, off + j, none⟩ = some v) (d : TypeDesc) (hu : P.underlying ty = some d) (hd : (match d with | .struct _ | .array _ _ => true | _ => false) = true) (hi : (P.info? ty).map (·.size) = some cs.length) :
    (loadVar ty ⟨B, off, none⟩).run P W = .ok (.agg cs.toArray) W := by
  have hl : (loadCells ⟨B, off, none⟩ cs.length).run P W = .ok cs.toArray W :=
    run_loadCells_list (P := P) W ⟨B, off, none⟩ cs (fun j v hv => by
      rw [Addr.add_lit]
      exact hc j v hv)
  cases hq : P.info? ty with
  | none => simp [hq] at hi
  | some i =>
    have hs : i.size = cs.length := by simpa [hq] using hi
    have hagg : (isAgg ty).run P W = .ok true W := by
      unfold isAgg
      rw [Sem.run_bind, run_underlying hu W]
      cases d <;> simp_all
    simp [loadVar, Sem.run_bind, hagg, sizeOf, typeInfo, hq, hs, hl]
theorem storeVar_off {P : Program} {W : World} {B off : Nat} {cs vs : List Value} (ty : TypeId) (hc : ∀ j v, cs[j]? = some v → W.cell? ⟨B, off + j, none⟩ = some v) (hf : ∀ j, W.frozen? ⟨B, off + j, none⟩ = false) (hv : vs.length = cs.length) (h1 : ∀ v ∈ vs, v.oneCell' = true) (hi : (P.info? ty).map (·.size) = some vs.length) :
    (storeVar ty ⟨B, off, none⟩ (.agg vs.toArray)).run P W = .ok () (setRow W B off vs) := by
  have := run_storeCells_cells (P := P) B off vs 0 W (fun j hj => by
    have hc2 : cs[j]? = some (cs[j]'(by omega)) := List.getElem?_eq_getElem _
    have := hc j _ hc2
    simp only [Nat.add_zero]
    rw [this]; rfl) (fun j hj => by simp only [Nat.add_zero]; exact hf j) h1
  rw [setCells_row] at this
  cases hq : P.info? ty with
  | none => simp [hq] at hi
  | some i =>
    have hs : vs.length = i.size := by simp [hq] at hi; omega
    simp only [Nat.add_zero] at this
    simp [storeVar, sizeOf, typeInfo, hq, Value.cells, hs, this]
theorem exec_store_off {P : Program} {W : World} {a : Act} {o : Oper} {B off : Nat} {cs vs : List Value} (ty : TypeId) (x y : Operand) (ho : o.op = .store ty x y) (hx : a.eval x = .pointer (some ⟨B, off, none⟩)) (hy : a.eval y = .agg vs.toArray)
    (hc : ∀ j v, cs[j]? = some v → W.cell? ⟨B, off + j, none⟩ = some v) (hf : ∀ j, W.frozen? ⟨B, off + j, none⟩ = false) (hv : vs.length = cs.length) (h1 : ∀ v ∈ vs, v.oneCell' = true) (hi : (P.info? ty).map (·.size) = some vs.length) :
    (execOp a.eval o).run P W = .ok .skip (setRow W B off vs) := by
  unfold execOp
  simp only [ho, hx, hy, Instr.storeAt, Instr.sureAddr, Sem.run_bind, Sem.run_pure, Result.andThen_ok, storeVar_off ty hc hf hv h1 hi]
theorem exec_load_off {P : Program} {W : World} {a : Act} {o : Oper} {B off : Nat} {cs : List Value} (ty : TypeId) (x : Operand) (ho : o.op = .load ty x) (hx : a.eval x = .pointer (some ⟨B, off, none⟩))
    (hc : ∀ j v, cs[j]? = some v → W.cell? ⟨B, off + j, none⟩ = some v) (d : TypeDesc) (hu : P.underlying ty = some d) (hd : (match d with | .struct _ | .array _ _ => true | _ => false) = true) (hi : (P.info? ty).map (·.size) = some cs.length) :
    (execOp a.eval o).run P W = .ok (.value (.agg cs.toArray)) W := by
  unfold execOp
  simp only [ho, hx, Instr.loadAt, Instr.sureAddr, Sem.run_bind, Sem.run_pure, Result.andThen_ok, loadVar_off ty hc d hu hd hi]
open Go.Sort in
theorem wpQuiet_load_s {P : Program} {S : World → Prop} {ops : Array Oper} {rest : List Oper} {o : Oper} {a : Act} {Q : Act → Prop} (hgd : o.guard = none) (ty : TypeId) (x : Operand) (ho : o.op = .load ty x)
    {B : Nat} {cs : List Value} (hx : a.eval x = .pointer (some ⟨B, 0, none⟩)) (hB : ∀ w', S w' → AtF w' B cs) (d : TypeDesc) (hu : P.underlying ty = some d) (hd : (match d with | .struct _ | .array _ _ => true | _ => false) = true) (hi : (P.info? ty).map (·.size) = some cs.length)
    (h : wpQuiet P ops (fun w' => ∃ p : InS S, w' = p.w) Q rest (a.put o.dst (.agg cs.toArray))) : wpQuiet P ops (fun w' => ∃ p : InS S, w' = p.w) Q (o :: rest) a := by
  unfold wpQuiet
  have hw : Region.wanted o (yielded ops a.tmps) = true := by simp [Region.wanted, hgd]
  rw [if_pos hw]
  refine ⟨_, ?_, h⟩
  rintro w' ⟨p, rfl⟩
  unfold Oper.quietAt execOp
  simp only [ho, hx, Instr.loadAt, Instr.sureAddr, Sem.run_bind, Sem.run_pure, Result.andThen_ok, loadVar_at ty (hB p.w p.h) d hu hd hi]
  exact ⟨rfl, rfl⟩
end Go.Proofs.YtpgjbocjhconoaaGreat
