/- What ElevatorRuns keeps from act to act. -/
import Derived.Test.YtpgjbocjhconoaaGreatBsy
import Derived.Test.YtpgjbocjhconoaaGreatElRN
import Derived.Test.YtpgjbocjhconoaaGreatElRW
import Derived.Test.YtpgjbocjhconoaaGreatK3
namespace Go.Proofs.YtpgjbocjhconoaaGreat
open Go.RowKit Go.Maps
set_option linter.unusedSimpArgs false

/-- A scheduler with at most k entries, all of the four tenants. -/
structure OkT (k : Nat) (E : El) : Prop where
  a : OkA k E
  t : ∀ x ∈ E.en, 0 ≤ x.u.ten ∧ x.u.ten < 4
theorem OkT.add {k : Nat} {E : El} (h : OkT k E) (M B : Int) (b : Bu) : OkT (k + 1) (addE M B E b).1 := by
  refine ⟨h.a.add M B b, ?_⟩
  unfold addE
  split
  · rename_i hok
    split
    · rename_i i hp
      obtain ⟨a, ha, hc, hd⟩ := partP_find hp
      simp only [ha]
      split
      · obtain ⟨x, y, hj⟩ := join_shape hc
        intro z hz
        have hz' : z ∈ E.en.set i ⟨joinU a.u b (canU M B a.u b), min a.due (dueU E.rdE E.wrE b), a.sta, a.tri⟩ := hz
        rcases List.mem_or_eq_of_mem_set hz' with hz | rfl
        · exact h.t z hz
        · show 0 ≤ (joinU a.u b (canU M B a.u b)).ten ∧ (joinU a.u b (canU M B a.u b)).ten < 4
          rw [hj.eq]
          exact h.t a (List.mem_of_getElem? ha)
      · exact h.t
    · split
      · intro z hz
        have hz' : z ∈ E.en ++ [(⟨b, dueU E.rdE E.wrE b, (stampB E.vt E.fl b.ten b.cnt).2.1, 0⟩ : Qu)] := hz
        rcases List.mem_append.1 hz' with hz | hz
        · exact h.t z hz
        · rw [List.mem_singleton] at hz
          subst hz
          exact hok.2
      · exact h.t
  · exact h.t
theorem OkT.next {k : Nat} {E : El} (h : OkT k E) (now : Int) (busy : List Bu) : OkT k (nxtE E now busy).1 := by
  unfold nxtE
  split
  · rename_i E' x hx
    unfold nextE at hx
    split at hx
    · rename_i j hj
      split at hx
      · rename_i y hy
        injection hx with hx
        injection hx with h3 h4
        subst h3 h4
        refine ⟨⟨h.a.fl, ?_, ?_, fun z hz => h.a.ok z (List.mem_of_mem_eraseIdx hz)⟩, fun z hz => h.t z (List.mem_of_mem_eraseIdx hz)⟩
        · show (E.bk.set _ _).length = 4
          rw [List.length_set]; exact h.a.bk
        · show (E.en.eraseIdx j).length ≤ k
          have h1 := h.a.en
          have h2 := List.length_eraseIdx_le E.en j
          omega
      · cases hx
    · cases hx
  · exact h
theorem OkT.tens {k : Nat} {E : El} (h : OkT k E) {L : List QM} (hL : L.map QM.qu = E.en) : ∀ x ∈ L, 0 ≤ x.q.b.ten ∧ x.q.b.ten < E.bk.length := fun x hx => by
  rw [h.a.bk]
  exact h.t x.qu (by rw [← hL]; exact List.mem_map_of_mem hx)
theorem ElN.oldOff {w : World} {base : Nat} {fl bu en : Value} {fs : List (Int × Int)} {bs : List Bk} {L : List QM} (h : ElN w base fl bu en fs bs L) {N : Nat} (hN : N < base) : Off N fl bu en L :=
  ⟨fun e => by have := (h.flo.lt _ e).1; omega, fun e => by have := (h.buo.lt _ e).1; omega, fun e => by have := (h.eno.bo.own.lt _ e).1; omega, fun x hx h0 e => by
    obtain ⟨j, hj⟩ := List.getElem?_of_mem hx
    have := h.eno.fr j x (List.getElem?_eq_some_iff.1 hj).1 hj h0 _ e
    omega⟩

/-- The five calls, alike for both schedulers. -/
theorem elAdd_S (M B : Int) (E E' : El) (b' : Bool) (fl bu en : Value) (L : List QM) (y : BM) (w : World) (h : ElR w fl bu en E.fl E.bk L) (hL : L.map QM.qu = E.en) (ho : OkE E) (hy : Mems w y.b y.ms) (hym : y.ms.length ≤ 1000) (he : addE M B E y.bu = (E', b')) :
    Calls Tryz.prog 8 #[.agg #[.int .i64 M, .int .i64 B], .agg #[.int .i64 E.knd, .int .i64 E.rdE, .int .i64 E.wrE, .int .i64 E.vt, fl, bu, en, .int .i64 E.hd], .agg #[.int .i64 (y.b).id, .int .i64 (y.b).ten, .int .i64 (y.b).knd, .int .i64 (y.b).sec, .int .i64 (y.b).cnt, .string (y.b).dat, .bool (y.b).fua, .slice (y.b).mA (y.b).mL (y.b).mC, .int .i64 (y.b).tim]] w fun e w' => ∃ fl' bu' en' L',
      e = .returned (.tuple #[.agg #[.int .i64 E'.knd, .int .i64 E'.rdE, .int .i64 E'.wrE, .int .i64 E'.vt, fl', bu', en', .int .i64 E'.hd], .bool b']) ∧
      ElR w' fl' bu' en' E'.fl E'.bk L' ∧ L'.map QM.qu = E'.en ∧ (∀ N < w.heap.size, Off N fl bu en L → Ofm N y → Off N fl' bu' en' L') ∧ Bel w w' := by
  have H := elAdd_R M B E fl bu en L y w h hL ho hy hym
  obtain ⟨q1, q2, q3, q4, q5, q6⟩ := addE_same M B E y.bu
  rw [he] at H q1 q2 q3 q4 q5 q6
  simp only at H q1 q2 q3 q4 q5 q6
  rw [q1, q2, q3, q4, q5, q6]
  exact H.mono fun e w' ⟨fl', bu', en', L', h1, h2, h3, h4⟩ => ⟨fl', bu', en', L', h1, ElR.of h2, h3, fun N hN _ _ => h2.oldOff hN, h4⟩
theorem refAdd_S (M B : Int) (E E' : El) (b' : Bool) (fl bu en : Value) (L : List QM) (y : BM) (w : World) (h : ElR w fl bu en E.fl E.bk L) (hL : L.map QM.qu = E.en) (ho : OkE E) (hy : Mems w y.b y.ms) (he : addE M B E y.bu = (E', b')) :
    Calls Tryz.prog 9 #[.agg #[.int .i64 M, .int .i64 B], .agg #[.int .i64 E.knd, .int .i64 E.rdE, .int .i64 E.wrE, .int .i64 E.vt, fl, bu, en, .int .i64 E.hd], .agg #[.int .i64 (y.b).id, .int .i64 (y.b).ten, .int .i64 (y.b).knd, .int .i64 (y.b).sec, .int .i64 (y.b).cnt, .string (y.b).dat, .bool (y.b).fua, .slice (y.b).mA (y.b).mL (y.b).mC, .int .i64 (y.b).tim]] w fun e w' => ∃ fl' bu' en' L',
      e = .returned (.tuple #[.agg #[.int .i64 E'.knd, .int .i64 E'.rdE, .int .i64 E'.wrE, .int .i64 E'.vt, fl', bu', en', .int .i64 E'.hd], .bool b']) ∧
      ElR w' fl' bu' en' E'.fl E'.bk L' ∧ L'.map QM.qu = E'.en ∧ (∀ N < w.heap.size, Off N fl bu en L → Ofm N y → Off N fl' bu' en' L') ∧ Bel w w' := by
  have H := refAdd_E M B E fl bu en L y w h hL ho hy
  obtain ⟨q1, q2, q3, q4, q5, q6⟩ := addE_same M B E y.bu
  rw [he] at H q1 q2 q3 q4 q5 q6
  simp only at H q1 q2 q3 q4 q5 q6
  rw [q1, q2, q3, q4, q5, q6]
  exact H
theorem elNext_S (E E' : El) (p : Bu) (b' : Bool) (now : Int) (fl bu en bv : Value) (L : List QM) (B : List BM) (w : World) (h : ElR w fl bu en E.fl E.bk L) (hL : L.map QM.qu = E.en) (ho : OkE E) (hB : BL w bv B) (he : nxtE E now (B.map BM.bu) = (E', p, b')) :
    Calls Tryz.prog 11 #[.agg #[.int .i64 E.knd, .int .i64 E.rdE, .int .i64 E.wrE, .int .i64 E.vt, fl, bu, en, .int .i64 E.hd], .int .i64 now, bv] w fun e w' => ∃ fl' bu' en' L' A c,
      e = .returned (.tuple #[.agg #[.int .i64 E'.knd, .int .i64 E'.rdE, .int .i64 E'.wrE, .int .i64 E'.vt, fl', bu', en', .int .i64 E'.hd], .agg #[.int .i64 ((p.at A c)).id, .int .i64 ((p.at A c)).ten, .int .i64 ((p.at A c)).knd, .int .i64 ((p.at A c)).sec, .int .i64 ((p.at A c)).cnt, .string ((p.at A c)).dat, .bool ((p.at A c)).fua, .slice ((p.at A c)).mA ((p.at A c)).mL ((p.at A c)).mC, .int .i64 ((p.at A c)).tim], .bool b']) ∧
      ElR w' fl' bu' en' E'.fl E'.bk L' ∧ L'.map QM.qu = E'.en ∧ (∀ N < w.heap.size, Off N fl' bu' en' L') ∧ Zb w' w.heap.size p A c ∧ Bel w w' := by
  obtain ⟨h1, h2, h3⟩ := ho.ms hL
  have H := elNext_any E.knd E.rdE E.wrE E.vt E.hd now fl bu en bv E.fl E.bk L B w h.f h.b h.q hB (by rw [ho.fl]; omega) (by rw [ho.bk]; omega) h1 h2 h3
  have e : (⟨E.knd, E.rdE, E.wrE, E.vt, E.fl, E.bk, L.map QM.qu, E.hd⟩ : El) = E := by rw [hL]
  obtain ⟨q1, q2, q3⟩ := nxtE_same E now (B.map BM.bu)
  rw [e, he] at H
  rw [he] at q1 q2 q3
  simp only at H q1 q2 q3
  rw [q1, q2, q3]
  exact H.mono fun e w' ⟨fl', bu', en', L', A, c, h1, h2, h3, h4, h5⟩ => ⟨fl', bu', en', L', A, c, h1, ElR.of h2, h3, fun N hN => h2.oldOff hN, h4, h5⟩
theorem refNext_S (E E' : El) (p : Bu) (b' : Bool) (now : Int) (fl bu en bv : Value) (L : List QM) (B : List BM) (w : World) (k : Nat) (h : ElR w fl bu en E.fl E.bk L) (hL : L.map QM.qu = E.en) (ho : OkE E) (ht : OkT k E) (hB : BL w bv B) (he : nxtE E now (B.map BM.bu) = (E', p, b')) :
    Calls Tryz.prog 12 #[.agg #[.int .i64 E.knd, .int .i64 E.rdE, .int .i64 E.wrE, .int .i64 E.vt, fl, bu, en, .int .i64 E.hd], .int .i64 now, bv] w fun e w' => ∃ fl' bu' en' L' A c,
      e = .returned (.tuple #[.agg #[.int .i64 E'.knd, .int .i64 E'.rdE, .int .i64 E'.wrE, .int .i64 E'.vt, fl', bu', en', .int .i64 E'.hd], .agg #[.int .i64 ((p.at A c)).id, .int .i64 ((p.at A c)).ten, .int .i64 ((p.at A c)).knd, .int .i64 ((p.at A c)).sec, .int .i64 ((p.at A c)).cnt, .string ((p.at A c)).dat, .bool ((p.at A c)).fua, .slice ((p.at A c)).mA ((p.at A c)).mL ((p.at A c)).mC, .int .i64 ((p.at A c)).tim], .bool b']) ∧
      ElR w' fl' bu' en' E'.fl E'.bk L' ∧ L'.map QM.qu = E'.en ∧ Mems w' (p.at A c) p.ms ∧ (∀ N < w.heap.size, Off N fl bu en L → Off N fl' bu' en' L') ∧ Bel w w' := by
  obtain ⟨h1, h2, h3⟩ := ho.ms hL
  have H := refElNext_any E.knd E.rdE E.wrE E.vt E.hd now fl bu en bv E.fl E.bk L B w h hB (by rw [ho.fl]; omega) (by rw [ho.bk]; omega) h1 (ht.tens hL) h3
  have e : (⟨E.knd, E.rdE, E.wrE, E.vt, E.fl, E.bk, L.map QM.qu, E.hd⟩ : El) = E := by rw [hL]
  obtain ⟨q1, q2, q3⟩ := nxtE_same E now (B.map BM.bu)
  rw [e, he] at H
  rw [he] at q1 q2 q3
  simp only at H q1 q2 q3
  rw [q1, q2, q3]
  exact H
theorem elWake_S (E : El) (now : Int) (fl bu en : Value) (L : List QM) (w : World) (h : ElR w fl bu en E.fl E.bk L) (hL : L.map QM.qu = E.en) (ho : OkE E) (hnow : IsInt (now + 1)) :
    Calls Tryz.prog 13 #[.agg #[.int .i64 E.knd, .int .i64 E.rdE, .int .i64 E.wrE, .int .i64 E.vt, fl, bu, en, .int .i64 E.hd], .int .i64 now] w fun e w' => e = .returned (.tuple #[.int .i64 ((wakL E.bk now E.en).getD 0), .bool (wakL E.bk now E.en).isSome]) ∧ Bel w w' := by
  obtain ⟨h1, _, _⟩ := ho.ms hL
  have H := elWake_any E.knd E.rdE E.wrE E.vt E.hd now fl bu en E.fl E.bk L w h.b h.q (by obtain ⟨A, c, hv, _⟩ := h.f.form; exact ⟨A, c, hv⟩) (by omega) hnow
  rw [hL] at H
  exact H
theorem refWake_S (E : El) (now : Int) (fl bu en : Value) (L : List QM) (w : World) (k : Nat) (h : ElR w fl bu en E.fl E.bk L) (hL : L.map QM.qu = E.en) (ho : OkE E) (ht : OkT k E) (hnow : IsInt (now + 1)) :
    Calls Tryz.prog 14 #[.agg #[.int .i64 E.knd, .int .i64 E.rdE, .int .i64 E.wrE, .int .i64 E.vt, fl, bu, en, .int .i64 E.hd], .int .i64 now] w fun e w' => e = .returned (.tuple #[.int .i64 ((wakL E.bk now E.en).getD 0), .bool (wakL E.bk now E.en).isSome]) ∧ Bel w w' := by
  obtain ⟨h1, _, _⟩ := ho.ms hL
  have H := refElWake_any E.knd E.rdE E.wrE E.vt E.hd now fl bu en E.fl E.bk L w h (by omega) (ht.tens hL) hnow
  rw [hL] at H
  exact H
theorem same_S (E : El) (fl bu en fl' bu' en' : Value) (L L' : List QM) (w : World) (h : ElR w fl bu en E.fl E.bk L) (hL : L.map QM.qu = E.en) (h' : ElR w fl' bu' en' E.fl E.bk L') (hL' : L'.map QM.qu = E.en) (ho : OkE E) :
    Calls Tryz.prog 10 #[.agg #[.int .i64 E.knd, .int .i64 E.rdE, .int .i64 E.wrE, .int .i64 E.vt, fl, bu, en, .int .i64 E.hd], .agg #[.int .i64 E.knd, .int .i64 E.rdE, .int .i64 E.wrE, .int .i64 E.vt, fl', bu', en', .int .i64 E.hd]] w fun e w' => e = .returned (.bool true) ∧ Bel w w' := by
  obtain ⟨h1, _, _⟩ := ho.ms hL
  exact sameElev_any E.knd E.rdE E.wrE E.vt E.hd E.fl E.bk L L' fl bu en fl' bu' en' w h.f h'.f h.b h'.b h.q h'.q (by rw [hL, hL']) (by rw [ho.fl]; omega) (by rw [ho.bk]; omega) (by omega)

/-- Rows of bunches that lie in no block k. -/
def OffB (k : Nat) (v : Value) (L : List BM) : Prop := v.ownBlock ≠ some k ∧ ∀ x ∈ L, 0 < x.ms.length → (Value.slice x.b.mA x.b.mL x.b.mC).ownBlock ≠ some k
theorem BL.grown {w w' : World} {v : Value} {L : List BM} {row : Option Nat} (h : BL w v L) (hg : w.grownBy w' row) (hr : ∀ k, row = some k → OffB k v L) : BL w' v L :=
  ⟨h.rd.grown hg (fun b hb e => (hr b e).1 hb), fun x hx => (h.mem x hx).grown hg (fun h0 k hk e => (hr k e).2 x hx h0 hk)⟩
theorem ElR.grown {w w' : World} {fl bu en : Value} {fs : List (Int × Int)} {bs : List Bk} {L : List QM} {row : Option Nat} (h : ElR w fl bu en fs bs L) (hg : w.grownBy w' row) (hr : ∀ k, row = some k → Off k fl bu en L) : ElR w' fl bu en fs bs L :=
  ⟨h.f.grown hg (fun b hb e => (hr b e).f hb), h.b.grown hg (fun b hb e => (hr b e).b hb), ⟨h.q.rd.grown hg (fun b hb e => (hr b e).e hb), fun x hx => (h.q.mem x hx).grown hg (fun h0 k hk e => (hr k e).m x hx h0 hk)⟩,
    fun k hk => Nat.lt_of_lt_of_le (h.lt k hk) hg.size, h.nz⟩
theorem Bel.grown {a w w' : World} {row : Option Nat} (h : Bel a w) (hg : w.grownBy w' row) (hr : ∀ k, row = some k → a.heap.size ≤ k) : Bel a w' :=
  Below.grown h hg h.size hr

/-- What lies in memory between two acts. -/
structure RS (w0 w : World) (X X2 XL Z : Nat) (M D : Int) (av : Value) (LB : List BM) (E : El) (fl bu en : Value) (L : List QM) (fl2 bu2 en2 : Value) (L2 : List QM) (bv : Value) (B : List BM) : Prop where
  x : AtF w X [.int .i64 E.knd, .int .i64 E.rdE, .int .i64 E.wrE, .int .i64 E.vt, fl, bu, en, .int .i64 E.hd]
  x2 : AtF w X2 [.int .i64 E.knd, .int .i64 E.rdE, .int .i64 E.wrE, .int .i64 E.vt, fl2, bu2, en2, .int .i64 E.hd]
  xl : AtF w XL [.int .i64 M, .int .i64 D]
  r : ElR w fl bu en E.fl E.bk L
  r2 : ElR w fl2 bu2 en2 E.fl E.bk L2
  q : L.map QM.qu = E.en
  q2 : L2.map QM.qu = E.en
  o : ∀ k, (k = X ∨ k = X2 ∨ bv.ownBlock = some k) → Off k fl bu en L
  o2 : ∀ k, (k = X ∨ k = X2 ∨ bv.ownBlock = some k) → Off k fl2 bu2 en2 L2
  al : BL w av LB
  oa : ∀ k, (k = X ∨ k = X2 ∨ Z ≤ k) → OffB k av LB
  bs : Bsy w Z bv B
  bel : Bel w0 w
  sz : w0.heap.size ≤ X ∧ X < X2 ∧ X2 < XL ∧ XL < Z ∧ Z ≤ w.heap.size

section
variable {w0 w w' : World} {X X2 XL Z : Nat} {M D : Int} {av : Value} {LB : List BM} {E E' : El} {fl bu en : Value} {L : List QM} {fl2 bu2 en2 : Value} {L2 : List QM} {bv : Value} {B : List BM}
theorem Bsy.blk (h : Bsy w Z bv B) {k : Nat} (hk : bv.ownBlock = some k) : Z ≤ k ∧ k < w.heap.size := by
  rcases h.val with ⟨rfl, _⟩ | ⟨b, off, cap, rfl, h1, h2, _⟩
  · cases hk
  · cases hk; exact ⟨h1, h2⟩
theorem RS.keep (h : RS w0 w X X2 XL Z M D av LB E fl bu en L fl2 bu2 en2 L2 bv B) (hb : Bel w w') : RS w0 w' X X2 XL Z M D av LB E fl bu en L fl2 bu2 en2 L2 bv B :=
  ⟨h.x.bel hb, h.x2.bel hb, h.xl.bel hb, h.r.bel hb, h.r2.bel hb, h.q, h.q2, h.o, h.o2, ⟨h.al.rd.bel hb, fun x hx => (h.al.mem x hx).bel hb⟩, h.oa, h.bs.keep hb, h.bel.trans hb, by have := hb.size; have := h.sz; omega⟩
/-- Both boxes stored. -/
theorem RS.store (h : RS w0 w X X2 XL Z M D av LB E fl bu en L fl2 bu2 en2 L2 bv B) {fl5 bu5 en5 : Value} {L5 : List QM} {fl6 bu6 en6 : Value} {L6 : List QM} (r5 : ElR w fl5 bu5 en5 E'.fl E'.bk L5) (q5 : L5.map QM.qu = E'.en) (o5 : ∀ k, (k = X ∨ k = X2 ∨ bv.ownBlock = some k) → Off k fl5 bu5 en5 L5)
    (r6 : ElR w fl6 bu6 en6 E'.fl E'.bk L6) (q6 : L6.map QM.qu = E'.en) (o6 : ∀ k, (k = X ∨ k = X2 ∨ bv.ownBlock = some k) → Off k fl6 bu6 en6 L6) {R5 R6 : List Value} (e5 : R5 = [.int .i64 E'.knd, .int .i64 E'.rdE, .int .i64 E'.wrE, .int .i64 E'.vt, fl5, bu5, en5, .int .i64 E'.hd]) (e6 : R6 = [.int .i64 E'.knd, .int .i64 E'.rdE, .int .i64 E'.wrE, .int .i64 E'.vt, fl6, bu6, en6, .int .i64 E'.hd]) :
    RS w0 (setRow (setRow w X 0 R5) X2 0 R6) X X2 XL Z M D av LB E' fl5 bu5 en5 L5 fl6 bu6 en6 L6 bv B := by
  obtain ⟨s1, s2, s3, s4, s5⟩ := h.sz
  have g1 := setRowL_grown X R5 0 w
  have g2 := setRowL_grown X2 R6 0 (setRow w X 0 R5)
  have z1 := g1.size
  have z2 := g2.size
  have x1 := (h.x.setRow R5 (by rw [e5]; rfl)).setRow_other (B := X2) (i := 0) R6 (by omega)
  have x2 := (h.x2.setRow_other (B := X) (i := 0) R5 (by omega)).setRow R6 (by rw [e6]; rfl)
  refine ⟨by rw [← e5]; exact x1, by rw [← e6]; exact x2, (h.xl.setRow_other _ (by omega)).setRow_other _ (by omega), ?_, ?_, q5, q6, o5, o6, ?_, h.oa, (h.bs.setRow _ _ _ (by omega)).setRow _ _ _ (by omega), Bel.setRow _ (Bel.setRow _ h.bel (by omega)) (by omega), by omega⟩
  · exact ElR.offRow (o5 X2 (.inr (.inl rfl))) _ (ElR.offRow (o5 X (.inl rfl)) _ r5)
  · exact ElR.offRow (o6 X2 (.inr (.inl rfl))) _ (ElR.offRow (o6 X (.inl rfl)) _ r6)
  · exact (h.al.grown g1 (fun k hk => by cases hk; exact h.oa X (.inl rfl))).grown g2 (fun k hk => by cases hk; exact h.oa X2 (.inr (.inl rfl)))
/-- One more busy. -/
theorem RS.push (h : RS w0 w X X2 XL Z M D av LB E fl bu en L fl2 bu2 en2 L2 bv B) {v' : Value} {y : BM} (hb : Bsy w' Z v' (B ++ [y])) (hg : w.grownBy w' bv.ownBlock) (hv : v'.ownBlock = bv.ownBlock ∨ ∃ k, v'.ownBlock = some k ∧ w.heap.size ≤ k) :
    RS w0 w' X X2 XL Z M D av LB E fl bu en L fl2 bu2 en2 L2 v' (B ++ [y]) := by
  obtain ⟨s1, s2, s3, s4, s5⟩ := h.sz
  have hz := hg.size
  have hk : ∀ k, bv.ownBlock = some k → Z ≤ k := fun k hk => (h.bs.blk hk).1
  refine ⟨h.x.grown hg (fun e => by have := hk X e.symm; omega), h.x2.grown hg (fun e => by have := hk X2 e.symm; omega), h.xl.grown hg (fun e => by have := hk XL e.symm; omega), h.r.grown hg (fun k e => h.o k (.inr (.inr e))), h.r2.grown hg (fun k e => h.o2 k (.inr (.inr e))), h.q, h.q2, ?_, ?_,
    h.al.grown hg (fun k e => h.oa k (.inr (.inr (hk k e)))), h.oa, hb, h.bel.grown hg (fun k e => by have := hk k e; omega), by omega⟩
  · intro k hk'
    rcases hk' with e | e | e
    · exact h.o k (.inl e)
    · exact h.o k (.inr (.inl e))
    · rcases hv with h1 | ⟨k1, h1, h2⟩
      · exact h.o k (.inr (.inr (h1 ▸ e)))
      · rw [h1] at e; cases e; exact h.r.newOff h2
  · intro k hk'
    rcases hk' with e | e | e
    · exact h.o2 k (.inl e)
    · exact h.o2 k (.inr (.inl e))
    · rcases hv with h1 | ⟨k1, h1, h2⟩
      · exact h.o2 k (.inr (.inr (h1 ▸ e)))
      · rw [h1] at e; cases e; exact h.r2.newOff h2
/-- The first of the busy ones left out. -/
theorem RS.cut {b off n cap : Nat} {y : BM} (h : RS w0 w X X2 XL Z M D av LB E fl bu en L fl2 bu2 en2 L2 (.slice (some ⟨b, off, none⟩) (n + 1) cap) (y :: B)) (hn : 0 < B.length) :
    RS w0 w X X2 XL Z M D av LB E fl bu en L fl2 bu2 en2 L2 (.slice (some ⟨b, off + 9, none⟩) B.length (cap - 1)) B :=
  ⟨h.x, h.x2, h.xl, h.r, h.r2, h.q, h.q2, h.o, h.o2, h.al, h.oa, h.bs.tail hn, h.bel, h.sz⟩
end
end Go.Proofs.YtpgjbocjhconoaaGreat
