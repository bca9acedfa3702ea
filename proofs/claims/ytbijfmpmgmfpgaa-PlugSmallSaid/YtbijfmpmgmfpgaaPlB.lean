/- copies.Each over bunches, copies.Plug. -/
import Derived.Test.YtbijfmpmgmfpgaaPlA
import Derived.Shelf.Abstract
namespace Go.Proofs.Ytbijfmpmgmfpgaa
open Go.RowKit Go.Maps
set_option linter.unusedSimpArgs false

theorem Try.infoBunchP : (Try.prog.info? 27).map (fun i => (i.zero, i.size, i.bytes)) = some (some (.agg #[.int .i64 0, .int .i64 0, .int .i64 0, .int .i64 0, .int .i64 0, .string ⟨#[]⟩, .bool false, .slice none 0 0, .int .i64 0]), 9, 96) := by kernel_rfl
theorem bcells_oneP (b : Bun) : ∀ u ∈ b.cells, u.oneCell' = true := fun u hu => by
  simp only [Bun.cells, List.mem_cons, List.not_mem_nil, or_false] at hu
  rcases hu with rfl | rfl | rfl | rfl | rfl | rfl | rfl | rfl | rfl <;> rfl
theorem bmc_one (L : List BM) : ∀ u ∈ bmc L, u.oneCell' = true := flat_one (f := fun x : BM => x.b.cells) (fun a => bcells_oneP a.b) L
set_option maxHeartbeats 2000000 in
theorem cloneBun_any (cs : List Value) (n : Nat) (v : Value) (w : World) (h : Rd w v 9 n cs) (hone : ∀ u ∈ cs, u.oneCell' = true) (hn : n ≤ 1000) :
    Calls Try.prog 95 #[v] w fun e w' => ∃ v', e = .returned v' ∧ w'.ownsRow w.heap.size 27 9 v' n cs ∧ Bel w w' := by
  obtain ⟨hl, A, cp, rfl, hcp, hmx, hr⟩ := h
  have hone := Lib.hid hone
  have q22 : ∀ (w : World) (a : Option Addr) (n c n' c' : Nat), (binOp .eql 46 (.slice a n c) (.slice none n' c')).run Try.prog w = .ok (.bool a.isNone) w := fun w a n c n' c' => Lib.run_eql_slice_nil w _ _ a n c n' c' Try.underlying46
  obtain ⟨i0, hi, hz0, hz1, hz2⟩ := info_parts Try.infoBunchP
  have HR := Lib.hid hr
  clear hr
  cases A with
  | none =>
    obtain rfl : n = 0 := by
      rcases Nat.eq_zero_or_pos n with h0 | h0
      · exact h0
      · obtain ⟨b, o, hA, _⟩ := HR.out h0; cases hA
    obtain rfl : cs = [] := by simpa using hl
    go_enter Try.func95, Try.ntmps95
    go_wp2
    go_ret
    exact ⟨_, rfl, ⟨by simp, Or.inl ⟨rfl, rfl⟩⟩, (by repeat (first | (with_reducible exact Bel.refl _) | (with_reducible assumption) | (with_reducible refine Bel.drewN ?_ _) | (with_reducible refine Bel.drew ?_) | (with_reducible refine Bel.alloc ?_ _) | (with_reducible refine Bel.setNew ?_ ?_ _) | (with_reducible refine Bel.trans ?_ (by assumption)) | (focus (simp; done)) | (focus (simp; omega))))⟩
  | some p =>
    go_enter Try.func95, Try.ntmps95
    go_wp2_with (at_builtin; go_must (refine wpList_append_own_at _ rfl _ _ 46 rfl w.heap.size 27 i0 _ 9 96 Try.underlying46 hi hz0 hz1 hz2 rfl (by omega) _ 0 [] rfl (World.ownsRow_made w #[] 0 (Nat.le_refl _) (Nat.zero_le _) rfl) p n cp cs rfl hl ?q1 hone.out (by unfold maxLen; omega) (by omega) (by simp) ?_))
    case q1 =>
      intro j u hj
      have hjn := (List.getElem?_eq_some_iff.1 hj).1
      obtain ⟨b, o, hA, hlb, hcell⟩ := HR.out (by omega)
      cases hA
      rw [Addr.add_lit]
      refine Lib.cell?_alloc_some _ ?_
      exact hcell j u hj
    intro v' w3 hown hg _ _
    go_wp2
    go_ret
    exact ⟨v', rfl, by simpa using hown, bel_own ((Bel.refl _).alloc _) (World.ownsRow_made (base := w.heap.size) (e := 27) (size := 9) w #[] 0 (Nat.le_refl _) (Nat.zero_le _) rfl) hg (Nat.le_refl _)⟩

/-- The list L', of which the first i are copies of L's, and the others L's own. -/
structure CpL (L L' : List BM) : Prop where
  len : L'.length = L.length
  bu : L'.map BM.bu = L.map BM.bu
theorem CpL.refl (L : List BM) : CpL L L := ⟨rfl, rfl⟩
theorem CpL.set {L L' : List BM} (h : CpL L L') {k : Nat} {x y : BM} (hx : L'[k]? = some x) (hy : y.bu = x.bu) : CpL L (L'.set k y) := by
  refine ⟨by rw [List.length_set]; exact h.len, ?_⟩
  rw [List.map_set, hy, ← h.bu]
  obtain ⟨h1, rfl⟩ := List.getElem?_eq_some_iff.1 hx
  apply List.ext_getElem?
  intro i
  rw [List.getElem?_set]
  split
  · rename_i e; subst e
    rw [List.length_map]
    split
    · rw [List.getElem?_map, List.getElem?_eq_getElem h1]; rfl
    · rename_i hn; exact absurd h1 hn
  · rfl
/-- The first i have their members above base. -/
def Frh (base : Nat) (L : List BM) (i : Nat) : Prop := ∀ j x, j < i → L[j]? = some x → 0 < x.ms.length → ∀ k, (Value.slice x.b.mA x.b.mL x.b.mC).ownBlock = some k → base ≤ k
theorem Frh.set {base : Nat} {L : List BM} {i : Nat} {y : BM} (h : Frh base L i) (hy : ∀ k, (Value.slice y.b.mA y.b.mL y.b.mC).ownBlock = some k → base ≤ k) : Frh base (L.set i y) (i + 1) := by
  intro j x hj hx h0 k hk
  rw [List.getElem?_set] at hx
  split at hx
  · split at hx
    · cases hx; exact hy k hk
    · cases hx
  · exact h j x (by omega) hx h0 k hk
/-- A row of bunches, it and its members of the call's own. -/
structure BN (w : World) (base : Nat) (v : Value) (L : List BM) : Prop where
  bo : BO w base v L
  fr : Frh base L L.length
theorem BN.keep {w w' : World} {base : Nat} {v : Value} {L : List BM} (h : BN w base v L) (hb : Bel w w') : BN w' base v L := ⟨h.bo.keep hb, h.fr⟩
theorem BN.mono {w : World} {base base' : Nat} {v : Value} {L : List BM} (h : BN w base v L) (hb : base' ≤ base) : BN w base' v L :=
  ⟨⟨own_mono h.bo.own hb, h.bo.mem, h.bo.sep⟩, fun j x hj hx h0 k hk => Nat.le_trans hb (h.fr j x hj hx h0 k hk)⟩
theorem BN.far {w : World} {base : Nat} {v : Value} {L : List BM} (h : BN w base v L) {p : Addr} (hp : p.block < base) (u : Value) : BN (w.setCell p u) base v L := by
  refine ⟨⟨own_far h.bo.own (fun e => ?_) u, fun x hx => ?_, h.bo.sep⟩, h.fr⟩
  · have := (h.bo.own.lt _ e).1; omega
  · have hm := h.bo.mem x hx
    refine ⟨hm.len, ?_, hm.ids, hm.dl⟩
    by_cases h0 : 0 < x.ms.length
    · obtain ⟨j, hj⟩ := List.getElem?_of_mem hx
      exact hm.rd.far (fun e => by have := h.fr j x (List.getElem?_eq_some_iff.1 hj).1 hj h0 _ e; omega) u
    · exact hm.rd.empty h0 _
theorem BN.setRow : ∀ (vs : List Value) {w : World} {base : Nat} {v : Value} {L : List BM} {B i : Nat}, BN w base v L → B < base → BN (setRow w B i vs) base v L
  | [], _, _, _, _, _, _, h, _ => h
  | u :: vs, _, _, _, _, B, i, h, hB => BN.setRow vs (h.far (p := ⟨B, i, none⟩) hB u) hB

set_option maxRecDepth 100000 in
set_option maxHeartbeats 8000000 in
theorem each_any (v : Value) (L : List BM) (w : World) (h : BL w v L) (hn : L.length ≤ 100) (hms : ∀ x ∈ L, x.ms.length ≤ 1000) :
    Calls Try.prog 87 #[v, .func (.func 64) #[] #[]] w fun e w' => ∃ v' L', e = .returned v' ∧ BN w' w.heap.size v' L' ∧ CpL L L' ∧ Bel w w' := by
  have eg : ∀ args w, (callFunc 64 args).run Try.prog w = .ok (.enter 64 args) w := enters_of Try.func64 (by kernel_rfl) rfl
  have HC := Lib.hid (cloneBun_any (bmc L) L.length v w h.rd (bmc_one L) (by omega))
  have HB := Lib.hid h
  have HMS := Lib.hid hms
  obtain ⟨A, c, rfl, _, _⟩ := h.form
  obtain ⟨n, Hn⟩ : ∃ n, Hid (n = L.length) := ⟨_, rfl⟩
  rw [← Hn.out] at HC hn ⊢
  clear h hms
  go_enter Try.func87, Try.ntmps87
  go_wp2_with fail
  refine HC.out.mono ?_; rintro e w1 ⟨v1, rfl, hown, hb1⟩
  obtain ⟨A1, c1, rfl⟩ := own_slice hown
  have hbl1 := HB.out.bel hb1
  have hbo : BO w1 w.heap.size (.slice A1 n c1) L := ⟨by rw [← Hn.out]; exact hown, hbl1.mem, fun x hx h0 k hk e => by
    have h1 := (hown.lt k e).1
    have h2 : k < w.heap.size := (HB.out.mem x hx).rd.own_lt h0 (by have hl := (HB.out.mem x hx).len; exact hk)
    omega⟩
  have HBO := Lib.hid hbo
  clear hbo hown hbl1
  go_wp2
  go_loopw [12] (fun iv wr => ∃ (i : Nat) (L' : List BM), iv = .int .i64 i ∧ i ≤ n ∧ Hid (CpL L L' ∧ Frh w.heap.size L' i) ∧ Hid (BO wr w.heap.size (.slice A1 n c1) L') ∧ Bel w wr) (fun iv _ => n - (intOf iv).toNat)
  case atStart => exact ⟨0, L, rfl, by omega, Lib.hid ⟨CpL.refl L, fun j x hj => absurd hj (by omega)⟩, HBO, hb1⟩
  case round =>
    clear HBO hb1
    obtain ⟨i, L', rfl, p1, HCP, HBO, hbr⟩ := hrel
    by_cases hlt : i < n
    · have i1 : (i : Int) < (n : Int) := by omega
      have hln := HCP.out.1.len
      obtain ⟨⟨⟨i1, t1, k1, s1, n1, d1, f1, a1, l1, c3, m1⟩, ms1⟩, hx⟩ : ∃ x, L'[i]? = some x := ⟨L'[i]'(by have := Hn.out; omega), List.getElem?_eq_getElem _⟩
      obtain ⟨hl, hr, hi, hd⟩ := HBO.out.mem _ (List.mem_of_getElem? hx)
      simp only at hl hr hi hd
      subst hl
      have hm0 : Mems wr (Bu.at ⟨i1, t1, k1, s1, n1, d1, f1, ms1, m1⟩ a1 c3) ms1 := ⟨rfl, hr, hi, hd⟩
      have hms1 : ms1.length ≤ 1000 := by
        have h1 : (L'.map BM.bu)[i]? = some ⟨i1, t1, k1, s1, n1, d1, f1, ms1, m1⟩ := by rw [List.getElem?_map, hx]; rfl
        rw [HCP.out.1.bu, List.getElem?_map] at h1
        cases h2 : L[i]? with
        | none => rw [h2] at h1; cases h1
        | some y =>
          rw [h2] at h1
          have h3 := HMS.out y (List.mem_of_getElem? h2)
          have h4 : y.ms = ms1 := by simp only [Option.map_some, Option.some.injEq, BM.bu, Bu.mk.injEq] at h1; exact h1.2.2.2.2.2.2.2.1
          rw [h4] at h3; exact h3
      have HCB := Lib.hid (fun w' (hb : Bel wr w') => copyBunch_any ⟨i1, t1, k1, s1, n1, d1, f1, ms1, m1⟩ a1 c3 w' (hm0.bel hb) hms1)
      simp only [Bu.at] at HCB
      have HX0 := Lib.hid hx
      obtain ⟨l, Hl⟩ : ∃ l, Hid (l = ms1.length) := ⟨_, rfl⟩
      rw [← Hl.out] at HCB hx
      have HX := Lib.hid hx
      obtain ⟨g, c', hA, _, _⟩ := HBO.out.own.form (by rw [hln, ← Hn.out]; omega)
      obtain ⟨rfl, rfl⟩ : A1 = some ⟨g, 0, none⟩ ∧ c1 = c' := by injection hA with h1 h2 h3; exact ⟨h1, h3⟩
      obtain ⟨b', o', c2, hat⟩ := HBO.out.bl.at HX.out
      have hf := hat.form
      injection hf with hf1 hf2 hf3
      injection hf1 with hf4
      injection hf4 with hf5 hf6
      subst hf5; subst hf6
      have hrow := hat.row
      rw [Nat.zero_add] at hrow
      have gl := hat.lt
      have q0 := (hrow).cell 0 rfl
      have q1 := (hrow).cell 1 rfl
      have q2 := (hrow).cell 2 rfl
      have q3 := (hrow).cell 3 rfl
      have q4 := (hrow).cell 4 rfl
      have q5 := (hrow).cell 5 rfl
      have q6 := (hrow).cell 6 rfl
      have q7 := (hrow).cell 7 rfl
      have q8 := (hrow).cell 8 rfl
      rw [Nat.add_zero] at q0
      have HROW := Lib.hid hrow
      clear hat hrow hf2 hf3 hx hA hm0 hr hi hd hms1 hln
      go_wp2_with fail
      refine (HCB.out _ ((Bel.refl _).alloc _)).mono ?_; rintro e w2 ⟨A', c', rfl, hZ, hb2⟩
      have hb3 : Bel wr w2 := (by repeat (first | (with_reducible exact Bel.refl _) | (with_reducible assumption) | (with_reducible refine Bel.drewN ?_ _) | (with_reducible refine Bel.drew ?_) | (with_reducible refine Bel.alloc ?_ _) | (with_reducible refine Bel.setNew ?_ ?_ _) | (with_reducible refine Bel.trans ?_ (by assumption)) | (focus (simp; done)) | (focus (simp; omega))))
      have hBO2 := HBO.out.keep hb3
      have hrow2 := HROW.out.bel hb3 gl
      have u0 := (hrow2).cell 0 rfl
      have u1 := (hrow2).cell 1 rfl
      have u2 := (hrow2).cell 2 rfl
      have u3 := (hrow2).cell 3 rfl
      have u4 := (hrow2).cell 4 rfl
      have u5 := (hrow2).cell 5 rfl
      have u6 := (hrow2).cell 6 rfl
      have u7 := (hrow2).cell 7 rfl
      have u8 := (hrow2).cell 8 rfl
      rw [Nat.add_zero] at u0
      have gl2 : g < w2.heap.size := by have := hb3.size; omega
      have hLn : L'.length = n := by rw [HCP.out.1.len, Hn.out]
      rw [← hLn] at hBO2
      have gf := fun j => hBO2.own.frozenAt (g := g) j
      have hZ2 := hZ.2
      have HS := Lib.hid (BO.set hBO2 (y := ⟨Bu.at ⟨i1, t1, k1, s1, n1, d1, f1, ms1, m1⟩ A' c', ms1⟩) HX0.out hZ.1 (fun _ q hq => by have h := hZ2 q hq; simp only [World.size_alloc] at h; omega))
      rw [List.length_set, hLn] at HS
      have HCP2 := Lib.hid (And.intro (HCP.out.1.set (y := ⟨Bu.at ⟨i1, t1, k1, s1, n1, d1, f1, ms1, m1⟩ A' c', ms1⟩) HX0.out rfl) (HCP.out.2.set (y := ⟨Bu.at ⟨i1, t1, k1, s1, n1, d1, f1, ms1, m1⟩ A' c', ms1⟩) (fun q hq => by have h := hZ2 q hq; simp only [World.size_alloc] at h; have := hbr.size; omega)))
      have hcells : (Bu.at ⟨i1, t1, k1, s1, n1, d1, f1, ms1, m1⟩ A' c').cells = [.int .i64 i1, .int .i64 t1, .int .i64 k1, .int .i64 s1, .int .i64 n1, .string d1, .bool f1, .slice A' l c', .int .i64 m1] := by rw [Hl.out]; rfl
      rw [hcells] at HS
      have HBS := Lib.hid (Bel.setRow (B := g) (i := i * 9) [.int .i64 i1, .int .i64 t1, .int .i64 k1, .int .i64 s1, .int .i64 n1, .string d1, .bool f1, .slice A' l c', .int .i64 m1] (hbr.trans hb3) (by omega))
      clear hrow2 hBO2 hZ hZ2 hb2 hcells hb3 q0 q1 q2 q3 q4 q5 q6 q7 q8 hLn
      go_wp2
      go_roundw
      case rel => exact ⟨i + 1, _, by go_num, by omega, HCP2, HS, HBS.out⟩
      case measure => simp [intOf]; omega
    · obtain rfl : i = n := by omega
      have jk : decide ((i : Int) < (i : Int)) = false := by simp
      go_wp2
      go_ret
      exact ⟨_, L', rfl, ⟨HBO.out, by rw [show L'.length = i by rw [HCP.out.1.len, Hn.out]]; exact HCP.out.2⟩, HCP.out.1, hbr⟩


set_option maxRecDepth 100000 in
set_option maxHeartbeats 4000000 in
theorem copyPlug_any (v : Value) (L : List BM) (w : World) (h : BL w v L) (hn : L.length ≤ 100) (hms : ∀ x ∈ L, x.ms.length ≤ 1000) :
    Calls Try.prog 60 #[.agg #[v]] w fun e w' => ∃ v' L', e = .returned (.agg #[v']) ∧ BN w' w.heap.size v' L' ∧ CpL L L' ∧ Bel w w' := by
  have HE := Lib.hid (fun w' (hb : Bel w w') => each_any v L w' (h.bel hb) hn hms)
  clear h
  have hA := (AtF.new_at (w := w) rfl 48 [v]).alloc (.cells #[.slice none 0 0] 48)
  have hR := AtF.new_at (w := w.alloc (.cells [v].toArray 48)) (g := w.heap.size + 1) (by simp) 48 [.slice none 0 0]
  have hbw : Bel w ((w.alloc (.cells [v].toArray 48)).alloc (.cells [.slice none 0 0].toArray 48)) := (by repeat (first | (with_reducible exact Bel.refl _) | (with_reducible assumption) | (with_reducible refine Bel.drewN ?_ _) | (with_reducible refine Bel.drew ?_) | (with_reducible refine Bel.alloc ?_ _) | (with_reducible refine Bel.setNew ?_ ?_ _) | (with_reducible refine Bel.trans ?_ (by assumption)) | (focus (simp; done)) | (focus (simp; omega))))
  simp only [List.toArray] at hA hR hbw
  go_enter Try.func60, Try.ntmps60
  go_wp2_with fail
  refine (HE.out _ hbw).mono ?_; rintro e w1 ⟨v', L', rfl, hBN, hcp, hb1⟩
  simp only [World.size_alloc] at hBN
  obtain ⟨A', c', hv⟩ := own_slice hBN.bo.own
  obtain ⟨n, Hn⟩ : ∃ n, Hid (n = L'.length) := ⟨_, rfl⟩
  rw [← Hn.out] at hv
  subst hv
  obtain ⟨v', Hv⟩ : ∃ v' : Value, Hid (v' = .slice A' n c') := ⟨_, rfl⟩
  have HBN := Lib.hid (BN.far (p := ⟨w.heap.size + 1, 0, none⟩) (BN.far (p := ⟨w.heap.size, 0, none⟩) (by rw [← Hv.out] at hBN; exact hBN) (by show w.heap.size < _; omega) v') (by show w.heap.size + 1 < _; omega) v')
  have HCP := Lib.hid hcp
  replace hA := hA.bel hb1
  replace hR := hR.bel hb1
  have hbw2 := ((hbw.trans hb1).setNew (p := ⟨w.heap.size, 0, none⟩) (Nat.le_refl _) v').setNew (p := ⟨w.heap.size + 1, 0, none⟩) (by show w.heap.size ≤ w.heap.size + 1; omega) v'
  have a0 := hA.1.2 0 _ rfl
  have al := hA.1.1
  have af := hA.2 0
  have r0 := hR.1.2 0 _ rfl
  have rl := hR.1.1
  have rf := hR.2 0
  have hR2 := (hR.other (C := w.heap.size) (by omega) 0 v').set 0 (by simp) v'
  rw [Hv.out] at HBN hbw2 hR2
  clear hBN hcp hA hR hbw hb1 Hv v'
  go_wp2
  clear r0
  have r0 := hR2.1.2 0 _ rfl
  exact bodyPost_ret (v := .agg #[.slice A' n c']) (by simp [results, Try.results60, go_sem, r0]) rfl ⟨_, L', rfl, HBN.out.mono (by omega), HCP.out, hbw2⟩
end Go.Proofs.Ytbijfmpmgmfpgaa
