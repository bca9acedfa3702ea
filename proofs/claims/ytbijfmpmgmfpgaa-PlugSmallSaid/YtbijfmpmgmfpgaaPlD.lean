/- plug.Add. -/
import Derived.Test.YtbijfmpmgmfpgaaPlC
import Derived.Deep.DeepCutAuto
namespace Go.Proofs.Ytbijfmpmgmfpgaa
open Go.RowKit Go.Maps
set_option linter.unusedSimpArgs false

/-- Whether b is to be joined to element i. -/
def goodI (M B : Int) (b : Bu) (P : List Bu) (i : Nat) : Bool :=
  match P[i]? with
  | none => false
  | some a => canU M B a b != 0 && !((P.drop (i + 1)).any fun x => confU x b)
def addAt (M B : Int) (b : Bu) (P : List Bu) : Option Nat := (List.range P.length).find? (goodI M B b P)
def addP (M B : Int) (P : List Bu) (b : Bu) : List Bu × Bool :=
  if okU b = true ∧ limOk M B = true then
    match addAt M B b P with
    | some i => (match P[i]? with
      | some a => P.set i (joinU a b (canU M B a b))
      | none => P, true)
    | none => if 16 ≤ P.length then (P, false) else (P ++ [b], true)
  else (P, false)
theorem addAt_some {M B : Int} {b : Bu} {P : List Bu} {i : Nat} (h : goodI M B b P i = true) (hb : ∀ j < i, goodI M B b P j = false) : addAt M B b P = some i := by
  unfold addAt
  rw [List.find?_range_eq_some]
  have : i < P.length := by
    unfold goodI at h
    split at h
    · cases h
    · rename_i x hx; exact (List.getElem?_eq_some_iff.1 hx).1
  exact ⟨h, List.mem_range.2 this, fun j hj => by rw [hb j hj]; rfl⟩
theorem addAt_none {M B : Int} {b : Bu} {P : List Bu} (hb : ∀ j < P.length, goodI M B b P j = false) : addAt M B b P = none := by
  unfold addAt
  rw [List.find?_eq_none]
  intro j hj
  rw [hb j (List.mem_range.1 hj)]; simp
theorem addP_no {M B : Int} {b : Bu} {P : List Bu} (h : okU b = false ∨ limOk M B = false) : addP M B P b = (P, false) := by
  unfold addP
  rw [if_neg]
  rintro ⟨h1, h2⟩
  rcases h with h | h
  · rw [h] at h1; cases h1
  · rw [h] at h2; cases h2
theorem addP_join {M B : Int} {b a : Bu} {P : List Bu} {i : Nat} (h1 : okU b = true) (h2 : limOk M B = true) (ha : P[i]? = some a) (h3 : canU M B a b ≠ 0) (h4 : ((P.drop (i + 1)).any fun x => confU x b) = false) (hb : ∀ j < i, goodI M B b P j = false) : addP M B P b = (P.set i (joinU a b (canU M B a b)), true) := by
  unfold addP
  rw [if_pos ⟨h1, h2⟩, addAt_some (i := i) (by unfold goodI; simp only [ha]; rw [h4]; simpa using h3) hb]
  simp only [ha]
theorem addP_snoc {M B : Int} {b : Bu} {P : List Bu} (h1 : okU b = true) (h2 : limOk M B = true) (hb : ∀ j < P.length, goodI M B b P j = false) (hl : P.length < 16) : addP M B P b = (P ++ [b], true) := by
  unfold addP
  rw [if_pos ⟨h1, h2⟩, addAt_none hb]
  simp only
  rw [if_neg (by omega)]
theorem addP_full {M B : Int} {b : Bu} {P : List Bu} (h1 : okU b = true) (h2 : limOk M B = true) (hb : ∀ j < P.length, goodI M B b P j = false) (hl : 16 ≤ P.length) : addP M B P b = (P, false) := by
  unfold addP
  rw [if_pos ⟨h1, h2⟩, addAt_none hb]
  simp only
  rw [if_pos hl]
theorem goodI_no {M B : Int} {b a : Bu} {P : List Bu} {i : Nat} (ha : P[i]? = some a) (h : canU M B a b = 0 ∨ ((P.drop (i + 1)).any fun x => confU x b) = true) : goodI M B b P i = false := by
  unfold goodI
  simp only [ha]
  rcases h with h | h <;> simp [h]
theorem bmc_drop (L : List BM) (k : Nat) : bmc (L.drop k) = (bmc L).drop (k * 9) := by
  induction k generalizing L with
  | zero => simp
  | succ k ih =>
    cases L with
    | nil => simp [bmc]
    | cons x L =>
      rw [List.drop_succ_cons, ih]
      have : bmc (x :: L) = x.b.cells ++ bmc L := by simp [bmc]
      rw [this, Nat.succ_mul, Nat.add_comm (k * 9), List.drop_append]
      have h9 : x.b.cells.length = 9 := x.b.cells_len
      rw [@List.drop_eq_nil_of_le _ x.b.cells _ (by omega), List.nil_append, h9, show 9 + k * 9 - 9 = k * 9 by omega]
theorem BL.drop {w : World} {g o n c : Nat} {L : List BM} (h : BL w (.slice (some ⟨g, o, none⟩) n c) L) (k : Nat) (hk : k ≤ L.length) : BL w (.slice (some ⟨g, o + k * 9, none⟩) (n - k) (c - k)) (L.drop k) := by
  obtain ⟨h1, A, c', hv, hc, hm, hr⟩ := h.rd
  injection hv with e1 e2 e3
  subst e1 e2 e3
  refine ⟨⟨by rw [bmc_len], _, _, by rw [List.length_drop], by rw [List.length_drop]; omega, by omega, fun h0 => ?_⟩, fun x hx => h.mem x (List.mem_of_mem_drop hx)⟩
  obtain ⟨b, o', hA, hb, hcell⟩ := hr (by rw [List.length_drop] at h0; omega)
  injection hA with hA
  injection hA with e4 e5
  subst e4 e5
  refine ⟨_, _, rfl, hb, fun j u hu => ?_⟩
  rw [bmc_drop, List.getElem?_drop] at hu
  rw [Nat.add_assoc]
  exact hcell _ u hu
theorem BN.set {w : World} {base g cap : Nat} {L : List BM} {k : Nat} {x y : BM} (h : BN w base (.slice (some ⟨g, 0, none⟩) L.length cap) L) (hk : L[k]? = some x) (hy : Mems w y.b y.ms) (hs : ∀ q, (Value.slice y.b.mA y.b.mL y.b.mC).ownBlock = some q → g < q ∧ base ≤ q) :
    BN (Proofs.Ytbijfmpmgmfpgaa.setRow w g (k * 9) y.b.cells) base (.slice (some ⟨g, 0, none⟩) (L.set k y).length cap) (L.set k y) := by
  refine ⟨h.bo.set hk hy (fun _ q hq => by have := (hs q hq).1; omega), fun j z hj hz h0 q hq => ?_⟩
  rw [List.getElem?_set] at hz
  split at hz
  · split at hz
    · cases hz; exact (hs q hq).2
    · cases hz
  · exact h.fr j z (List.getElem?_eq_some_iff.1 hz).1 hz h0 q hq
theorem bmc_snocP (L : List BM) (x : BM) : bmc (L ++ [x]) = bmc L ++ x.b.cells := by simp [bmc]
/-- Behind an append of one bunch. -/
theorem BN.snoc {w1 w3 : World} {base wz : Nat} {v v' : Value} {L : List BM} {x : BM} {o : Obj} (h : BN w1 base v L) (hm : Mems w1 x.b x.ms) (hx : ∀ k, (Value.slice x.b.mA x.b.mL x.b.mC).ownBlock = some k → wz ≤ k) (hb : base ≤ wz) (hv : ∀ k, v.ownBlock = some k → k < wz)
    (hown : w3.ownsRow base 27 9 v' (L.length + 1) (bmc L ++ x.b.cells)) (hg : (w1.alloc o).grownBy w3 v.ownBlock) (hl : v'.ownBlock = v.ownBlock ∨ v'.ownBlock = some (w1.alloc o).heap.size) : BN w3 base v' (L ++ [x]) := by
  have key : ∀ y : BM, Mems w1 y.b y.ms → (0 < y.ms.length → ∀ k, (Value.slice y.b.mA y.b.mL y.b.mC).ownBlock = some k → v.ownBlock ≠ some k) → Mems w3 y.b y.ms ∧ (0 < y.ms.length → ∀ k, (Value.slice y.b.mA y.b.mL y.b.mC).ownBlock = some k → v'.ownBlock ≠ some k) := by
    intro y hy hs
    refine ⟨⟨hy.len, ?_, hy.ids, hy.dl⟩, fun h0 k hk => ?_⟩
    · by_cases h0 : 0 < y.ms.length
      · exact (hy.rd.alloc _).grown hg (fun b hb' => hs h0 b hb')
      · exact hy.rd.empty h0 _
    · rcases hl with e | e
      · rw [e]; exact hs h0 k hk
      · rw [e]
        intro e2
        have h3 := hy.rd.own_lt h0 (k := k) hk
        simp at e2; omega
  have all : ∀ y ∈ L ++ [x], Mems w3 y.b y.ms ∧ (0 < y.ms.length → ∀ k, (Value.slice y.b.mA y.b.mL y.b.mC).ownBlock = some k → v'.ownBlock ≠ some k) := by
    intro y hy
    rw [List.mem_append, List.mem_singleton] at hy
    rcases hy with hy | rfl
    · exact key y (h.bo.mem y hy) (h.bo.sep y hy)
    · exact key y hm (fun _ k hk e => by have h1 := hx k hk; have h2 := hv k e; omega)
  refine ⟨⟨by rw [List.length_append, bmc_snocP]; exact hown, fun y hy => (all y hy).1, fun y hy => (all y hy).2⟩, fun j y hj hy h0 k hk => ?_⟩
  rw [List.getElem?_append] at hy
  split at hy
  · rename_i hlt; exact h.fr j y hlt hy h0 k hk
  · have : y = x := by
      have := List.mem_of_getElem? hy
      simpa using this
    subst this
    exact Nat.le_trans hb (hx k hk)

set_option maxRecDepth 100000 in
set_option maxHeartbeats 24000000 in
theorem add_any (M B : Int) (v : Value) (L : List BM) (x : BM) (w : World) (h : BL w v L) (hx : Mems w x.b x.ms) (hn : L.length ≤ 100) (hms : ∀ y ∈ L, y.ms.length ≤ 1000) :
    Calls Try.prog 29 #[.agg #[.int .i64 M, .int .i64 B], .agg #[v], .agg #[.int .i64 (x.b).id, .int .i64 (x.b).ten, .int .i64 (x.b).knd, .int .i64 (x.b).sec, .int .i64 (x.b).cnt, .string (x.b).dat, .bool (x.b).fua, .slice (x.b).mA (x.b).mL (x.b).mC, .int .i64 (x.b).tim]] w fun e w' => ∃ v' L', e = .returned (.tuple #[.agg #[v'], .bool (addP M B (L.map BM.bu) x.bu).2]) ∧ BN w' w.heap.size v' L' ∧ L'.map BM.bu = (addP M B (L.map BM.bu) x.bu).1 ∧ Bel w w' := by
  have HP := Lib.hid (fun w' (hb : Bel w w') => copyPlug_any v L w' (h.bel hb) hn hms)
  obtain ⟨P, HPL⟩ : ∃ P, Hid (P = L.map BM.bu) := ⟨_, rfl⟩
  obtain ⟨u, HU⟩ : ∃ u, Hid (u = x.bu) := ⟨_, rfl⟩
  have HV := Lib.hid (fun w' (hb : Bel w w') => mergeValid_any x.b x.ms w' (hx.bel hb))
  rw [show validB x.b x.ms = okU u by rw [HU.out]; rfl] at HV
  rw [← HPL.out, ← HU.out]
  have HX := Lib.hid hx
  obtain ⟨⟨i1, t1, k1, s1, n1, d1, f1, a1, l1, c1, m1⟩, ms1⟩ := x
  simp only at HV HX ⊢
  have hA := (((AtF.new_at (w := w) rfl 38 [.int .i64 M, .int .i64 B]).alloc (.cells [v].toArray 48)).alloc (.cells [.int .i64 i1, .int .i64 t1, .int .i64 k1, .int .i64 s1, .int .i64 n1, .string d1, .bool f1, .slice a1 l1 c1, .int .i64 m1].toArray 27)).alloc (.cells [.slice none 0 0].toArray 48)
  have hB := ((AtF.new_at (w := w.alloc (.cells [.int .i64 M, .int .i64 B].toArray 38)) (g := w.heap.size + 1) (by simp) 48 [v]).alloc (.cells [.int .i64 i1, .int .i64 t1, .int .i64 k1, .int .i64 s1, .int .i64 n1, .string d1, .bool f1, .slice a1 l1 c1, .int .i64 m1].toArray 27)).alloc (.cells [.slice none 0 0].toArray 48)
  have hC := (AtF.new_at (w := (w.alloc (.cells [.int .i64 M, .int .i64 B].toArray 38)).alloc (.cells [v].toArray 48)) (g := w.heap.size + 2) (by simp) 27 [.int .i64 i1, .int .i64 t1, .int .i64 k1, .int .i64 s1, .int .i64 n1, .string d1, .bool f1, .slice a1 l1 c1, .int .i64 m1]).alloc (.cells [.slice none 0 0].toArray 48)
  have hD := AtF.new_at (w := ((w.alloc (.cells [.int .i64 M, .int .i64 B].toArray 38)).alloc (.cells [v].toArray 48)).alloc (.cells [.int .i64 i1, .int .i64 t1, .int .i64 k1, .int .i64 s1, .int .i64 n1, .string d1, .bool f1, .slice a1 l1 c1, .int .i64 m1].toArray 27)) (g := w.heap.size + 3) (by simp) 48 [.slice none 0 0]
  have hbw : Bel w ((((w.alloc (.cells [.int .i64 M, .int .i64 B].toArray 38)).alloc (.cells [v].toArray 48)).alloc (.cells [.int .i64 i1, .int .i64 t1, .int .i64 k1, .int .i64 s1, .int .i64 n1, .string d1, .bool f1, .slice a1 l1 c1, .int .i64 m1].toArray 27)).alloc (.cells [.slice none 0 0].toArray 48)) := (by repeat (first | (with_reducible exact Bel.refl _) | (with_reducible assumption) | (with_reducible refine Bel.drewN ?_ _) | (with_reducible refine Bel.drew ?_) | (with_reducible refine Bel.alloc ?_ _) | (with_reducible refine Bel.setNew ?_ ?_ _) | (with_reducible refine Bel.trans ?_ (by assumption)) | (focus (simp; done)) | (focus (simp; omega))))
  simp only [List.toArray] at hA hB hC hD hbw
  clear h hx hms
  go_enter Try.func29, Try.ntmps29
  go_wp2_with fail
  refine (HP.out _ hbw).mono ?_; rintro e w1 ⟨v', L', rfl, hBN, hcp, hb1⟩
  simp only [World.size_alloc] at hBN
  replace hA := hA.bel hb1
  replace hB := hB.bel hb1
  replace hC := hC.bel hb1
  replace hD := hD.bel hb1
  replace hbw := hbw.trans hb1
  clear hb1
  generalize hN : w.heap.size = N at *
  obtain ⟨A', c', hv⟩ := own_slice hBN.bo.own
  obtain ⟨n, Hn⟩ : ∃ n, Hid (n = L'.length) := ⟨_, rfl⟩
  rw [← Hn.out] at hv
  subst hv
  have HN := Lib.hid hN
  have hBN2 := hBN.far (p := ⟨N + 1, 0, none⟩) (by show N + 1 < _; omega) (.slice A' n c')
  have hA2 := hA.other (C := N + 1) (by omega) 0 (.slice A' n c')
  have hB2 := hB.set 0 (by simp) (.slice A' n c')
  have hC2 := hC.other (C := N + 1) (by omega) 0 (.slice A' n c')
  have hD2 := hD.other (C := N + 1) (by omega) 0 (.slice A' n c')
  have hbw2 := hbw.setNew (p := ⟨N + 1, 0, none⟩) (by show w.heap.size ≤ N + 1; omega) (.slice A' n c')
  have b0 := hB.1.2 0 _ rfl
  have bl := hB.1.1
  have bf := hB.2 0
  simp only [List.set_cons_zero] at hB2
  have HPL2 : Hid (L'.map BM.bu = P) := by show _ = _; rw [hcp.bu, HPL.out]
  have HLN : Hid (n = P.length) := by show _ = _; rw [← HPL2.out, List.length_map]; exact Hn.out
  have hn2 : n ≤ 100 := by rw [Hn.out, hcp.len]; exact hn
  clear hN hA hB hC hD hBN hbw hcp hn
  have ca := hA2.1.2 0 _ rfl
  have cb := hA2.1.2 1 _ rfl
  have cl := hA2.1.1
  have p0 := (hC2).1.2 0 _ rfl
  have p1 := (hC2).1.2 1 _ rfl
  have p2 := (hC2).1.2 2 _ rfl
  have p3 := (hC2).1.2 3 _ rfl
  have p4 := (hC2).1.2 4 _ rfl
  have p5 := (hC2).1.2 5 _ rfl
  have p6 := (hC2).1.2 6 _ rfl
  have p7 := (hC2).1.2 7 _ rfl
  have p8 := (hC2).1.2 8 _ rfl
  have pl := hC2.1.1
  obtain ⟨W, HW⟩ : ∃ W, Hid (W = w1.setCell ⟨N + 1, 0, none⟩ (.slice A' n c')) := ⟨_, rfl⟩
  go_wp2_with fail
  refine (HV.out _ hbw2).mono ?_; rintro e w2 ⟨rfl, hb2⟩
  clear HW W ca cb cl p0 p1 p2 p3 p4 p5 p6 p7 p8 pl b0 bl bf
  have hA := hA2.bel hb2
  have hB := hB2.bel hb2
  have hC := hC2.bel hb2
  have hD := hD2.bel hb2
  have hBN := hBN2.keep hb2
  have hbw := hbw2.trans hb2
  clear hA2 hB2 hC2 hD2 hBN2 hbw2 hb2
  cases hok : okU u
  · have HEQ := Lib.hid (addP_no (M := M) (B := B) (b := u) (P := P) (.inl hok))
    clear hok
    have hD9 := hD.set 0 (by simp) (.slice A' n c')
    have HB9 := Lib.hid ((hBN.far (p := ⟨N + 3, 0, none⟩) (by show N + 3 < _; omega) (.slice A' n c')).mono (show w.heap.size ≤ _ by have := HN.out; omega))
    have hb9 := hbw.setNew (p := ⟨N + 3, 0, none⟩) (by have := HN.out; show w.heap.size ≤ N + 3; omega) (.slice A' n c')
    simp only [List.set_cons_zero] at hD9
    have b0 := hB.1.2 0 _ rfl
    have bl := hB.1.1
    have d0 := hD.1.2 0 _ rfl
    have dl := hD.1.1
    have df := hD.2 0
    clear hA hB hC hD hBN hbw
    go_wp2
    have r0 := hD9.1.2 0 _ rfl
    exact bodyPost_ret (v := .tuple #[.agg #[.slice A' n c'], .bool false]) (by simp [results, Try.results29, go_sem, r0]) rfl ⟨_, L', by rw [HEQ.out], HB9.out, by rw [HEQ.out]; exact HPL2.out, hb9⟩
  · have ca := hA.1.2 0 _ rfl
    have cb := hA.1.2 1 _ rfl
    have cl := hA.1.1
    go_wp2_with fail
    refine (splitValid_any M B _).mono ?_; rintro e w3 ⟨rfl, hb3⟩
    clear ca cb cl
    replace hA := hA.bel hb3
    replace hB := hB.bel hb3
    replace hC := hC.bel hb3
    replace hD := hD.bel hb3
    replace hBN := hBN.keep hb3
    replace hbw := hbw.trans hb3
    clear hb3
    cases hlo : limOk M B
    · have HEQ := Lib.hid (addP_no (M := M) (B := B) (b := u) (P := P) (.inr hlo))
      clear hok hlo
      have hD9 := hD.set 0 (by simp) (.slice A' n c')
      have HB9 := Lib.hid ((hBN.far (p := ⟨N + 3, 0, none⟩) (by show N + 3 < _; omega) (.slice A' n c')).mono (show w.heap.size ≤ _ by have := HN.out; omega))
      have hb9 := hbw.setNew (p := ⟨N + 3, 0, none⟩) (by have := HN.out; show w.heap.size ≤ N + 3; omega) (.slice A' n c')
      simp only [List.set_cons_zero] at hD9
      have b0 := hB.1.2 0 _ rfl
      have bl := hB.1.1
      have d0 := hD.1.2 0 _ rfl
      have dl := hD.1.1
      have df := hD.2 0
      clear hA hB hC hD hBN hbw
      go_wp2
      have r0 := hD9.1.2 0 _ rfl
      exact bodyPost_ret (v := .tuple #[.agg #[.slice A' n c'], .bool false]) (by simp [results, Try.results29, go_sem, r0]) rfl ⟨_, L', by rw [HEQ.out], HB9.out, by rw [HEQ.out]; exact HPL2.out, hb9⟩
    · have HOK := Lib.hid (And.intro hok hlo)
      clear hok hlo
      have b0 := hB.1.2 0 _ rfl
      have bl := hB.1.1
      go_wp2
      clear b0 bl
      go_loopw [25] (fun iv wr => ∃ i : Nat, iv = .int .i64 i ∧ i ≤ n ∧ Hid (∀ j < i, goodI M B u P j = false) ∧ AtF wr N [.int .i64 M, .int .i64 B] ∧ AtF wr (N + 1) [.slice A' n c'] ∧ AtF wr (N + 2) [.int .i64 i1, .int .i64 t1, .int .i64 k1, .int .i64 s1, .int .i64 n1, .string d1, .bool f1, .slice a1 l1 c1, .int .i64 m1] ∧ AtF wr (N + 3) [.slice none 0 0] ∧ BN wr (N + 1 + 1 + 1 + 1) (.slice A' n c') L' ∧ Bel w wr) (fun iv _ => n - (intOf iv).toNat)
      case atStart => exact ⟨0, rfl, by omega, fun j h => absurd h (by omega), hA, hB, hC, hD, hBN, hbw⟩
      case round =>
        clear hA hB hC hD hBN hbw
        obtain ⟨i, rfl, p1, HG, hA, hB, hC, hD, hBN, hbw⟩ := hrel
        by_cases hlt : i < n
        · have hin : (i : Int) < (n : Int) := by omega
          obtain ⟨y, hy⟩ : ∃ y, L'[i]? = some y := ⟨L'[i]'(by have := Hn.out; omega), List.getElem?_eq_getElem _⟩
          obtain ⟨g, c2, hf, hg1, _⟩ := hBN.bo.own.form (by rw [← Hn.out]; omega)
          injection hf with hf1 hf2 hf3
          subst hf1
          obtain ⟨g', o', c4, hat⟩ := hBN.bo.bl.at hy
          have hf := hat.form
          injection hf with hf1 hf7 hf8
          injection hf1 with hf4
          injection hf4 with hf5 hf6
          subst hf5; subst hf6
          have HY := Lib.hid hy
          have gl := hat.lt
          have hrow0 := hat.row
          rw [Nat.zero_add] at hrow0
          have HROW := Lib.hid hrow0
          have HGG := HG
          have HMY := Lib.hid hat.mem
          have HPY : Hid (P[i]? = some y.bu) := by show _ = _; rw [← HPL2.out, List.getElem?_map, hy]; rfl
          obtain ⟨yu, HYU⟩ : ∃ yu, Hid (yu = y.bu) := ⟨_, rfl⟩
          rw [← HYU.out] at HPY
          have HXC := Lib.hid (fun w' (hb : Bel w w') => HX.out.bel hb)
          have HCN := Lib.hid (fun w' (hb1 : Bel w w') (hb : Bel wr w') => can_any M B y ⟨⟨i1, t1, k1, s1, n1, d1, f1, a1, l1, c1, m1⟩, ms1⟩ w' (HMY.out.bel hb) (HX.out.bel hb1))
          rw [← HU.out, ← HYU.out] at HCN
          obtain ⟨⟨i2, t2, k2, s2, n2, d2, f2, a2, l2, c3, m2⟩, ms2⟩ := y
          simp only at HCN HROW HMY
          have hrow := HROW.out
          have q0 := (hrow).cell 0 rfl
          have q1 := (hrow).cell 1 rfl
          have q2 := (hrow).cell 2 rfl
          have q3 := (hrow).cell 3 rfl
          have q4 := (hrow).cell 4 rfl
          have q5 := (hrow).cell 5 rfl
          have q6 := (hrow).cell 6 rfl
          have q7 := (hrow).cell 7 rfl
          have q8 := (hrow).cell 8 rfl
          rw [Nat.add_zero] at q0
          have hA1 := hA.alloc (.cells [.int .i64 i2, .int .i64 t2, .int .i64 k2, .int .i64 s2, .int .i64 n2, .string d2, .bool f2, .slice a2 l2 c3, .int .i64 m2].toArray 27)
          have hB1 := hB.alloc (.cells [.int .i64 i2, .int .i64 t2, .int .i64 k2, .int .i64 s2, .int .i64 n2, .string d2, .bool f2, .slice a2 l2 c3, .int .i64 m2].toArray 27)
          have hC1 := hC.alloc (.cells [.int .i64 i2, .int .i64 t2, .int .i64 k2, .int .i64 s2, .int .i64 n2, .string d2, .bool f2, .slice a2 l2 c3, .int .i64 m2].toArray 27)
          have hD1 := hD.alloc (.cells [.int .i64 i2, .int .i64 t2, .int .i64 k2, .int .i64 s2, .int .i64 n2, .string d2, .bool f2, .slice a2 l2 c3, .int .i64 m2].toArray 27)
          have hE1 := AtF.new wr 27 [.int .i64 i2, .int .i64 t2, .int .i64 k2, .int .i64 s2, .int .i64 n2, .string d2, .bool f2, .slice a2 l2 c3, .int .i64 m2]
          have hbr1 := (Bel.refl wr).alloc (.cells [.int .i64 i2, .int .i64 t2, .int .i64 k2, .int .i64 s2, .int .i64 n2, .string d2, .bool f2, .slice a2 l2 c3, .int .i64 m2].toArray 27)
          simp only [List.toArray] at hA1 hB1 hC1 hD1 hE1 hbr1
          have ca := hA.1.2 0 _ rfl
          have cb := hA.1.2 1 _ rfl
          have cl := hA.1.1
          have p0 := (hC).1.2 0 _ rfl
          have p1 := (hC).1.2 1 _ rfl
          have p2 := (hC).1.2 2 _ rfl
          have p3 := (hC).1.2 3 _ rfl
          have p4 := (hC).1.2 4 _ rfl
          have p5 := (hC).1.2 5 _ rfl
          have p6 := (hC).1.2 6 _ rfl
          have p7 := (hC).1.2 7 _ rfl
          have p8 := (hC).1.2 8 _ rfl
          have pl := hC.1.1
          clear hrow hrow0 hat hf2 hf3 hf7 hf8 hy
          go_wp2_with fail
          refine (HCN.out _ (hbw.trans hbr1) hbr1).mono ?_; rintro e w4 ⟨rfl, hb4⟩
          clear ca cb cl pl p0 p1 p2 p3 p4 p5 p6 p7 p8 q0 q1 q2 q3 q4 q5 q6 q7 q8
          replace hA1 := hA1.bel hb4
          replace hB1 := hB1.bel hb4
          replace hC1 := hC1.bel hb4
          replace hD1 := hD1.bel hb4
          replace hE1 := hE1.bel hb4
          replace hbr1 := hbr1.trans hb4
          have hBN1 := hBN.keep hbr1
          clear hA hB hC hD hBN hb4
          have hbw1 := hbw.trans hbr1
          obtain ⟨how, HW⟩ : ∃ how, Hid (how = canU M B yu u) := ⟨_, rfl⟩
          rw [← HW.out]
          by_cases hz : how = 0
          · have HG2 : Hid (∀ j < i + 1, goodI M B u P j = false) := by
              intro j hj
              by_cases h : j < i
              · exact HG.out j h
              · obtain rfl : j = i := by omega
                exact goodI_no HPY.out (.inl (by rw [← HW.out]; exact hz))
            subst hz
            clear HW
            go_wp2
            go_roundw
            case rel => exact ⟨i + 1, by go_num, by omega, HG2, hA1, hB1, hC1, hD1, hBN1, hbw1⟩
            case measure => simp [intOf]; omega
          · have hzb : (how != 0) = true := by simpa using hz
            have HCON : Hid (∀ v, BL w4 v (L'.drop (i + 1)) → Calls Try.prog 62 #[v, .func (.func 63) #[] #[.pointer (some ⟨N + 1 + 1, 0, none⟩)]] w4 fun e w' => e = .returned (.bool ((P.drop (i + 1)).any fun z => confU z u)) ∧ Bel w4 w') := fun v hv => by
              have hE := enters_of Try.func63 (by kernel_rfl) rfl
              have := containsBun_any (L'.drop (i + 1)) v 63 #[.pointer (some ⟨N + 1 + 1, 0, none⟩)] (fun z => confU z.bu u) w4 hv hE (fun W z hW hz => by
                have := add1_any z ⟨⟨i1, t1, k1, s1, n1, d1, f1, a1, l1, c1, m1⟩, ms1⟩ (N + 1 + 1) W ((hv.mem z hz).bel hW) (HXC.out W (hbw1.trans hW)) (hC1.bel hW)
                rw [← HU.out] at this
                exact this)
              have e : (P.drop (i + 1)).any (fun z => confU z u) = (L'.drop (i + 1)).any (fun z => confU z.bu u) := by
                rw [← HPL2.out, ← List.map_drop, List.any_map]; rfl
              rw [e]
              exact this
            have hbl4 := hBN1.bo.bl
            have HD1 := Lib.hid (BL.drop hbl4 (i + 1) (by rw [← Hn.out]; omega))
            rw [Nat.zero_add] at HD1
            have HD2 : Hid (c' = i + 1 → BL w4 (.slice (some ⟨g, 0, none⟩) (n - (i + 1)) 0) (L'.drop (i + 1))) := fun hc => by
              obtain ⟨_, _, hv, hcc, _⟩ := hbl4.form
              injection hv with e1 e2 e3
              have hln : L'.length = i + 1 := by have := Hn.out; omega
              have e : L'.drop (i + 1) = [] := List.drop_eq_nil_of_le (by omega)
              rw [e, show n - (i + 1) = 0 by omega]
              exact ⟨⟨rfl, _, _, rfl, Nat.le_refl _, by unfold maxLen; omega, fun h => absurd h (by simp)⟩, fun z hz => by cases hz⟩
            clear hbl4
            obtain ⟨r, Hr⟩ : ∃ r, Hid (r = (P.drop (i + 1)).any fun z => confU z u) := ⟨_, rfl⟩
            rw [← Hr.out] at HCON
            have HR0 : Hid (c' = i + 1 → r = false) := fun hc => by
              obtain ⟨_, _, hv, hcc, _⟩ := hBN1.bo.bl.form
              injection hv with e1 e2 e3
              have hln : P.length = i + 1 := by have := Hn.out; have := HLN.out; omega
              rw [Hr.out, List.drop_eq_nil_of_le (by omega)]
              rfl
            have b0 := hB1.1.2 0 _ rfl
            have bl := hB1.1.1
            go_wp2_with fail
            · rename c' = i + 1 => hcc
              refine (HCON.out _ (HD2.out hcc)).mono ?_
              rintro e w5 ⟨rfl, hb5⟩
              replace hA1 := hA1.bel hb5
              replace hB1 := hB1.bel hb5
              replace hC1 := hC1.bel hb5
              replace hD1 := hD1.bel hb5
              replace hE1 := hE1.bel hb5
              replace hbr1 := hbr1.trans hb5
              replace hBN1 := hBN1.keep hb5
              clear hb5 b0 bl HCON
              have hbw1 := hbw.trans hbr1
              have hr2 := HR0.out hcc
              clear hcc
              subst hr2
              clear HD1 HD2 HR0 HG hA1 HCN HV
              have eb := hB1.1.2 0 _ rfl
              have rb := fun d os => cell_regrown eb d os
              have e0 := (hE1).1.2 0 _ rfl
              have e1 := (hE1).1.2 1 _ rfl
              have e2 := (hE1).1.2 2 _ rfl
              have e3 := (hE1).1.2 3 _ rfl
              have e4 := (hE1).1.2 4 _ rfl
              have e5 := (hE1).1.2 5 _ rfl
              have e6 := (hE1).1.2 6 _ rfl
              have e7 := (hE1).1.2 7 _ rfl
              have e8 := (hE1).1.2 8 _ rfl
              have re0 := fun d os => cell_regrown e0 d os
              have re1 := fun d os => cell_regrown e1 d os
              have re2 := fun d os => cell_regrown e2 d os
              have re3 := fun d os => cell_regrown e3 d os
              have re4 := fun d os => cell_regrown e4 d os
              have re5 := fun d os => cell_regrown e5 d os
              have re6 := fun d os => cell_regrown e6 d os
              have re7 := fun d os => cell_regrown e7 d os
              have re8 := fun d os => cell_regrown e8 d os
              have p0 := (hC1).1.2 0 _ rfl
              have p1 := (hC1).1.2 1 _ rfl
              have p2 := (hC1).1.2 2 _ rfl
              have p3 := (hC1).1.2 3 _ rfl
              have p4 := (hC1).1.2 4 _ rfl
              have p5 := (hC1).1.2 5 _ rfl
              have p6 := (hC1).1.2 6 _ rfl
              have p7 := (hC1).1.2 7 _ rfl
              have p8 := (hC1).1.2 8 _ rfl
              have rp0 := fun d os => cell_regrown p0 d os
              have rp1 := fun d os => cell_regrown p1 d os
              have rp2 := fun d os => cell_regrown p2 d os
              have rp3 := fun d os => cell_regrown p3 d os
              have rp4 := fun d os => cell_regrown p4 d os
              have rp5 := fun d os => cell_regrown p5 d os
              have rp6 := fun d os => cell_regrown p6 d os
              have rp7 := fun d os => cell_regrown p7 d os
              have rp8 := fun d os => cell_regrown p8 d os
              have HJN := Lib.hid (fun W (hw : Bel w W) (hr : Bel wr W) => join_any ⟨⟨i2, t2, k2, s2, n2, d2, f2, a2, l2, c3, m2⟩, ms2⟩ ⟨⟨i1, t1, k1, s1, n1, d1, f1, a1, l1, c1, m1⟩, ms1⟩ how W (HMY.out.bel hr) (HX.out.bel hw))
              rw [← HU.out, ← HYU.out] at HJN
              obtain ⟨J, HJ⟩ : ∃ J, Hid (J = joinU yu u how) := ⟨_, rfl⟩
              rw [← HJ.out] at HJN
              obtain ⟨i6, t6, k6, s6, n6, d6, f6, ms6, m6⟩ := J
              obtain ⟨l6, Hl6⟩ : ∃ l6, Hid (l6 = ms6.length) := ⟨_, rfl⟩
              simp only [Bu.at] at HJN
              rw [← Hl6.out] at HJN
              have HEQ : Hid (addP M B P u = (P.set i ⟨i6, t6, k6, s6, n6, d6, f6, ms6, m6⟩, true)) := by
                show _ = _
                rw [HJ.out, HW.out]
                exact addP_join HOK.out.1 HOK.out.2 HPY.out (by rw [← HW.out]; exact hz) (by rw [← Hr.out]) HGG.out
              have hE0 := hE1.1.1
              clear e0 e1 e2 e3 e4 e5 e6 e7 e8 p0 p1 p2 p3 p4 p5 p6 p7 p8 eb hC1 hE1 hz HW Hr HJ HGG
              go_wp2_with fail
              clear hzb
              refine wp_region_lex [6] 7 (by kernel_rfl) (by kernel_rfl) ?_
              simp only [List.take_succ_cons, List.take_zero, List.drop_succ_cons, List.drop_zero]
              with_reducible refine lex_seg 6 _ _ _ _ (by kernel_rfl) ?_
              simp only [List.take_succ_cons, List.take_zero, List.drop_succ_cons, List.drop_zero]
              try simp only [Act.put, List.setIfInBounds_toArray, List.set_cons_succ, List.set_cons_zero]
              repeat (go_big_quiet_step (fail))
              with_reducible refine wpQuiet_nil ?_
              refine lex_call 17 rfl rfl (by simp [go_sem]; rfl) ?_
              refine (HJN.out _ (by repeat (first | (with_reducible exact Bel.refl _) | (with_reducible assumption) | (with_reducible refine Bel.drewN ?_ _) | (with_reducible refine Bel.drew ?_) | (with_reducible refine Bel.alloc ?_ _) | (with_reducible refine Bel.setNew ?_ ?_ _) | (with_reducible refine Bel.trans ?_ (by assumption)) | (focus (simp; done)) | (focus (simp; omega)))) (by repeat (first | (with_reducible exact Bel.refl _) | (with_reducible assumption) | (with_reducible refine Bel.drewN ?_ _) | (with_reducible refine Bel.drew ?_) | (with_reducible refine Bel.alloc ?_ _) | (with_reducible refine Bel.setNew ?_ ?_ _) | (with_reducible refine Bel.trans ?_ (by assumption)) | (focus (simp; done)) | (focus (simp; omega))))).mono ?_; rintro e w6 ⟨A9, c9, rfl, hZ, hb6⟩
              refine ⟨_, rfl, hb6, ?_⟩
              with_reducible refine lex_nil ?_
              clear rb re0 re1 re2 re3 re4 re5 re6 re7 re8 rp0 rp1 rp2 rp3 rp4 rp5 rp6 rp7 rp8
              have hb56 : Bel w5 w6 := (by repeat (first | (with_reducible exact Bel.refl _) | (with_reducible assumption) | (with_reducible refine Bel.drewN ?_ _) | (with_reducible refine Bel.drew ?_) | (with_reducible refine Bel.alloc ?_ _) | (with_reducible refine Bel.setNew ?_ ?_ _) | (with_reducible refine Bel.trans ?_ (by assumption)) | (focus (simp; done)) | (focus (simp; omega))))
              have hB6 := hB1.bel hb56
              have hD6 := hD1.bel hb56
              have hBN6 := hBN1.keep hb56
              have hbw := hbw1.trans hb56
              have hwz : wr.heap.size < w6.heap.size := by have := hbr1.size; have := hb56.size; have := hE0; omega
              have hgr : g < wr.heap.size := gl
              have gl6 : g < w6.heap.size := by omega
              have hrow6 := HROW.out.bel (hbr1.trans hb56) gl
              have u0 := (hrow6).cell 0 rfl
              have u1 := (hrow6).cell 1 rfl
              have u2 := (hrow6).cell 2 rfl
              have u3 := (hrow6).cell 3 rfl
              have u4 := (hrow6).cell 4 rfl
              have u5 := (hrow6).cell 5 rfl
              have u6 := (hrow6).cell 6 rfl
              have u7 := (hrow6).cell 7 rfl
              have u8 := (hrow6).cell 8 rfl
              rw [Nat.add_zero] at u0
              rw [Hn.out] at hBN6
              have gf := fun j => hBN6.bo.own.frozenAt (g := g) j
              have hZ2 := hZ.2
              have hsz : wr.heap.size ≤ w5.heap.size := hbr1.size
              have HS := BN.set hBN6 (y := ⟨Bu.at ⟨i6, t6, k6, s6, n6, d6, f6, ms6, m6⟩ A9 c9, ms6⟩) HY.out hZ.1 (fun q hq => by have h := hZ2 q hq; simp only [World.size_drew] at h; constructor <;> omega)
              rw [List.length_set, ← Hn.out] at HS
              have hcells : (Bu.at ⟨i6, t6, k6, s6, n6, d6, f6, ms6, m6⟩ A9 c9).cells = [.int .i64 i6, .int .i64 t6, .int .i64 k6, .int .i64 s6, .int .i64 n6, .string d6, .bool f6, .slice A9 l6 c9, .int .i64 m6] := by rw [Hl6.out]; rfl
              rw [hcells] at HS
              have hBN := HS
              have hB := hB6.setRow_other (B := g) (i := i * 9) [.int .i64 i6, .int .i64 t6, .int .i64 k6, .int .i64 s6, .int .i64 n6, .string d6, .bool f6, .slice A9 l6 c9, .int .i64 m6] (by omega)
              have hD := hD6.setRow_other (B := g) (i := i * 9) [.int .i64 i6, .int .i64 t6, .int .i64 k6, .int .i64 s6, .int .i64 n6, .string d6, .bool f6, .slice A9 l6 c9, .int .i64 m6] (by omega)
              replace hbw := Bel.setRow (B := g) (i := i * 9) [.int .i64 i6, .int .i64 t6, .int .i64 k6, .int .i64 s6, .int .i64 n6, .string d6, .bool f6, .slice A9 l6 c9, .int .i64 m6] hbw (by have := HN.out; omega)
              have HLM : Hid ((L'.set i ⟨Bu.at ⟨i6, t6, k6, s6, n6, d6, f6, ms6, m6⟩ A9 c9, ms6⟩).map BM.bu = P.set i ⟨i6, t6, k6, s6, n6, d6, f6, ms6, m6⟩) := by
                show _ = _
                rw [List.map_set, HPL2.out]
                rfl
              have hD9 := hD.set 0 (by simp) (.slice (some ⟨g, 0, none⟩) n c')
              have HB9 := Lib.hid ((hBN.far (p := ⟨N + 3, 0, none⟩) (by show N + 3 < _; omega) (.slice (some ⟨g, 0, none⟩) n c')).mono (show w.heap.size ≤ _ by have := HN.out; omega))
              have hb9 := Lib.hid (hbw.setNew (p := ⟨N + 3, 0, none⟩) (by have := HN.out; show w.heap.size ≤ N + 3; omega) (.slice (some ⟨g, 0, none⟩) n c'))
              simp only [List.set_cons_zero] at hD9
              have b0 := hB.1.2 0 _ rfl
              have bl := hB.1.1
              have d0 := hD.1.2 0 _ rfl
              have dl := hD.1.1
              have df := hD.2 0
              have r0 := hD9.1.2 0 _ rfl
              simp only [setRow, Nat.add_assoc, Nat.reduceAdd] at b0 bl d0 dl df r0
              clear hB1 hB6 hB hD1 hD6 hD hBN1 hBN6 hBN HS hbw hbw1 hb6 hb56 hZ hZ2 hrow6 hcells hD9
              go_wp2
              exact bodyPost_ret (v := .tuple #[.agg #[.slice (some ⟨g, 0, none⟩) n c'], .bool true]) (by simp [results, Try.results29, go_sem, r0]) rfl ⟨.slice (some ⟨g, 0, none⟩) n c', by rw [HEQ.out], L'.set i ⟨Bu.at ⟨i6, t6, k6, s6, n6, d6, f6, ms6, m6⟩ A9 c9, ms6⟩, HB9.out, by rw [HEQ.out]; exact HLM.out, hb9.out⟩
            · refine (HCON.out _ HD1.out).mono ?_
              rintro e w5 ⟨rfl, hb5⟩
              replace hA1 := hA1.bel hb5
              replace hB1 := hB1.bel hb5
              replace hC1 := hC1.bel hb5
              replace hD1 := hD1.bel hb5
              replace hE1 := hE1.bel hb5
              replace hbr1 := hbr1.trans hb5
              replace hBN1 := hBN1.keep hb5
              clear hb5 b0 bl HCON
              have hbw1 := hbw.trans hbr1
              by_cases hr : r = true
              · have HG2 : Hid (∀ j < i + 1, goodI M B u P j = false) := by
                  intro j hj
                  by_cases h : j < i
                  · exact HG.out j h
                  · obtain rfl : j = i := by omega
                    exact goodI_no HPY.out (.inr (by rw [← Hr.out]; exact hr))
                subst hr
                clear Hr HD1 HD2
                go_wp2
                go_roundw
                case rel => exact ⟨i + 1, by go_num, by omega, HG2, hA1, hB1, hC1, hD1, hBN1, hbw1⟩
                case measure => simp [intOf]; omega
              · have hr2 : r = false := by simpa using hr
                subst hr2
                clear hr
                clear HD1 HD2 HR0 HG hA1 HCN HV
                have eb := hB1.1.2 0 _ rfl
                have rb := fun d os => cell_regrown eb d os
                have e0 := (hE1).1.2 0 _ rfl
                have e1 := (hE1).1.2 1 _ rfl
                have e2 := (hE1).1.2 2 _ rfl
                have e3 := (hE1).1.2 3 _ rfl
                have e4 := (hE1).1.2 4 _ rfl
                have e5 := (hE1).1.2 5 _ rfl
                have e6 := (hE1).1.2 6 _ rfl
                have e7 := (hE1).1.2 7 _ rfl
                have e8 := (hE1).1.2 8 _ rfl
                have re0 := fun d os => cell_regrown e0 d os
                have re1 := fun d os => cell_regrown e1 d os
                have re2 := fun d os => cell_regrown e2 d os
                have re3 := fun d os => cell_regrown e3 d os
                have re4 := fun d os => cell_regrown e4 d os
                have re5 := fun d os => cell_regrown e5 d os
                have re6 := fun d os => cell_regrown e6 d os
                have re7 := fun d os => cell_regrown e7 d os
                have re8 := fun d os => cell_regrown e8 d os
                have p0 := (hC1).1.2 0 _ rfl
                have p1 := (hC1).1.2 1 _ rfl
                have p2 := (hC1).1.2 2 _ rfl
                have p3 := (hC1).1.2 3 _ rfl
                have p4 := (hC1).1.2 4 _ rfl
                have p5 := (hC1).1.2 5 _ rfl
                have p6 := (hC1).1.2 6 _ rfl
                have p7 := (hC1).1.2 7 _ rfl
                have p8 := (hC1).1.2 8 _ rfl
                have rp0 := fun d os => cell_regrown p0 d os
                have rp1 := fun d os => cell_regrown p1 d os
                have rp2 := fun d os => cell_regrown p2 d os
                have rp3 := fun d os => cell_regrown p3 d os
                have rp4 := fun d os => cell_regrown p4 d os
                have rp5 := fun d os => cell_regrown p5 d os
                have rp6 := fun d os => cell_regrown p6 d os
                have rp7 := fun d os => cell_regrown p7 d os
                have rp8 := fun d os => cell_regrown p8 d os
                have HJN := Lib.hid (fun W (hw : Bel w W) (hr : Bel wr W) => join_any ⟨⟨i2, t2, k2, s2, n2, d2, f2, a2, l2, c3, m2⟩, ms2⟩ ⟨⟨i1, t1, k1, s1, n1, d1, f1, a1, l1, c1, m1⟩, ms1⟩ how W (HMY.out.bel hr) (HX.out.bel hw))
                rw [← HU.out, ← HYU.out] at HJN
                obtain ⟨J, HJ⟩ : ∃ J, Hid (J = joinU yu u how) := ⟨_, rfl⟩
                rw [← HJ.out] at HJN
                obtain ⟨i6, t6, k6, s6, n6, d6, f6, ms6, m6⟩ := J
                obtain ⟨l6, Hl6⟩ : ∃ l6, Hid (l6 = ms6.length) := ⟨_, rfl⟩
                simp only [Bu.at] at HJN
                rw [← Hl6.out] at HJN
                have HEQ : Hid (addP M B P u = (P.set i ⟨i6, t6, k6, s6, n6, d6, f6, ms6, m6⟩, true)) := by
                  show _ = _
                  rw [HJ.out, HW.out]
                  exact addP_join HOK.out.1 HOK.out.2 HPY.out (by rw [← HW.out]; exact hz) (by rw [← Hr.out]) HGG.out
                have hE0 := hE1.1.1
                clear e0 e1 e2 e3 e4 e5 e6 e7 e8 p0 p1 p2 p3 p4 p5 p6 p7 p8 eb hC1 hE1 hz HW Hr HJ HGG
                go_wp2_with fail
                clear hzb
                refine wp_region_lex [6] 7 (by kernel_rfl) (by kernel_rfl) ?_
                simp only [List.take_succ_cons, List.take_zero, List.drop_succ_cons, List.drop_zero]
                with_reducible refine lex_seg 6 _ _ _ _ (by kernel_rfl) ?_
                simp only [List.take_succ_cons, List.take_zero, List.drop_succ_cons, List.drop_zero]
                try simp only [Act.put, List.setIfInBounds_toArray, List.set_cons_succ, List.set_cons_zero]
                repeat (go_big_quiet_step (fail))
                with_reducible refine wpQuiet_nil ?_
                refine lex_call 17 rfl rfl (by simp [go_sem]; rfl) ?_
                refine (HJN.out _ (by repeat (first | (with_reducible exact Bel.refl _) | (with_reducible assumption) | (with_reducible refine Bel.drewN ?_ _) | (with_reducible refine Bel.drew ?_) | (with_reducible refine Bel.alloc ?_ _) | (with_reducible refine Bel.setNew ?_ ?_ _) | (with_reducible refine Bel.trans ?_ (by assumption)) | (focus (simp; done)) | (focus (simp; omega)))) (by repeat (first | (with_reducible exact Bel.refl _) | (with_reducible assumption) | (with_reducible refine Bel.drewN ?_ _) | (with_reducible refine Bel.drew ?_) | (with_reducible refine Bel.alloc ?_ _) | (with_reducible refine Bel.setNew ?_ ?_ _) | (with_reducible refine Bel.trans ?_ (by assumption)) | (focus (simp; done)) | (focus (simp; omega))))).mono ?_; rintro e w6 ⟨A9, c9, rfl, hZ, hb6⟩
                refine ⟨_, rfl, hb6, ?_⟩
                with_reducible refine lex_nil ?_
                clear rb re0 re1 re2 re3 re4 re5 re6 re7 re8 rp0 rp1 rp2 rp3 rp4 rp5 rp6 rp7 rp8
                have hb56 : Bel w5 w6 := (by repeat (first | (with_reducible exact Bel.refl _) | (with_reducible assumption) | (with_reducible refine Bel.drewN ?_ _) | (with_reducible refine Bel.drew ?_) | (with_reducible refine Bel.alloc ?_ _) | (with_reducible refine Bel.setNew ?_ ?_ _) | (with_reducible refine Bel.trans ?_ (by assumption)) | (focus (simp; done)) | (focus (simp; omega))))
                have hB6 := hB1.bel hb56
                have hD6 := hD1.bel hb56
                have hBN6 := hBN1.keep hb56
                have hbw := hbw1.trans hb56
                have hwz : wr.heap.size < w6.heap.size := by have := hbr1.size; have := hb56.size; have := hE0; omega
                have hgr : g < wr.heap.size := gl
                have gl6 : g < w6.heap.size := by omega
                have hrow6 := HROW.out.bel (hbr1.trans hb56) gl
                have u0 := (hrow6).cell 0 rfl
                have u1 := (hrow6).cell 1 rfl
                have u2 := (hrow6).cell 2 rfl
                have u3 := (hrow6).cell 3 rfl
                have u4 := (hrow6).cell 4 rfl
                have u5 := (hrow6).cell 5 rfl
                have u6 := (hrow6).cell 6 rfl
                have u7 := (hrow6).cell 7 rfl
                have u8 := (hrow6).cell 8 rfl
                rw [Nat.add_zero] at u0
                rw [Hn.out] at hBN6
                have gf := fun j => hBN6.bo.own.frozenAt (g := g) j
                have hZ2 := hZ.2
                have hsz : wr.heap.size ≤ w5.heap.size := hbr1.size
                have HS := BN.set hBN6 (y := ⟨Bu.at ⟨i6, t6, k6, s6, n6, d6, f6, ms6, m6⟩ A9 c9, ms6⟩) HY.out hZ.1 (fun q hq => by have h := hZ2 q hq; simp only [World.size_drew] at h; constructor <;> omega)
                rw [List.length_set, ← Hn.out] at HS
                have hcells : (Bu.at ⟨i6, t6, k6, s6, n6, d6, f6, ms6, m6⟩ A9 c9).cells = [.int .i64 i6, .int .i64 t6, .int .i64 k6, .int .i64 s6, .int .i64 n6, .string d6, .bool f6, .slice A9 l6 c9, .int .i64 m6] := by rw [Hl6.out]; rfl
                rw [hcells] at HS
                have hBN := HS
                have hB := hB6.setRow_other (B := g) (i := i * 9) [.int .i64 i6, .int .i64 t6, .int .i64 k6, .int .i64 s6, .int .i64 n6, .string d6, .bool f6, .slice A9 l6 c9, .int .i64 m6] (by omega)
                have hD := hD6.setRow_other (B := g) (i := i * 9) [.int .i64 i6, .int .i64 t6, .int .i64 k6, .int .i64 s6, .int .i64 n6, .string d6, .bool f6, .slice A9 l6 c9, .int .i64 m6] (by omega)
                replace hbw := Bel.setRow (B := g) (i := i * 9) [.int .i64 i6, .int .i64 t6, .int .i64 k6, .int .i64 s6, .int .i64 n6, .string d6, .bool f6, .slice A9 l6 c9, .int .i64 m6] hbw (by have := HN.out; omega)
                have HLM : Hid ((L'.set i ⟨Bu.at ⟨i6, t6, k6, s6, n6, d6, f6, ms6, m6⟩ A9 c9, ms6⟩).map BM.bu = P.set i ⟨i6, t6, k6, s6, n6, d6, f6, ms6, m6⟩) := by
                  show _ = _
                  rw [List.map_set, HPL2.out]
                  rfl
                have hD9 := hD.set 0 (by simp) (.slice (some ⟨g, 0, none⟩) n c')
                have HB9 := Lib.hid ((hBN.far (p := ⟨N + 3, 0, none⟩) (by show N + 3 < _; omega) (.slice (some ⟨g, 0, none⟩) n c')).mono (show w.heap.size ≤ _ by have := HN.out; omega))
                have hb9 := Lib.hid (hbw.setNew (p := ⟨N + 3, 0, none⟩) (by have := HN.out; show w.heap.size ≤ N + 3; omega) (.slice (some ⟨g, 0, none⟩) n c'))
                simp only [List.set_cons_zero] at hD9
                have b0 := hB.1.2 0 _ rfl
                have bl := hB.1.1
                have d0 := hD.1.2 0 _ rfl
                have dl := hD.1.1
                have df := hD.2 0
                have r0 := hD9.1.2 0 _ rfl
                simp only [setRow, Nat.add_assoc, Nat.reduceAdd] at b0 bl d0 dl df r0
                clear hB1 hB6 hB hD1 hD6 hD hBN1 hBN6 hBN HS hbw hbw1 hb6 hb56 hZ hZ2 hrow6 hcells hD9
                go_wp2
                exact bodyPost_ret (v := .tuple #[.agg #[.slice (some ⟨g, 0, none⟩) n c'], .bool true]) (by simp [results, Try.results29, go_sem, r0]) rfl ⟨.slice (some ⟨g, 0, none⟩) n c', by rw [HEQ.out], L'.set i ⟨Bu.at ⟨i6, t6, k6, s6, n6, d6, f6, ms6, m6⟩ A9 c9, ms6⟩, HB9.out, by rw [HEQ.out]; exact HLM.out, hb9.out⟩
        · obtain rfl : i = n := by omega
          have jk : decide ((i : Int) < (i : Int)) = false := by simp
          have HGN := Lib.hid (fun j (h : j < P.length) => HG.out j (by rw [HLN.out]; exact h))
          have b0 := hB.1.2 0 _ rfl
          have bl := hB.1.1
          by_cases h16 : 16 ≤ i
          · have h16i : (16 : Int) ≤ (i : Int) := by omega
            have HEQ := Lib.hid (addP_full HOK.out.1 HOK.out.2 HGN.out (by rw [← HLN.out]; exact h16))
            clear b0 bl HG HGN
            have hD9 := hD.set 0 (by simp) (.slice A' i c')
            have HB9 := Lib.hid ((hBN.far (p := ⟨N + 3, 0, none⟩) (by show N + 3 < _; omega) (.slice A' i c')).mono (show w.heap.size ≤ _ by have := HN.out; omega))
            have hb9 := hbw.setNew (p := ⟨N + 3, 0, none⟩) (by have := HN.out; show w.heap.size ≤ N + 3; omega) (.slice A' i c')
            simp only [List.set_cons_zero] at hD9
            have b0 := hB.1.2 0 _ rfl
            have bl := hB.1.1
            have d0 := hD.1.2 0 _ rfl
            have dl := hD.1.1
            have df := hD.2 0
            clear hA hB hC hD hBN hbw
            go_wp2
            have r0 := hD9.1.2 0 _ rfl
            exact bodyPost_ret (v := .tuple #[.agg #[.slice A' i c'], .bool false]) (by simp [results, Try.results29, go_sem, r0]) rfl ⟨_, L', by rw [HEQ.out], HB9.out, by rw [HEQ.out]; exact HPL2.out, hb9⟩
          · have h16i : ¬ (16 : Int) ≤ (i : Int) := by omega
            have HEQ := Lib.hid (addP_snoc HOK.out.1 HOK.out.2 HGN.out (by rw [← HLN.out]; omega))
            clear HG HGN
            have hl1 : l1 = ms1.length := HX.out.len
            have hXX : Mems w (Bu.at ⟨i1, t1, k1, s1, n1, d1, f1, ms1, m1⟩ a1 c1) ms1 := by have h := HX.out; rw [hl1] at h; exact h
            have hs1 : ms1.length ≤ 1000 := by
              have h := (ok_small HOK.out.1).1
              rw [HU.out] at h
              have h2 : ms1.length ≤ 128 := h
              omega
            have HCB : Hid (∀ W, Bel w W → Calls Try.prog 64 #[.agg #[.int .i64 i1, .int .i64 t1, .int .i64 k1, .int .i64 s1, .int .i64 n1, .string d1, .bool f1, .slice a1 l1 c1, .int .i64 m1]] W fun e w' => ∃ A' c', e = .returned (.agg #[.int .i64 i1, .int .i64 t1, .int .i64 k1, .int .i64 s1, .int .i64 n1, .string d1, .bool f1, .slice A' l1 c', .int .i64 m1]) ∧ Zb w' W.heap.size ⟨i1, t1, k1, s1, n1, d1, f1, ms1, m1⟩ A' c' ∧ Bel W w') := fun W hW => by
              have := copyBunch_any ⟨i1, t1, k1, s1, n1, d1, f1, ms1, m1⟩ a1 c1 W (hXX.bel hW) hs1
              simp only [Bu.at] at this
              rw [← hl1] at this
              exact this
            have HL1 := Lib.hid hl1
            clear hl1 hXX hs1
            have rb := fun d os => cell_regrown b0 d os
            have p0 := (hC).1.2 0 _ rfl
            have p1 := (hC).1.2 1 _ rfl
            have p2 := (hC).1.2 2 _ rfl
            have p3 := (hC).1.2 3 _ rfl
            have p4 := (hC).1.2 4 _ rfl
            have p5 := (hC).1.2 5 _ rfl
            have p6 := (hC).1.2 6 _ rfl
            have p7 := (hC).1.2 7 _ rfl
            have p8 := (hC).1.2 8 _ rfl
            have rp0 := fun d os => cell_regrown p0 d os
            have rp1 := fun d os => cell_regrown p1 d os
            have rp2 := fun d os => cell_regrown p2 d os
            have rp3 := fun d os => cell_regrown p3 d os
            have rp4 := fun d os => cell_regrown p4 d os
            have rp5 := fun d os => cell_regrown p5 d os
            have rp6 := fun d os => cell_regrown p6 d os
            have rp7 := fun d os => cell_regrown p7 d os
            have rp8 := fun d os => cell_regrown p8 d os
            clear p0 p1 p2 p3 p4 p5 p6 p7 p8
            obtain ⟨i0, hi, hz0, hz1, hz2⟩ := info_parts Try.infoBunchP
            go_wp2_with fail
            refine wp_region_lex [3, 4] 5 (by kernel_rfl) (by kernel_rfl) ?_
            simp only [List.take_succ_cons, List.take_zero, List.drop_succ_cons, List.drop_zero]
            with_reducible refine lex_seg 3 _ _ _ _ (by kernel_rfl) ?_
            simp only [List.take_succ_cons, List.take_zero, List.drop_succ_cons, List.drop_zero]
            try simp only [Act.put, List.setIfInBounds_toArray, List.set_cons_succ, List.set_cons_zero]
            repeat (go_big_quiet_step (fail))
            with_reducible refine wpQuiet_nil ?_
            refine lex_call 64 rfl rfl (by simp [go_sem]; rfl) ?_
            refine (HCB.out _ (by repeat (first | (with_reducible exact Bel.refl _) | (with_reducible assumption) | (with_reducible refine Bel.drewN ?_ _) | (with_reducible refine Bel.drew ?_) | (with_reducible refine Bel.alloc ?_ _) | (with_reducible refine Bel.setNew ?_ ?_ _) | (with_reducible refine Bel.trans ?_ (by assumption)) | (focus (simp; done)) | (focus (simp; omega))))).mono ?_; rintro e w6 ⟨A9, c9, rfl, hZ, hb6⟩
            refine ⟨_, rfl, hb6, ?_⟩
            refine lex_made rfl rfl (by simp [go_sem]; exact ⟨rfl, rfl⟩) (Bel.alloc (Bel.refl _) _) ?_
            try simp only [Act.put, List.setIfInBounds_toArray, List.set_cons_succ, List.set_cons_zero]
            with_reducible refine lex_nil ?_
            clear rb rp0 rp1 rp2 rp3 rp4 rp5 rp6 rp7 rp8
            have hb56 : Bel wr w6 := (by repeat (first | (with_reducible exact Bel.refl _) | (with_reducible assumption) | (with_reducible refine Bel.drewN ?_ _) | (with_reducible refine Bel.drew ?_) | (with_reducible refine Bel.alloc ?_ _) | (with_reducible refine Bel.setNew ?_ ?_ _) | (with_reducible refine Bel.trans ?_ (by assumption)) | (focus (simp; done)) | (focus (simp; omega))))
            have hB6 := hB.bel hb56
            have hD6 := hD.bel hb56
            have hBN6 := hBN.keep hb56
            have hbw6 := hbw.trans hb56
            have hown6 : w6.ownsRow (N + 1 + 1 + 1 + 1) 27 9 (.slice A' i c') i (bmc L') := by have h := hBN6.bo.own; rw [← Hn.out] at h; exact h
            have hN6 : N + 3 < w6.heap.size := by have := hD6.1.1; omega
            have hZ1 := hZ.1
            have hZ2 := hZ.2
            simp only [World.size_drew] at hZ2
            have hsz : N + 1 + 1 + 1 + 1 ≤ wr.heap.size := by have := hD.1.1; omega
            have hlt9 := fun k e => (hBN.bo.own.lt k e).2
            clear hA hB hC hD hBN hbw hb6 hZ b0 bl
            have hneB := own_ne hown6 (k := N + 1) (.inl (by omega))
            have hneD := own_ne hown6 (k := N + 3) (.inl (by omega))
            go_wp2_with (at_builtin; go_must (refine wpList_append_own_at _ rfl _ _ 46 rfl (N + 1 + 1 + 1 + 1) 27 i0 _ 9 96 Try.underlying46 hi hz0 hz1 hz2 rfl (by omega) (.slice A' i c') _ _ rfl (hown6.alloc _) ⟨w6.heap.size, 0, none⟩ 1 1 (Bun.cells ⟨i1, t1, k1, s1, n1, d1, f1, A9, l1, c9, m1⟩) rfl rfl (World.news_of_block (cs := #[.int .i64 i1, .int .i64 t1, .int .i64 k1, .int .i64 s1, .int .i64 n1, .string d1, .bool f1, .slice A9 l1 c9, .int .i64 m1]) (t := 27) (fr := (0, 0)) (heap_alloc_new w6 _)) (bcells_oneP _) (by unfold maxLen; omega) (by omega) (by simp; omega) ?_); intro v' w7 hown' hg' _ hloc; obtain ⟨gn, cn, hvn, _, _⟩ := hown'.form (by omega); subst hvn; have hB7 := (hB6.alloc _).grown hg' (Ne.symm hneB); have hD7 := (hD6.alloc _).grown hg' (Ne.symm hneD); have hB8 := hB7.set 0 (by simp) (.slice (some ⟨gn, 0, none⟩) (i + 1) cn); have hD8 := hD7.other (C := N + 1) (by omega) 0 (.slice (some ⟨gn, 0, none⟩) (i + 1) cn); have b0 := hB7.1.2 0 _ rfl; have bl := hB7.1.1; have bf := hB7.2 0; have bb0 := hB8.1.2 0 _ rfl; have d0 := hD8.1.2 0 _ rfl; have dl := hD8.1.1; have df := hD8.2 0)
            have hcl : Bun.cells ⟨i1, t1, k1, s1, n1, d1, f1, A9, l1, c9, m1⟩ = (Bu.at ⟨i1, t1, k1, s1, n1, d1, f1, ms1, m1⟩ A9 c9).cells := by rw [HL1.out]; rfl
            rw [hcl] at hown'
            have hS := BN.snoc (x := ⟨Bu.at ⟨i1, t1, k1, s1, n1, d1, f1, ms1, m1⟩ A9 c9, ms1⟩) hBN6 hZ1 hZ2 hsz hlt9 (by rw [← Hn.out]; exact hown') hg' hloc
            have hS9 := (hS.far (p := ⟨N + 1, 0, none⟩) (by show N + 1 < _; omega) (.slice (some ⟨gn, 0, none⟩) (i + 1) cn)).far (p := ⟨N + 3, 0, none⟩) (by show N + 3 < _; omega) (.slice (some ⟨gn, 0, none⟩) (i + 1) cn)
            have hb7 := bel_own (hbw6.alloc _) (hown6.alloc _) hg' (by have := HN.out; omega)
            have hb9 := (hb7.setNew (p := ⟨N + 1, 0, none⟩) (by have := HN.out; show w.heap.size ≤ N + 1; omega) (.slice (some ⟨gn, 0, none⟩) (i + 1) cn)).setNew (p := ⟨N + 3, 0, none⟩) (by have := HN.out; show w.heap.size ≤ N + 3; omega) (.slice (some ⟨gn, 0, none⟩) (i + 1) cn)
            have hD9 := hD8.set 0 (by simp) (.slice (some ⟨gn, 0, none⟩) (i + 1) cn)
            have r0 := hD9.1.2 0 _ rfl
            have HLM : Hid ((L' ++ [(⟨Bu.at ⟨i1, t1, k1, s1, n1, d1, f1, ms1, m1⟩ A9 c9, ms1⟩ : BM)]).map BM.bu = P ++ [u]) := by
              show _ = _
              rw [List.map_append, HPL2.out, HU.out]
              rfl
            exact bodyPost_ret (v := .tuple #[.agg #[.slice (some ⟨gn, 0, none⟩) (i + 1) cn], .bool true]) (by simp [results, Try.results29, go_sem, r0]) rfl ⟨.slice (some ⟨gn, 0, none⟩) (i + 1) cn, by rw [HEQ.out], L' ++ [⟨Bu.at ⟨i1, t1, k1, s1, n1, d1, f1, ms1, m1⟩ A9 c9, ms1⟩], hS9.mono (show w.heap.size ≤ _ by have := HN.out; omega), by rw [HEQ.out]; exact HLM.out, hb9⟩
end Go.Proofs.Ytbijfmpmgmfpgaa
