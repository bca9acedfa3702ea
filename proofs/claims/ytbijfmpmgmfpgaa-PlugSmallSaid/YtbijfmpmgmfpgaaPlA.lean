/- A row of bunches of the call's own: one of its bunches is stored over; copies.Bunch. -/
import Derived.Test.YtbijfmpmgmfpgaaJoin
import Derived.Test.YtbijfmpmgmfpgaaQ
namespace Go.Proofs.Ytbijfmpmgmfpgaa
open Go.RowKit Go.Maps
set_option linter.unusedSimpArgs false

/-- The cells vs laid over a list from place i on. -/
def setL : List Value → Nat → List Value → List Value
  | xs, _, [] => xs
  | xs, i, v :: vs => setL (xs.set i v) (i + 1) vs
theorem setL_mid : ∀ (vs mid pre post : List Value), mid.length = vs.length → setL (pre ++ (mid ++ post)) pre.length vs = pre ++ (vs ++ post)
  | [], mid, pre, post, h => by
    obtain rfl : mid = [] := List.length_eq_zero_iff.1 (by simpa using h)
    rfl
  | v :: vs, [], pre, post, h => by simp at h
  | v :: vs, m :: mid, pre, post, h => by
    have e : (pre ++ (m :: mid ++ post)).set pre.length v = (pre ++ [v]) ++ (mid ++ post) := by
      rw [List.set_append_right _ _ (Nat.le_refl _), Nat.sub_self]
      simp
    have ih := setL_mid vs mid (pre ++ [v]) post (by simpa using h)
    unfold setL
    rw [e, show pre.length + 1 = (pre ++ [v]).length by simp, ih]
    simp
theorem own_setRow {base : Nat} {e : TypeId} {size g n cap : Nat} : ∀ (vs : List Value) {xs : List Value} {w : World} {i : Nat}, w.ownsRow base e size (.slice (some ⟨g, 0, none⟩) n cap) n xs → (setRow w g i vs).ownsRow base e size (.slice (some ⟨g, 0, none⟩) n cap) n (setL xs i vs)
  | [], _, _, _, h => h
  | v :: vs, _, _, i, h => own_setRow vs (h.stored i v).1
theorem bmc_set {L : List BM} {k : Nat} {x y : BM} (h : L[k]? = some x) : setL (bmc L) (k * 9) y.b.cells = bmc (L.set k y) := by
  obtain ⟨hk, hx⟩ := List.getElem?_eq_some_iff.1 h
  have e1 : L = L.take k ++ (x :: L.drop (k + 1)) := by
    rw [← hx, ← List.drop_eq_getElem_cons hk, List.take_append_drop]
  have e2 : L.set k y = L.take k ++ (y :: L.drop (k + 1)) := by
    rw [List.set_eq_take_append_cons_drop, if_pos hk]
  have e3 : bmc L = bmc (L.take k) ++ (x.b.cells ++ bmc (L.drop (k + 1))) := by
    conv => lhs; rw [e1]
    simp [bmc]
  have e4 : bmc (L.set k y) = bmc (L.take k) ++ (y.b.cells ++ bmc (L.drop (k + 1))) := by rw [e2]; simp [bmc]
  have hl : (bmc (L.take k)).length = k * 9 := by rw [bmc_len, List.length_take, Nat.min_eq_left (by omega)]
  rw [e3, e4, ← hl]
  exact setL_mid y.b.cells x.b.cells _ _ rfl

/-- A row of bunches of the call's own, whose members lie outside of it. -/
structure BO (w : World) (base : Nat) (v : Value) (L : List BM) : Prop where
  own : w.ownsRow base 27 9 v L.length (bmc L)
  mem : ∀ x ∈ L, Mems w x.b x.ms
  sep : ∀ x ∈ L, 0 < x.ms.length → ∀ k, (Value.slice x.b.mA x.b.mL x.b.mC).ownBlock = some k → v.ownBlock ≠ some k
theorem Rd.empty {w : World} {v : Value} {size n : Nat} {xs : List Value} (h : Rd w v size n xs) (hn : ¬ 0 < n) (w' : World) : Rd w' v size n xs := by
  obtain ⟨h1, A, c, hv, h2, h3, _⟩ := h
  exact ⟨h1, A, c, hv, h2, h3, fun h => absurd h hn⟩
theorem BO.bl {w : World} {base : Nat} {v : Value} {L : List BM} (h : BO w base v L) : BL w v L := ⟨Rd.own h.own, h.mem⟩
theorem BO.keep {w w' : World} {base : Nat} {v : Value} {L : List BM} (h : BO w base v L) (hb : Bel w w') : BO w' base v L := ⟨own_keep h.own hb, fun x hx => (h.mem x hx).bel hb, h.sep⟩
theorem BO.nil (w : World) (base : Nat) : BO w base (.slice none 0 0) [] := ⟨⟨rfl, Or.inl ⟨rfl, rfl⟩⟩, (fun x hx => by cases hx), (fun x hx => by cases hx)⟩
/-- Element k stored over. -/
theorem BO.set {w : World} {base g cap : Nat} {L : List BM} {k : Nat} {x y : BM} (h : BO w base (.slice (some ⟨g, 0, none⟩) L.length cap) L) (hk : L[k]? = some x) (hy : Mems w y.b y.ms) (hs : 0 < y.ms.length → ∀ q, (Value.slice y.b.mA y.b.mL y.b.mC).ownBlock = some q → q ≠ g) :
    BO (setRow w g (k * 9) y.b.cells) base (.slice (some ⟨g, 0, none⟩) (L.set k y).length cap) (L.set k y) := by
  have h1 := own_setRow y.b.cells (i := k * 9) h.own
  rw [bmc_set hk] at h1
  have hm : ∀ z ∈ L.set k y, (Mems w z.b z.ms) ∧ (0 < z.ms.length → ∀ q, (Value.slice z.b.mA z.b.mL z.b.mC).ownBlock = some q → q ≠ g) := by
    intro z hz
    rcases List.mem_or_eq_of_mem_set hz with hz | rfl
    · exact ⟨h.mem z hz, fun h0 q hq e => h.sep z hz h0 q hq (by rw [e]; rfl)⟩
    · exact ⟨hy, hs⟩
  refine ⟨by rw [List.length_set]; exact h1, fun z hz => ?_, fun z hz h0 q hq e => ?_⟩
  · obtain ⟨g1, g2⟩ := hm z hz
    refine ⟨g1.len, ?_, g1.ids, g1.dl⟩
    by_cases h0 : 0 < z.ms.length
    · exact g1.rd.setRow _ (fun e => g2 h0 _ e rfl)
    · exact g1.rd.empty h0 _
  · have : some g = some q := e
    exact (hm z hz).2 h0 q hq (by injection this with h; exact h.symm)

set_option maxRecDepth 100000 in
set_option maxHeartbeats 4000000 in
theorem copyBunch_any (u : Bu) (A : Option Addr) (c : Nat) (w : World) (hx : Mems w (u.at A c) u.ms) (hn : u.ms.length ≤ 1000) :
    Calls Try.prog 64 #[.agg #[.int .i64 ((Bu.at u A c)).id, .int .i64 ((Bu.at u A c)).ten, .int .i64 ((Bu.at u A c)).knd, .int .i64 ((Bu.at u A c)).sec, .int .i64 ((Bu.at u A c)).cnt, .string ((Bu.at u A c)).dat, .bool ((Bu.at u A c)).fua, .slice ((Bu.at u A c)).mA ((Bu.at u A c)).mL ((Bu.at u A c)).mC, .int .i64 ((Bu.at u A c)).tim]] w fun e w' => ∃ A' c', e = .returned (.agg #[.int .i64 ((Bu.at u A' c')).id, .int .i64 ((Bu.at u A' c')).ten, .int .i64 ((Bu.at u A' c')).knd, .int .i64 ((Bu.at u A' c')).sec, .int .i64 ((Bu.at u A' c')).cnt, .string ((Bu.at u A' c')).dat, .bool ((Bu.at u A' c')).fua, .slice ((Bu.at u A' c')).mA ((Bu.at u A' c')).mL ((Bu.at u A' c')).mC, .int .i64 ((Bu.at u A' c')).tim]) ∧ Zb w' w.heap.size u A' c' ∧ Bel w w' := by
  have HC := Lib.hid (fun w' (h : Bel w w') => cloneMem_any _ _ _ w' (hx.rd.bel h) (flat_one (f := Mem.cells) (fun m v hv => by simp [Mem.cells] at hv; rcases hv with rfl | rfl | rfl <;> rfl) u.ms) hn)
  have HM := Lib.hid (And.intro hx.ids hx.dl)
  obtain ⟨i1, t1, k1, s1, n1, d1, f1, ms, m1⟩ := u
  simp only [Bu.at] at HC HM ⊢
  obtain ⟨n, Hn⟩ : ∃ n, Hid (n = ms.length) := ⟨_, rfl⟩
  rw [← Hn.out] at HC ⊢
  clear hx hn
  have hA := (AtF.new_at (w := w) rfl 27 [.int .i64 i1, .int .i64 t1, .int .i64 k1, .int .i64 s1, .int .i64 n1, .string d1, .bool f1, .slice A n c, .int .i64 m1]).alloc (.cells [.int .i64 0, .int .i64 0, .int .i64 0, .int .i64 0, .int .i64 0, .string ⟨#[]⟩, .bool false, .slice none 0 0, .int .i64 0].toArray 27)
  have hR := AtF.new_at (w := w.alloc (.cells [.int .i64 i1, .int .i64 t1, .int .i64 k1, .int .i64 s1, .int .i64 n1, .string d1, .bool f1, .slice A n c, .int .i64 m1].toArray 27)) (g := w.heap.size + 1) (by simp) 27 [.int .i64 0, .int .i64 0, .int .i64 0, .int .i64 0, .int .i64 0, .string ⟨#[]⟩, .bool false, .slice none 0 0, .int .i64 0]
  have hbw : Bel w ((w.alloc (.cells [.int .i64 i1, .int .i64 t1, .int .i64 k1, .int .i64 s1, .int .i64 n1, .string d1, .bool f1, .slice A n c, .int .i64 m1].toArray 27)).alloc (.cells [.int .i64 0, .int .i64 0, .int .i64 0, .int .i64 0, .int .i64 0, .string ⟨#[]⟩, .bool false, .slice none 0 0, .int .i64 0].toArray 27)) := (by repeat (first | (with_reducible exact Bel.refl _) | (with_reducible assumption) | (with_reducible refine Bel.drewN ?_ _) | (with_reducible refine Bel.drew ?_) | (with_reducible refine Bel.alloc ?_ _) | (with_reducible refine Bel.setNew ?_ ?_ _) | (with_reducible refine Bel.trans ?_ (by assumption)) | (focus (simp; done)) | (focus (simp; omega))))
  simp only [List.toArray] at hA hR hbw
  go_enter Try.func64, Try.ntmps64
  go_wp2_with fail
  refine (HC.out _ hbw).mono ?_; rintro e w1 ⟨v', rfl, hown, hb1⟩
  obtain ⟨A', c', rfl⟩ := own_slice hown
  simp only [World.size_alloc] at hown
  replace hA := hA.bel hb1
  replace hR := hR.bel hb1
  replace hbw := hbw.trans hb1
  have p0 := (hA).1.2 0 _ rfl
  have p1 := (hA).1.2 1 _ rfl
  have p2 := (hA).1.2 2 _ rfl
  have p3 := (hA).1.2 3 _ rfl
  have p4 := (hA).1.2 4 _ rfl
  have p5 := (hA).1.2 5 _ rfl
  have p6 := (hA).1.2 6 _ rfl
  have p7 := (hA).1.2 7 _ rfl
  have p8 := (hA).1.2 8 _ rfl
  have r0 := (hR).1.2 0 _ rfl
  have r1 := (hR).1.2 1 _ rfl
  have r2 := (hR).1.2 2 _ rfl
  have r3 := (hR).1.2 3 _ rfl
  have r4 := (hR).1.2 4 _ rfl
  have r5 := (hR).1.2 5 _ rfl
  have r6 := (hR).1.2 6 _ rfl
  have r7 := (hR).1.2 7 _ rfl
  have r8 := (hR).1.2 8 _ rfl
  have pf := hA.2
  have pl := hA.1.1
  have rf := hR.2
  have rl := hR.1.1
  have hR2 := (hR.other (C := w.heap.size) (by omega) 7 (.slice A' n c')).setRow [.int .i64 i1, .int .i64 t1, .int .i64 k1, .int .i64 s1, .int .i64 n1, .string d1, .bool f1, .slice A' n c', .int .i64 m1] rfl
  have hO := setRow_own (B := w.heap.size + 1) (i := 0) [.int .i64 i1, .int .i64 t1, .int .i64 k1, .int .i64 s1, .int .i64 n1, .string d1, .bool f1, .slice A' n c', .int .i64 m1] (own_far hown (p := ⟨w.heap.size, 7, none⟩) (own_ne hown (.inl (by show w.heap.size < _; omega))) (.slice A' n c')) (own_ne hown (.inl (by omega)))
  have hbz := Bel.setRow (B := w.heap.size + 1) (i := 0) [.int .i64 i1, .int .i64 t1, .int .i64 k1, .int .i64 s1, .int .i64 n1, .string d1, .bool f1, .slice A' n c', .int .i64 m1] (hbw.setNew (p := ⟨w.heap.size, 7, none⟩) (Nat.le_refl _) (.slice A' n c')) (by omega)
  have HZ : Hid (Zb (setRow (w1.setCell ⟨w.heap.size, 7, none⟩ (.slice A' n c')) (w.heap.size + 1) 0 [.int .i64 i1, .int .i64 t1, .int .i64 k1, .int .i64 s1, .int .i64 n1, .string d1, .bool f1, .slice A' n c', .int .i64 m1]) w.heap.size ⟨i1, t1, k1, s1, n1, d1, f1, ms, m1⟩ A' c') := Lib.hid ⟨⟨rfl, by show Rd _ (.slice A' ms.length c') 3 ms.length (mcells ms); rw [← Hn.out]; exact Rd.own hO, HM.out.1, HM.out.2⟩, fun k hk => by rw [← Hn.out] at hk; have := (hO.lt k hk).1; omega⟩
  clear hO
  go_wp2
  clear r0 r1 r2 r3 r4 r5 r6 r7 r8
  have r0 := (hR2).1.2 0 _ rfl
  have r1 := (hR2).1.2 1 _ rfl
  have r2 := (hR2).1.2 2 _ rfl
  have r3 := (hR2).1.2 3 _ rfl
  have r4 := (hR2).1.2 4 _ rfl
  have r5 := (hR2).1.2 5 _ rfl
  have r6 := (hR2).1.2 6 _ rfl
  have r7 := (hR2).1.2 7 _ rfl
  have r8 := (hR2).1.2 8 _ rfl
  exact bodyPost_ret (v := .agg #[.int .i64 i1, .int .i64 t1, .int .i64 k1, .int .i64 s1, .int .i64 n1, .string d1, .bool f1, .slice A' n c', .int .i64 m1]) (by simp only [setRow] at r0 r1 r2 r3 r4 r5 r6 r7 r8; simp [results, Try.results64, go_sem, r0, r1, r2, r3, r4, r5, r6, r7, r8]) rfl ⟨A', c', rfl, HZ.out, hbz⟩
end Go.Proofs.Ytbijfmpmgmfpgaa
