/- What lies in a plug: plain laws. -/
import Derived.Test.YtbijfmpmgmfpgaaPlK
import Derived.Test.YtbijfmpmgmfpgaaBns
import Derived.Test.YtbijfmpmgmfpgaaCutP
import Derived.Test.YtbijfmpmgmfpgaaJoin
namespace Go.Proofs.Ytbijfmpmgmfpgaa
open Go.RowKit Go.Maps
set_option linter.unusedSimpArgs false

theorem fits_big {M B s c : Int} (h : fits M B s c = true) : fits 128 0 s c = true := by
  unfold fits limOk room at h
  simp only [Bool.and_eq_true, decide_eq_true_eq] at h
  unfold fits limOk room
  simp only [Bool.and_eq_true, decide_eq_true_eq]
  obtain ⟨⟨a1, a2, a3, a4⟩, b1, b2, b3, b4⟩ := h
  have h5 : c ≤ 128 := by split at b4 <;> omega
  exact ⟨by decide, b1, b2, b3, by simpa using h5⟩
theorem can_big {M B : Int} {u v : Bu} (h : canU M B u v ≠ 0) : canU 128 0 u v = canU M B u v := by
  have ha := canU_alike h
  have ho := alike_ok ha
  have r1 := okU_range ho.1
  have r2 := okU_range ho.2.1
  unfold canU at h ⊢
  rw [if_pos ha] at h ⊢
  rw [if_pos ha]
  by_cases h1 : v.sec = u.sec + u.cnt ∧ fits M B u.sec (u.cnt + v.cnt) = true
  · rw [if_pos h1, if_pos ⟨h1.1, fits_big h1.2⟩]
  · rw [if_neg h1] at h ⊢
    by_cases h2 : u.sec = v.sec + v.cnt ∧ fits M B v.sec (u.cnt + v.cnt) = true
    · rw [if_pos h2, if_neg (fun g => by omega), if_pos ⟨h2.1, fits_big h2.2⟩]
    · rw [if_neg h2] at h
      exact absurd rfl h
/-- What a join looks like: x ahead of y. -/
structure JoinS (M B : Int) (u v x y : Bu) : Prop where
  or : (x = u ∧ y = v) ∨ (x = v ∧ y = u)
  eq : joinU u v (canU M B u v) = pairU u v x y
  side : y.sec = x.sec + x.cnt
  fit : fits M B x.sec (x.cnt + y.cnt) = true
  okx : okU x = true
  oky : okU y = true
  ten : u.ten = v.ten
  knd : u.knd = v.knd
  fua : u.fua = v.fua
  ok : okU (pairU u v x y) = true
theorem join_shape {M B : Int} {u v : Bu} (h : canU M B u v ≠ 0) : ∃ x y, JoinS M B u v x y := by
  obtain ⟨o1, o2, o3, o4, o5, o6⟩ := alike_ok (canU_alike h)
  have hb := can_big h
  have hj : joinU u v (canU M B u v) = if canU M B u v = 2 then pairU u v v u else pairU u v u v := by
    unfold joinU
    rw [if_neg]
    rintro (g | g)
    · exact h g
    · exact g hb
  have hc : (canU M B u v = 1 ∧ v.sec = u.sec + u.cnt ∧ fits M B u.sec (u.cnt + v.cnt) = true) ∨ (canU M B u v = 2 ∧ u.sec = v.sec + v.cnt ∧ fits M B v.sec (u.cnt + v.cnt) = true) := by
    have hal := canU_alike h
    unfold canU at h ⊢
    rw [if_pos hal] at h ⊢
    split
    · rename_i g; exact .inl ⟨rfl, g⟩
    · rename_i g1
      rw [if_neg g1] at h
      split
      · rename_i g; exact .inr ⟨rfl, g⟩
      · rename_i g2
        rw [if_neg g2] at h
        exact absurd rfl h
  rcases hc with ⟨c, s, f⟩ | ⟨c, s, f⟩
  · refine ⟨u, v, .inl ⟨rfl, rfl⟩, ?_, s, f, o1, o2, o3, o4, o5, pair_ok o1 o2 rfl o4 s o6⟩
    rw [hj, if_neg (by omega)]
  · refine ⟨v, u, .inr ⟨rfl, rfl⟩, ?_, s, by rw [Int.add_comm]; exact f, o2, o1, o3, o4, o5, pair_ok o2 o1 o4 o4.symm s (strU_symm o6)⟩
    rw [hj, if_pos c]
theorem addAt_find {M B : Int} {b : Bu} {P : List Bu} {i : Nat} (h : addAt M B b P = some i) : ∃ a, P[i]? = some a ∧ canU M B a b ≠ 0 ∧ ((P.drop (i + 1)).any fun x => confU x b) = false := by
  unfold addAt at h
  have := List.find?_some h
  unfold goodI at this
  split at this
  · cases this
  · rename_i a ha
    rw [Bool.and_eq_true] at this
    exact ⟨a, ha, by simpa using this.1, by simpa using this.2⟩
/-- Adding joins or appends, where there is room. -/
theorem addP_cases {M B : Int} {P : List Bu} {b : Bu} (h1 : okU b = true) (h2 : limOk M B = true) (hl : P.length < 16) :
    (∃ i a x y, P[i]? = some a ∧ JoinS M B a b x y ∧ ((P.drop (i + 1)).any fun x => confU x b) = false ∧ addP M B P b = (P.set i (pairU a b x y), true)) ∨ addP M B P b = (P ++ [b], true) := by
  unfold addP
  rw [if_pos ⟨h1, h2⟩]
  cases h : addAt M B b P with
  | none =>
    right
    simp only
    rw [if_neg (by omega)]
  | some i =>
    left
    obtain ⟨a, ha, hc, hd⟩ := addAt_find h
    obtain ⟨x, y, hj⟩ := join_shape hc
    refine ⟨i, a, x, y, ha, hj, hd, ?_⟩
    simp only [ha]
    rw [hj.eq]
/-- The plug behind m bunches of Q. -/
def plugP (M B : Int) (Q : List Bu) : Nat → List Bu
  | 0 => []
  | m + 1 => match Q[m]? with
    | some b => (addP M B (plugP M B Q m) b).1
    | none => plugP M B Q m
theorem plugP_succ {M B : Int} {Q : List Bu} {m : Nat} {b : Bu} (h : Q[m]? = some b) : plugP M B Q (m + 1) = (addP M B (plugP M B Q m) b).1 := by
  rw [plugP, h]

/-- The bunches of the dock. -/
structure DkB (k : Nat) (b : Bu) : Prop where
  ok : okU b = true
  ms : b.ms = [⟨2 * (k : Int), 0, b.cnt⟩] ∨ b.ms = [⟨2 * (k : Int), 0, 1⟩, ⟨2 * (k : Int) + 1, 1, b.cnt - 1⟩]
  sec : b.sec ≤ 13
  cnt : b.cnt ≤ 3
def DkQ (Q : List Bu) : Prop := Q.length ≤ 8 ∧ ∀ k b, Q[k]? = some b → DkB k b
theorem bns_dk {zs : List Int} {m : Nat} {L : List BM} (h : BnsOk zs m L) (hm : m ≤ 8) : DkQ (L.map BM.bu) := by
  refine ⟨by rw [List.length_map, h.1]; exact hm, fun k b hk => ?_⟩
  rw [List.getElem?_map] at hk
  cases hx : L[k]? with
  | none => rw [hx] at hk; cases hk
  | some x =>
    rw [hx] at hk
    injection hk with hk
    subst hk
    obtain ⟨z, A, _, rfl⟩ := h.2 k x hx
    have hs := rnd_hi (z / 16) 14 (by omega)
    have hc := bnC_bd z
    refine ⟨bn_valid z k A, ?_, ?_, ?_⟩
    · show bnM z k = _ ∨ bnM z k = _
      unfold bnM
      split
      · exact .inr rfl
      · exact .inl rfl
    · show rnd (z / 16) 14 ≤ 13; omega
    · show 1 + bnC z ≤ 3; omega
theorem DkB.id {k : Nat} {b : Bu} (h : DkB k b) {f : Mem} (hf : f ∈ b.ms) : f.id = 2 * (k : Int) ∨ f.id = 2 * (k : Int) + 1 := by
  rcases h.ms with e | e <;> rw [e] at hf <;> simp at hf
  · exact .inl (by rw [hf])
  · rcases hf with rfl | rfl
    · exact .inl rfl
    · exact .inr rfl
theorem DkB.head {k : Nat} {b : Bu} (h : DkB k b) : ∃ f l, b.ms = f :: l ∧ f.id = 2 * (k : Int) := by
  rcases h.ms with e | e <;> exact ⟨_, _, e, rfl⟩

/-- A member e of x is the member f of b. -/
structure Fr (x : Bu) (e : Mem) (b : Bu) (f : Mem) : Prop where
  id : e.id = f.id
  cnt : e.cnt = f.cnt
  pos : b.sec + f.off = x.sec + e.off
  ten : b.ten = x.ten
  knd : b.knd = x.knd
  fua : b.fua = x.fua
  tim : x.tim ≤ b.tim
  dat : x.knd = 2 → cutM x.dat e = cutM b.dat f
/-- What an element of a plug is behind m bunches of Q. -/
structure PIn (M B : Int) (Q : List Bu) (m : Nat) (x : Bu) : Prop where
  ok : okU x = true
  src : (∃ k, k < m ∧ Q[k]? = some x) ∨ fits M B x.sec x.cnt = true
  mem : ∀ e ∈ x.ms, ∃ k b f, k < m ∧ Q[k]? = some b ∧ f ∈ b.ms ∧ Fr x e b f
  hit : ∃ k e, k < m ∧ e ∈ x.ms ∧ e.id = 2 * (k : Int)
  top : x.sec + x.cnt ≤ 16
  lo : ∀ e ∈ x.ms, 0 ≤ e.id ∧ e.id < 2 * (m : Int)
theorem PIn.up {M B : Int} {Q : List Bu} {m : Nat} {x : Bu} (h : PIn M B Q m x) : PIn M B Q (m + 1) x where
  ok := h.ok
  src := h.src.imp (fun ⟨k, h1, h2⟩ => ⟨k, by omega, h2⟩) fun h => h
  mem := fun e he => (h.mem e he).imp fun k ⟨b, f, h1, h2⟩ => ⟨b, f, by omega, h2⟩
  hit := h.hit.imp fun k ⟨e, h1, h2⟩ => ⟨e, by omega, h2⟩
  top := h.top
  lo := fun e he => by have := h.lo e he; omega
theorem PIn.one {M B : Int} {Q : List Bu} {m : Nat} {b : Bu} (hd : DkB m b) (hb : Q[m]? = some b) : PIn M B Q (m + 1) b where
  ok := hd.ok
  src := .inl ⟨m, by omega, hb⟩
  mem := fun e he => ⟨m, b, e, by omega, hb, he, rfl, rfl, rfl, rfl, rfl, rfl, by omega, fun _ => rfl⟩
  hit := by
    obtain ⟨f, l, h1, h2⟩ := hd.head
    exact ⟨m, f, by omega, by rw [h1]; simp, h2⟩
  top := by have := hd.sec; have := hd.cnt; omega
  lo := fun e he => by rcases hd.id he with h | h <;> omega
/-- A member behind a join. -/
theorem fr_pair {M B : Int} {u v x y : Bu} (hj : JoinS M B u v x y) {e : Mem} (he : e ∈ (pairU u v x y).ms) :
    (∃ f ∈ x.ms, Fr (pairU u v x y) e x f) ∨ (∃ f ∈ y.ms, Fr (pairU u v x y) e y f) := by
  have kx : x.ten = u.ten ∧ x.knd = u.knd ∧ x.fua = u.fua ∧ min u.tim v.tim ≤ x.tim := by
    have := hj.ten; have := hj.knd; have := hj.fua
    rcases hj.or with ⟨rfl, rfl⟩ | ⟨rfl, rfl⟩
    · exact ⟨rfl, rfl, rfl, Int.min_le_left _ _⟩
    · exact ⟨hj.ten.symm, hj.knd.symm, hj.fua.symm, Int.min_le_right _ _⟩
  have ky : y.ten = u.ten ∧ y.knd = u.knd ∧ y.fua = u.fua ∧ min u.tim v.tim ≤ y.tim := by
    rcases hj.or with ⟨rfl, rfl⟩ | ⟨rfl, rfl⟩
    · exact ⟨hj.ten.symm, hj.knd.symm, hj.fua.symm, Int.min_le_right _ _⟩
    · exact ⟨rfl, rfl, rfl, Int.min_le_left _ _⟩
  have dx : x.knd = 2 → (x.dat.size : Int) = x.cnt * 8 := fun h => by
    rcases dataOk_size (okU_parts.1 hj.okx).2.1 with ⟨h1, _⟩ | ⟨_, h2⟩
    · omega
    · exact h2
  have rx := okU_range hj.okx
  replace he : e ∈ x.ms ++ shift x.cnt y.ms := he
  rw [List.mem_append] at he
  rcases he with he | he
  · refine .inl ⟨e, he, rfl, rfl, rfl, kx.1, kx.2.1, kx.2.2.1, kx.2.2.2, fun h2 => ?_⟩
    have h2' : u.knd = 2 := h2
    have hm := okU_mem hj.okx he
    have hs := dx (by rw [kx.2.1]; exact h2')
    exact extract_left (by omega)
  · unfold shift at he
    rw [List.mem_map] at he
    obtain ⟨f, hf, rfl⟩ := he
    refine .inr ⟨f, hf, rfl, rfl, ?_, ky.1, ky.2.1, ky.2.2.1, ky.2.2.2, fun h2 => ?_⟩
    · show y.sec + f.off = x.sec + (f.off + x.cnt)
      have := hj.side
      omega
    · have h2' : u.knd = 2 := h2
      have hm := okU_mem hj.oky hf
      have hs := dx (by rw [kx.2.1]; exact h2')
      show (x.dat ++ y.dat).extract ((f.off + x.cnt).toNat * 8) ((f.off + x.cnt + f.cnt).toNat * 8) = y.dat.extract (f.off.toNat * 8) ((f.off + f.cnt).toNat * 8)
      rw [show (f.off + x.cnt).toNat * 8 = x.dat.size + f.off.toNat * 8 by omega, show (f.off + x.cnt + f.cnt).toNat * 8 = x.dat.size + (f.off + f.cnt).toNat * 8 by omega]
      exact extract_right
theorem Fr.trans {x y z : Bu} {e f g : Mem} (h1 : Fr x e y f) (h2 : Fr y f z g) : Fr x e z g where
  id := h1.id.trans h2.id
  cnt := h1.cnt.trans h2.cnt
  pos := h2.pos.trans h1.pos
  ten := h2.ten.trans h1.ten
  knd := h2.knd.trans h1.knd
  fua := h2.fua.trans h1.fua
  tim := Int.le_trans h1.tim h2.tim
  dat := fun h => (h1.dat h).trans (h2.dat (by rw [h1.knd]; exact h))
theorem pair_mem {u v x y : Bu} {f : Mem} (hf : f ∈ x.ms ∨ f ∈ y.ms) : ∃ e ∈ (pairU u v x y).ms, e.id = f.id := by
  show ∃ e ∈ x.ms ++ shift x.cnt y.ms, _
  rcases hf with hf | hf
  · exact ⟨f, List.mem_append_left _ hf, rfl⟩
  · exact ⟨⟨f.id, f.off + x.cnt, f.cnt⟩, List.mem_append_right _ (List.mem_map.2 ⟨f, hf, rfl⟩), rfl⟩
theorem PIn.join {M B : Int} {Q : List Bu} {m : Nat} {a b x y : Bu} (h : PIn M B Q m a) (hd : DkB m b) (hb : Q[m]? = some b) (hj : JoinS M B a b x y) : PIn M B Q (m + 1) (pairU a b x y) where
  ok := hj.ok
  src := .inr hj.fit
  mem := fun e he => by
    have ho : ∀ z, z = a ∨ z = b → ∀ f ∈ z.ms, Fr (pairU a b x y) e z f → ∃ k c f, k < m + 1 ∧ Q[k]? = some c ∧ f ∈ c.ms ∧ Fr (pairU a b x y) e c f := by
      rintro z (rfl | rfl) f hf hfr
      · obtain ⟨k, c, g, h1, h2, h3, h4⟩ := h.mem f hf
        exact ⟨k, c, g, by omega, h2, h3, hfr.trans h4⟩
      · exact ⟨m, _, f, by omega, hb, hf, hfr⟩
    have hx : x = a ∨ x = b := by rcases hj.or with ⟨h, _⟩ | ⟨h, _⟩ <;> simp [h]
    have hy : y = a ∨ y = b := by rcases hj.or with ⟨_, h⟩ | ⟨_, h⟩ <;> simp [h]
    rcases fr_pair hj he with ⟨f, hf, hfr⟩ | ⟨f, hf, hfr⟩
    · exact ho x hx f hf hfr
    · exact ho y hy f hf hfr
  hit := by
    obtain ⟨k, f, h1, h2, h3⟩ := h.hit
    have hf : f ∈ x.ms ∨ f ∈ y.ms := by
      rcases hj.or with ⟨rfl, _⟩ | ⟨_, rfl⟩
      · exact .inl h2
      · exact .inr h2
    obtain ⟨e, g1, g2⟩ := pair_mem (u := a) (v := b) hf
    exact ⟨k, e, by omega, g1, by rw [g2, h3]⟩
  top := by
    have h1 : x.sec + (x.cnt + y.cnt) ≤ 16 := by
      have := hj.side
      have := h.top
      have := hd.sec
      have := hd.cnt
      rcases hj.or with ⟨rfl, rfl⟩ | ⟨rfl, rfl⟩ <;> omega
    exact h1
  lo := fun e he => by
    have ha : ∀ f ∈ a.ms, 0 ≤ f.id ∧ f.id < 2 * ((m + 1 : Nat) : Int) := fun f hf => by have := h.lo f hf; omega
    have hb : ∀ f ∈ b.ms, 0 ≤ f.id ∧ f.id < 2 * ((m + 1 : Nat) : Int) := fun f hf => by rcases hd.id hf with h | h <;> omega
    rcases fr_pair hj he with ⟨f, hf, hfr⟩ | ⟨f, hf, hfr⟩ <;> rw [hfr.id] <;> rcases hj.or with ⟨rfl, rfl⟩ | ⟨rfl, rfl⟩
    · exact ha f hf
    · exact hb f hf
    · exact hb f hf
    · exact ha f hf
/-- No member in two elements. -/
def Disj (P : List Bu) : Prop := ∀ (i j : Nat) (x y : Bu), i ≠ j → P[i]? = some x → P[j]? = some y → ∀ e ∈ x.ms, ∀ f ∈ y.ms, e.id ≠ f.id
/-- All of a plug. -/
structure PlS (M B : Int) (Q : List Bu) (m : Nat) (P : List Bu) : Prop where
  len : P.length ≤ m
  disj : Disj P
  each : ∀ x ∈ P, PIn M B Q m x
  sum : (P.map fun x => x.ms.length).sum = ((Q.take m).map fun x => x.ms.length).sum
theorem sum_set (f : Bu → Nat) : ∀ (P : List Bu) (i : Nat) (a c : Bu) (n : Nat), P[i]? = some a → f c = f a + n → ((P.set i c).map f).sum = (P.map f).sum + n
  | [], i, a, c, n, h, _ => by cases h
  | x :: P, 0, a, c, n, h, hc => by
    obtain rfl : x = a := by simpa using h
    simp only [List.set_cons_zero, List.map_cons, List.sum_cons]
    omega
  | x :: P, i + 1, a, c, n, h, hc => by
    have := sum_set f P i a c n (by simpa using h) hc
    simp only [List.set_cons_succ, List.map_cons, List.sum_cons]
    omega
theorem Disj.set {P : List Bu} {m : Nat} {M B : Int} {Q : List Bu} {a b x y : Bu} {i : Nat} (h : Disj P) (hl : ∀ z ∈ P, PIn M B Q m z) (hd : DkB m b) (hj : JoinS M B a b x y) (ha : P[i]? = some a) : Disj (P.set i (pairU a b x y)) := by
  have hm : ∀ e ∈ (pairU a b x y).ms, (∃ f ∈ a.ms, e.id = f.id) ∨ 2 * (m : Int) ≤ e.id := fun e he => by
    rcases fr_pair hj he with ⟨f, hf, hfr⟩ | ⟨f, hf, hfr⟩ <;> rw [hfr.id] <;> rcases hj.or with ⟨rfl, rfl⟩ | ⟨rfl, rfl⟩
    · exact .inl ⟨f, hf, rfl⟩
    · exact .inr (by rcases hd.id hf with h | h <;> omega)
    · exact .inr (by rcases hd.id hf with h | h <;> omega)
    · exact .inl ⟨f, hf, rfl⟩
  have hc : ∀ (j : Nat) (z : Bu), i ≠ j → P[j]? = some z → ∀ e ∈ (pairU a b x y).ms, ∀ f ∈ z.ms, e.id ≠ f.id := fun j z hij hz e he f hf => by
    rcases hm e he with ⟨g, hg, e1⟩ | e1
    · rw [e1]; exact h i j a z hij ha hz g hg f hf
    · have := (hl z (List.mem_of_getElem? hz)).lo f hf
      omega
  intro j k u v hjk hu hv e he f hf
  rw [List.getElem?_set] at hu hv
  split at hu
  · rename_i e1
    subst e1
    rw [if_neg hjk] at hv
    split at hu
    · obtain rfl : pairU a b x y = u := by simpa using hu
      exact hc k v hjk hv e he f hf
    · cases hu
  · rename_i e1
    split at hv
    · rename_i e2
      subst e2
      split at hv
      · obtain rfl : pairU a b x y = v := by simpa using hv
        exact (hc j u e1 hu f hf e he).symm
      · cases hv
    · exact h j k u v hjk hu hv e he f hf
theorem Disj.snoc {P : List Bu} {m : Nat} {M B : Int} {Q : List Bu} {b : Bu} (h : Disj P) (hl : ∀ z ∈ P, PIn M B Q m z) (hd : DkB m b) : Disj (P ++ [b]) := by
  have hc : ∀ (j : Nat) (z : Bu), P[j]? = some z → ∀ e ∈ b.ms, ∀ f ∈ z.ms, e.id ≠ f.id := fun j z hz e he f hf => by
    have := (hl z (List.mem_of_getElem? hz)).lo f hf
    rcases hd.id he with h | h <;> omega
  have hs : ∀ (j : Nat) (z : Bu), (P ++ [b])[j]? = some z → P[j]? = some z ∨ (j = P.length ∧ z = b) := fun j z hz => by
    by_cases e : j < P.length
    · rw [List.getElem?_append_left e] at hz
      exact .inl hz
    · rw [List.getElem?_append_right (by omega)] at hz
      have hlt := (List.getElem?_eq_some_iff.1 hz).1
      have h0 : j - P.length = 0 := by simpa using hlt
      rw [h0] at hz
      exact .inr ⟨by omega, by simpa using hz.symm⟩
  intro j k u v hjk hu hv e he f hf
  rcases hs j u hu with hu2 | ⟨h1, h3⟩ <;> rcases hs k v hv with hv2 | ⟨h2, h4⟩
  · exact h j k u v hjk hu2 hv2 e he f hf
  · subst h4
    exact (hc j u hu2 f hf e he).symm
  · subst h3
    exact hc k v hv2 e he f hf
  · omega
theorem plugP_step {M B : Int} {Q : List Bu} {m : Nat} {b : Bu} (hd : DkB m b) (hb : Q[m]? = some b) (hl : limOk M B = true) (hm : m < 16) (h : PlS M B Q m (plugP M B Q m)) :
    addP M B (plugP M B Q m) b = (plugP M B Q (m + 1), true) ∧ PlS M B Q (m + 1) (plugP M B Q (m + 1)) := by
  rw [plugP_succ hb]
  have ht : ((Q.take (m + 1)).map fun x => x.ms.length).sum = ((Q.take m).map fun x => x.ms.length).sum + b.ms.length := by
    rw [List.take_add_one, hb]
    simp
  generalize plugP M B Q m = P at h
  rcases addP_cases (P := P) hd.ok hl (by have := h.len; omega) with ⟨i, a, x, y, ha, hj, _, he⟩ | he
  · rw [he]
    refine ⟨rfl, by have := h.len; simp; omega, h.disj.set h.each hd hj ha, fun z hz => ?_, ?_⟩
    · rcases List.mem_or_eq_of_mem_set hz with hz | rfl
      · exact (h.each z hz).up
      · exact (h.each a (List.mem_of_getElem? ha)).join hd hb hj
    · rw [ht, ← h.sum]
      refine sum_set _ _ _ _ _ _ ha ?_
      show (x.ms ++ shift x.cnt y.ms).length = _
      unfold shift
      rw [List.length_append, List.length_map]
      rcases hj.or with ⟨rfl, rfl⟩ | ⟨rfl, rfl⟩
      · rfl
      · exact Nat.add_comm _ _
  · rw [he]
    refine ⟨rfl, by have := h.len; simp; omega, h.disj.snoc h.each hd, fun z hz => ?_, ?_⟩
    · rcases List.mem_append.1 hz with hz | hz
      · exact (h.each z hz).up
      · rw [List.mem_singleton] at hz
        subst hz
        exact PIn.one hd hb
    · rw [ht, ← h.sum]
      simp
theorem plugP_ok {M B : Int} {Q : List Bu} (hq : DkQ Q) (hl : limOk M B = true) : ∀ m ≤ Q.length, PlS M B Q m (plugP M B Q m)
  | 0, _ => ⟨by simp [plugP], fun i j x y _ h => (by cases h), fun x h => (by cases h), rfl⟩
  | m + 1, h => by
    have h8 := hq.1
    have hb : Q[m]? = some (Q[m]'(by omega)) := List.getElem?_eq_getElem (by omega)
    exact (plugP_step (hq.2 m _ hb) hb hl (by omega) (plugP_ok hq hl m (by omega))).2
theorem plugP_add {M B : Int} {Q : List Bu} (hq : DkQ Q) (hl : limOk M B = true) {m : Nat} {b : Bu} (hb : Q[m]? = some b) : addP M B (plugP M B Q m) b = (plugP M B Q (m + 1), true) := by
  have hm := (List.getElem?_eq_some_iff.1 hb).1
  have h8 := hq.1
  exact (plugP_step (hq.2 m _ hb) hb hl (by omega) (plugP_ok hq hl m (by omega))).1
end Go.Proofs.Ytbijfmpmgmfpgaa
