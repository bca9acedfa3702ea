/- The plain laws of ElevatorShares. -/
import Derived.Test.YtpgjbocjhconoaaElU
import Derived.Test.YtpgjbocjhconoaaShr
namespace Go.Proofs.Ytpgjbocjhconoaa
open Go.RowKit Go.Maps
set_option linter.unusedSimpArgs false

/-- Bunches that are reads of one sector, of three tenants. -/
def PlnR (Q : List Bu) : Prop := PlnQ Q ∧ ∀ (k : Nat) (b : Bu), Q[k]? = some b → b.knd = 1 ∧ b.ten < 3
theorem plain_r {m : Nat} {L : List BM} (h : PlOk 3 m L) (hm : m ≤ 24) : PlnR (L.map BM.bu) := by
  refine ⟨plain_q h hm (by omega), fun k b hk => ?_⟩
  rw [List.getElem?_map] at hk
  cases hx : L[k]? with
  | none => rw [hx] at hk; cases hk
  | some x =>
    rw [hx] at hk
    injection hk with hk
    subst hk
    have hp := h.2 k x hx
    exact ⟨hp.knd, hp.ten.2⟩
def shrW (n : Int) : List Int := [1 + rnd n 8, 1 + rnd (n / 8) 8, 1 + rnd (n / 64) 8, 1]
def shrK : List Bk := [⟨0, 1, 0, 0⟩, ⟨0, 1, 0, 0⟩, ⟨0, 1, 0, 0⟩, ⟨0, 1, 0, 0⟩]
def shrE (n : Int) : El := ⟨3, 0, 0, 0, newF (shrW n), shrK, [], 0⟩
def kW (W : List Int) (t : Int) : Int := 840 / W.getD t.toNat 1
def endP (k : Int → Int) (P : Int → Int) (l : List Qd) : Int → Int := l.foldl (fun P x => upd P x.b.ten (P x.b.ten + k x.b.ten * x.b.cnt)) P
def qdE (E : El) : List Qd := E.en.map fun x => x.qm.q
theorem endP_snoc (k P : Int → Int) (l : List Qd) (x : Qd) : endP k P (l ++ [x]) = upd (endP k P l) x.b.ten (endP k P l x.b.ten + k x.b.ten * x.b.cnt) := by
  unfold endP; rw [List.foldl_append]; rfl
theorem ChL.snoc {k : Int → Int} : ∀ {l : List Qd} {P : Int → Int} {x : Qd}, ChL k P l → x.sta = endP k P l x.b.ten → ChL k P (l ++ [x])
  | [], _, _, _, h => ⟨h, trivial⟩
  | _ :: _, _, _, h, hx => ⟨h.1, ChL.snoc h.2 hx⟩
/-- A scheduler behind m bunches. -/
structure ShA (W : List Int) (Q : List Bu) (m : Nat) (E : El) : Prop where
  knd : E.knd = 3
  bk : E.bk = shrK
  vt : E.vt = 0
  f4 : F4 (2520 * (m : Int)) 0 E.fl
  us : usE E = Q.take m
  fl : ∀ t : Nat, t < 4 → E.fl[t]? = some (W.getD t 1, endP (kW W) (fun _ => 0) (qdE E) t)
  ch : ChL (kW W) (fun _ => 0) (qdE E)
  od : (qdE E).Pairwise OrdR
  hi : ∀ x ∈ qdE E, x.b.id < m ∧ x.sta ≤ endP (kW W) (fun _ => 0) (qdE E) x.b.ten
theorem shrW_in {n : Int} {k : Nat} {x : Int} (h : (shrW n)[k]? = some x) : 1 ≤ x ∧ x ≤ 8 := by
  have h1 := rnd_lo n 8
  have h2 := rnd_hi n 8 (by omega)
  have h3 := rnd_lo (n / 8) 8
  have h4 := rnd_hi (n / 8) 8 (by omega)
  have h5 := rnd_lo (n / 64) 8
  have h6 := rnd_hi (n / 64) 8 (by omega)
  unfold shrW at h
  match k with
  | 0 | 1 | 2 | 3 => simp at h; omega
  | k + 4 => simp at h
theorem shr_f4 (n : Int) : F4 0 0 (newF (shrW n)) := by
  refine ⟨by rw [newF_len]; rfl, Int.le_refl _, Int.le_refl _, fun k x y hk => ?_⟩
  unfold newF at hk
  rw [List.getElem?_map] at hk
  cases hz : (shrW n)[k]? with
  | none => rw [hz] at hk; cases hk
  | some z =>
    rw [hz] at hk
    simp at hk
    have := shrW_in hz
    omega
theorem ShA.start (n : Int) (Q : List Bu) : ShA (shrW n) Q 0 (shrE n) := by
  refine ⟨rfl, rfl, rfl, shr_f4 n, rfl, fun t ht => ?_, trivial, List.Pairwise.nil, fun x hx => by cases hx⟩
  match t, ht with
  | 0, _ | 1, _ | 2, _ | 3, _ => rfl
theorem ShA.step {W : List Int} {Q : List Bu} (hq : PlnR Q) {m : Nat} {E : El} {b : Bu} (h : ShA W Q m E) (hb : Q[m]? = some b) : (addE 1 0 E b).2 = true ∧ ShA W Q (m + 1) (addE 1 0 E b).1 := by
  obtain ⟨h1, h2, _, h4, h5, _⟩ := hq.1.2 m b hb
  obtain ⟨_, hk3⟩ := hq.2 m b hb
  have hm := (List.getElem?_eq_some_iff.1 hb).1
  have h24 := hq.1.1
  have hr := okU_range h1
  have hf := h.f4
  have hvt := h.vt
  rw [← hvt] at hf
  have hnone : partP 1 0 E.knd b E.en = none := by
    cases hp : partP 1 0 E.knd b E.en with
    | none => rfl
    | some i =>
      exfalso
      obtain ⟨a, ha, hc2, hd⟩ := partP_find hp
      obtain ⟨p, q, hj⟩ := join_shape hc2
      have r1 := okU_range hj.okx
      have r2 := okU_range hj.oky
      have hfi := hj.fit
      unfold fits room at hfi
      simp only [Bool.and_eq_true, decide_eq_true_eq, if_true] at hfi
      omega
  obtain ⟨x, y, hx, e, hF2⟩ := hf.adv h4.1 h4.2 hr.2.2.1 (by omega) (by omega) (fun _ y => max E.vt y) (fun _ y g1 g2 => by omega)
  have hfl := h.fl b.ten.toNat (by omega)
  rw [hx] at hfl
  injection hfl with hfl
  injection hfl with hx1 hy1
  have hbt : ((b.ten.toNat : Nat) : Int) = b.ten := Int.toNat_of_nonneg h4.1
  rw [hbt] at hy1
  have hxw := hf.fl b.ten.toNat x y hx
  have hmx : max E.vt y = y := by rw [hvt]; omega
  have hw8 := w_div (w := x) hxw.1 hxw.2.1 b.cnt
  have hkx : kW W b.ten = 840 / x := by unfold kW; rw [← hx1]
  have e2 : stampB E.vt E.fl b.ten b.cnt = _ := e
  unfold addE
  rw [if_pos ⟨h1, h4.1, h4.2⟩]
  simp only [hnone, e2, if_true, true_and]
  rw [hmx] at hF2 ⊢
  generalize hen : E.en ++ [(⟨b, dueU E.rdE E.wrE b, y, 0⟩ : Qu)] = en'
  have hqd : en'.map (fun x => x.qm.q) = qdE E ++ [⟨b.bun, dueU E.rdE E.wrE b, y, 0⟩] := by
    rw [← hen, List.map_append]; rfl
  have hend : endP (kW W) (fun _ => 0) (en'.map fun x => x.qm.q) = upd (endP (kW W) (fun _ => 0) (qdE E)) b.ten (y + b.cnt * 840 / x) := by
    rw [hqd, endP_snoc, hw8, ← hkx, hy1]; rfl
  have hmono : ∀ t, endP (kW W) (fun _ => 0) (qdE E) t ≤ upd (endP (kW W) (fun _ => 0) (qdE E)) b.ten (y + b.cnt * 840 / x) t := by
    intro t
    by_cases et : t = b.ten
    · subst et
      rw [upd_self, ← hy1]
      have : 0 ≤ b.cnt * 840 / x := Int.ediv_nonneg (by omega) (by omega)
      omega
    · rw [upd_ne _ _ et]; omega
  have e3 : 2520 * ((m + 1 : Nat) : Int) = 2520 * (m : Int) + 2520 := by omega
  rw [hvt] at hF2
  refine ⟨h.knd, h.bk, h.vt, by rw [e3]; exact hF2, ?_, ?_, ?_, ?_, ?_⟩
  · show en'.map Qu.u = _
    rw [← hen, List.map_append, List.take_add_one, hb]
    have := h.us
    unfold usE at this
    rw [this]; rfl
  · intro t ht
    show (E.fl.set b.ten.toNat _)[t]? = some (_, endP (kW W) (fun _ => 0) (en'.map fun x => x.qm.q) t)
    rw [hend]
    by_cases et : b.ten.toNat = t
    · subst et
      rw [List.getElem?_set_self (by rw [hf.len]; exact ht), hbt, upd_self, ← hx1]
    · rw [List.getElem?_set_ne et, upd_ne _ _ (by omega)]
      exact h.fl t ht
  · show ChL _ _ (en'.map fun x => x.qm.q)
    rw [hqd]
    exact h.ch.snoc hy1
  · show (en'.map fun x => x.qm.q).Pairwise OrdR
    rw [hqd, List.pairwise_append]
    refine ⟨h.od, List.pairwise_singleton _ _, fun z hz u hu => ?_⟩
    rw [List.mem_singleton] at hu
    subst hu
    have h9 := h.hi z hz
    refine ⟨by show z.b.id < b.id; omega, fun ez => ?_⟩
    have e9 : z.b.ten = b.ten := ez
    show z.sta ≤ y
    rw [hy1, ← e9]; exact h9.2
  · intro z hz
    have hz' : z ∈ en'.map fun x => x.qm.q := hz
    show z.b.id < ((m + 1 : Nat) : Int) ∧ z.sta ≤ endP (kW W) (fun _ => 0) (en'.map fun x => x.qm.q) z.b.ten
    rw [hend]
    rw [hqd] at hz'
    rcases List.mem_append.1 hz' with hz | hz
    · have h9 := h.hi z hz
      exact ⟨by omega, Int.le_trans h9.2 (hmono _)⟩
    · rw [List.mem_singleton] at hz
      subst hz
      refine ⟨by show b.id < _; omega, ?_⟩
      show y ≤ _
      have := hmono b.ten
      rw [← hy1] at this
      exact this
theorem ShA.mem {W : List Int} {Q : List Bu} {m : Nat} {E : El} (h : ShA W Q m E) {x : Qu} (hx : x ∈ E.en) : ∃ k : Nat, Q[k]? = some x.u := by
  have h1 : x.u ∈ usE E := List.mem_map_of_mem hx
  rw [h.us] at h1
  exact List.getElem?_of_mem (List.mem_of_mem_take h1)
theorem ShA.ok {W : List Int} {Q : List Bu} (hq : PlnR Q) {m : Nat} {E : El} (h : ShA W Q m E) : OkE E := by
  refine ⟨h.f4.len, by rw [h.bk]; rfl, ?_, fun x hx => ?_⟩
  · have e : (usE E).length = E.en.length := by unfold usE; rw [List.length_map]
    rw [← e, h.us, List.length_take]
    have := hq.1.1
    omega
  · obtain ⟨k, hk⟩ := h.mem hx
    exact (hq.1.2 k _ hk).1
/-- As long as entries are sent. -/
structure ShB (W : List Int) (P : Int → Int) (E : El) : Prop where
  knd : E.knd = 3
  ok : OkE E
  fr : FreeE E
  rd : ∀ x ∈ E.en, x.u.knd = 1 ∧ x.u.ten < 3 ∧ x.u.cnt = 1
  sh : ShI (kW W) (fun _ => 1) P (qdE E)
theorem shrK_free : ∀ x ∈ shrK, x.rate = 0 ∧ bkOk x = true := by decide
theorem ShA.toB {W : List Int} (hW : ∀ (k : Nat) (x : Int), W[k]? = some x → 1 ≤ x ∧ x ≤ 8) {Q : List Bu} (hq : PlnR Q) {m : Nat} {E : El} (h : ShA W Q m E) : ShB W (fun _ => 0) E := by
  have hen : ∀ x ∈ E.en, x.u.knd = 1 ∧ x.u.ten < 3 ∧ x.u.cnt = 1 ∧ 0 ≤ x.u.ten ∧ okU x.u = true := fun x hx => by
    obtain ⟨k, hk⟩ := h.mem hx
    have h1 := hq.1.2 k _ hk
    have h2 := hq.2 k _ hk
    exact ⟨h2.1, h2.2, h1.2.1, h1.2.2.2.1.1, h1.1⟩
  refine ⟨h.knd, h.ok hq, ⟨by rw [h.bk]; rfl, by rw [h.bk]; exact shrK_free, fun x hx => ?_⟩, fun x hx => ?_, h.ch, h.od, ?_, ?_⟩
  · have := hen x hx
    exact ⟨this.2.2.2.1, by omega, this.2.2.2.2⟩
  · have := hen x hx
    exact ⟨this.1, this.2.1, this.2.2.1⟩
  · intro z hz
    unfold qdE at hz
    rw [List.mem_map] at hz
    obtain ⟨x, hx, rfl⟩ := hz
    have h1 := hen x hx
    show 0 ≤ x.u.ten ∧ x.u.ten < 3 ∧ 1 ≤ x.u.cnt ∧ x.u.cnt ≤ 5 ∧ x.u.cnt ≤ 1
    omega
  · intro a b _
    have : 0 ≤ kW W a := by
      unfold kW
      refine Int.ediv_nonneg (by omega) ?_
      cases hx : W[a.toNat]? with
      | none => rw [List.getD_eq_getElem?_getD, hx]; show (0 : Int) ≤ 1; omega
      | some x =>
        rw [List.getD_eq_getElem?_getD, hx]
        show 0 ≤ x
        have := hW _ _ hx
        omega
    show (0 : Int) ≤ 0 + kW W a * 1
    omega
theorem OkE.next3 {E E' : El} {now : Int} {busy : List Bu} {x : Qu} {k : Nat} (h : OkE E) (hn : NextS E now busy E' x k) : OkE E' := by
  refine ⟨by rw [hn.fl]; exact h.fl, by rw [hn.bk, List.length_set]; exact h.bk, ?_, fun y hy => ?_⟩
  · rw [hn.en]
    have := h.en
    have := List.length_eraseIdx_le E.en k
    omega
  · rw [hn.en] at hy
    exact h.ok y (List.mem_of_mem_eraseIdx hy)
theorem conf_reads {a b : Bu} (ha : a.knd = 1) (hb : b.knd = 1) : confU a b = false := by
  cases h : confU a b
  · rfl
  · exfalso
    unfold confU confB at h
    simp only [Bool.and_eq_true] at h
    have h2 := h.2
    unfold meetB at h2
    rw [decide_eq_true_eq] at h2
    have g1 : a.bm.b.knd = a.knd := rfl
    have g2 : b.bm.b.knd = b.knd := rfl
    rw [g1, g2] at h2
    omega
theorem FreeE.pay0 {E : El} (h : FreeE E) {x : Qu} (hx : x ∈ E.en) : (payE E x.u 0).2 = true := by
  obtain ⟨t0, t4, hok⟩ := h.en x hx
  have hr := okU_range hok
  unfold payE bkAt
  rw [if_pos t0]
  have hl : x.u.ten.toNat < E.bk.length := by rw [h.bk]; omega
  rw [List.getElem?_eq_getElem hl]
  obtain ⟨r0, hb⟩ := h.fr _ (List.getElem_mem hl)
  generalize E.bk[x.u.ten.toNat] = k at r0 hb
  obtain ⟨r, u, l, t⟩ := k
  simp only at r0
  subst r0
  have h1 := bkOk_iff.1 hb
  show (takeB ⟨0, u, l, t⟩ 0 (min x.u.cnt u)).2 = true
  have hr2 : rightB ⟨0, u, l, t⟩ 0 (min x.u.cnt u) = true := by
    unfold rightB
    rw [hb]
    simp only [Bool.true_and, Bool.and_eq_true, decide_eq_true_eq]
    exact ⟨by decide, by omega, by omega⟩
  unfold takeB
  rw [hr2]
  rfl
theorem FreeE.next0 {E E' : El} {x : Qu} {k : Nat} (h : FreeE E) (hn : NextS E 0 [] E' x k) : FreeE E' := by
  refine ⟨by rw [hn.bk, List.length_set]; exact h.bk, fun y hy => ?_, fun y hy => ?_⟩
  · rw [hn.bk] at hy
    rcases List.mem_or_eq_of_mem_set hy with hy | rfl
    · exact h.fr y hy
    · obtain ⟨t0, t4, _⟩ := h.en x (List.mem_of_getElem? hn.at_)
      have hl : x.u.ten.toNat < E.bk.length := by rw [h.bk]; omega
      have hp : payE E x.u 0 = takeB (E.bk[x.u.ten.toNat]) 0 (min x.u.cnt (E.bk[x.u.ten.toNat]).burst) := by
        unfold payE bkAt
        rw [if_pos t0, List.getElem?_eq_getElem hl]
      rw [hp]
      have hf := h.fr _ (List.getElem_mem hl)
      generalize E.bk[x.u.ten.toNat] = b at hf
      unfold takeB
      split
      · rw [if_pos hf.1]; exact hf
      · exact hf
  · rw [hn.en] at hy
    exact h.en y (List.mem_of_mem_eraseIdx hy)
theorem ShB.may {W : List Int} {P : Int → Int} {E : El} (h : ShB W P E) : mayE E 0 [] = yesL E.en.length := by
  refine List.ext_getElem? fun k => ?_
  by_cases hk : k < E.en.length
  · rw [yesL_at hk]
    refine mayE_at.2 ⟨E.en[k], List.getElem?_eq_getElem hk, h.fr.pay0 (List.getElem_mem hk), ?_⟩
    unfold blkQ
    rw [List.getElem?_eq_getElem hk]
    simp only [List.any_nil, Bool.or_false, List.any_eq_false]
    intro y hy
    rw [conf_reads (h.rd y (List.mem_of_mem_take hy)).1 (h.rd _ (List.getElem_mem hk)).1]
    simp
  · have h1 : (mayE E 0 []).length = E.en.length := by unfold mayE; simp
    have h2 : (yesL E.en.length).length = E.en.length := by unfold yesL; simp
    rw [List.getElem?_eq_none (by omega), List.getElem?_eq_none (by omega)]
theorem kW_pos {W : List Int} (hW : ∀ (k : Nat) (x : Int), W[k]? = some x → 1 ≤ x ∧ x ≤ 8) (a : Int) : 0 ≤ kW W a ∧ kW W a ≤ 840 := by
  unfold kW
  cases hx : W[a.toNat]? with
  | none => rw [List.getD_eq_getElem?_getD, hx]; show 0 ≤ (840 : Int) / 1 ∧ (840 : Int) / 1 ≤ 840; omega
  | some x =>
    rw [List.getD_eq_getElem?_getD, hx]
    show 0 ≤ 840 / x ∧ 840 / x ≤ 840
    have := hW _ _ hx
    exact ⟨Int.ediv_nonneg (by omega) (by omega), Int.ediv_le_self _ (by omega)⟩
theorem ShB.go {W : List Int} (hW : ∀ (k : Nat) (x : Int), W[k]? = some x → 1 ≤ x ∧ x ≤ 8) {P : Int → Int} {E : El} (h : ShB W P E) (h0 : 0 < E.en.length) :
    ∃ E' x k, nxtE E 0 [] = (E', x.u, true) ∧ NextS E 0 [] E' x k ∧ ShB W (upd P x.u.ten (P x.u.ten + kW W x.u.ten)) E' ∧ 0 ≤ x.u.ten ∧ x.u.ten < 3 ∧ x.u.cnt = 1 ∧ okU x.u = true := by
  obtain ⟨E', x, k, h1, h2⟩ := nextE_go (E := E) (now := 0) (x := E.en[0]) (List.getElem?_eq_getElem h0) (h.fr.pay0 (List.getElem_mem h0))
  have hx := List.mem_of_getElem? h2.at_
  have hr := h.rd x hx
  have hxe := h.fr.en x hx
  have hlen : (qdE E).length = E.en.length := by unfold qdE; rw [List.length_map]
  obtain ⟨b, q, p1, p2, p3, p4⟩ := pick_all (l := qdE E) (by rw [hlen]; exact h0)
  have hc := h2.cho
  rw [h.may] at hc
  unfold choE at hc
  rw [h.knd, if_neg (by decide), if_pos rfl] at hc
  rw [hlen] at p1
  have hcb : k = b := by
    have e : pickN (qdE E) (yesL E.en.length) E.en.length = some k := hc
    rw [p1] at e
    injection e with e
    exact e.symm
  subst hcb
  have hq : (qdE E)[k]? = some x.qm.q := by
    unfold qdE
    rw [List.getElem?_map, h2.at_]; rfl
  have hs := h.sh.step (fun t => (kW_pos hW t).1) (fun t => by omega) hq (fun j z hz => by
    rw [hq] at p3
    injection p3 with p3
    subst p3
    exact p4 j z hz)
  have he : qdE E' = (qdE E).eraseIdx k := by
    unfold qdE
    rw [h2.en]
    simp only [List.eraseIdx_eq_take_drop_succ, List.map_append, List.map_take, List.map_drop]
  refine ⟨E', x, k, ?_, h2, ⟨h2.knd.trans h.knd, h.ok.next3 h2, h.fr.next0 h2, fun y hy => ?_, ?_⟩, hxe.1, hr.2.1, hr.2.2, hxe.2.2⟩
  · unfold nxtE
    rw [h1]
  · rw [h2.en] at hy
    exact h.rd y (List.mem_of_mem_eraseIdx hy)
  · rw [he]
    have e : P x.u.ten + kW W x.u.ten = P x.qm.q.b.ten + kW W x.qm.q.b.ten * x.qm.q.b.cnt := by
      show _ = P x.u.ten + kW W x.u.ten * x.u.cnt
      rw [hr.2.2, Int.mul_one]
    rw [e]
    exact hs.2
/-- How many of the first j entries have a tenant. -/
def tenN (en : List Qu) (t : Int) (j : Nat) : Nat := ((en.take j).filter fun x => decide (x.u.ten = t)).length
theorem tenN_succ {en : List Qu} {t : Int} {j : Nat} {x : Qu} (h : en[j]? = some x) : tenN en t (j + 1) = tenN en t j + if x.u.ten = t then 1 else 0 := by
  unfold tenN
  rw [List.take_add_one, h, List.filter_append, List.length_append]
  by_cases e : x.u.ten = t <;> simp [e]
theorem tenN_ex {en : List Qu} {t : Int} (h : tenN en t en.length ≠ 0) : ∃ x ∈ en, x.u.ten = t := by
  unfold tenN at h
  rw [List.take_length] at h
  obtain ⟨x, hx⟩ := List.exists_mem_of_ne_nil (en.filter fun x => decide (x.u.ten = t)) (fun e => h (by rw [e]; rfl))
  rw [List.mem_filter] at hx
  exact ⟨x, hx.1, by simpa using hx.2⟩
theorem ShB.bound {W : List Int} {P : Int → Int} {E : El} (h : ShB W P E) {a b : Int} (ha : ∃ x ∈ E.en, x.u.ten = a) (hb : ∃ x ∈ E.en, x.u.ten = b) : P a ≤ P b + kW W a ∧ P b ≤ P a + kW W b := by
  have cv : ∀ t, (∃ x ∈ E.en, x.u.ten = t) → ∃ x ∈ qdE E, x.b.ten = t := by
    rintro t ⟨x, hx, e⟩
    exact ⟨x.qm.q, List.mem_map_of_mem hx, e⟩
  have h1 := h.sh.2.2.2 a b (cv b hb)
  have h2 := h.sh.2.2.2 b a (cv a ha)
  simp only [Int.mul_one] at h1 h2
  exact ⟨h1, h2⟩
end Go.Proofs.Ytpgjbocjhconoaa
