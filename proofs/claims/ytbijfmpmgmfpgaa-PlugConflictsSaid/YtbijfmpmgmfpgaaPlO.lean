/- Plain laws of PlugFits and PlugKeeps. -/
import Derived.Test.YtbijfmpmgmfpgaaPlM
namespace Go.Proofs.Ytbijfmpmgmfpgaa
open Go.RowKit Go.Maps
set_option linter.unusedSimpArgs false

/-- How often x holds the first member of bunch k. -/
def hitK (l : List Mem) (k : Nat) : Nat := l.countP fun e => e.id == 2 * (k : Int)
def hits (l : List Mem) (m : Nat) : Nat := ((List.range m).map (hitK l)).sum
theorem hits_succ (l : List Mem) (m : Nat) : hits l (m + 1) = hits l m + hitK l m := by
  unfold hits
  rw [List.range_succ]
  simp
theorem hits_ge {l : List Mem} : ∀ {m k : Nat}, k < m → hitK l k ≤ hits l m
  | 0, _, h => by omega
  | m + 1, k, h => by
    rw [hits_succ]
    by_cases e : k = m
    · subst e; omega
    · have := hits_ge (l := l) (m := m) (k := k) (by omega)
      omega
theorem hits_zero {l : List Mem} : ∀ {m : Nat}, (∀ k < m, hitK l k = 0) → hits l m = 0
  | 0, _ => rfl
  | m + 1, h => by rw [hits_succ, hits_zero (m := m) (fun k hk => h k (by omega)), h m (by omega)]
theorem hits_one {l : List Mem} {k0 : Nat} (h1 : hitK l k0 = 1) (h0 : ∀ k, k ≠ k0 → hitK l k = 0) : ∀ {m : Nat}, k0 < m → hits l m = 1
  | 0, h => by omega
  | m + 1, h => by
    rw [hits_succ]
    by_cases e : k0 = m
    · subst e
      rw [hits_zero fun k hk => h0 k (by omega), h1]
    · rw [hits_one h1 h0 (m := m) (by omega), h0 m (by omega)]
theorem hitK_le (l : List Mem) (k : Nat) : hitK l k ≤ l.length := List.countP_le_length
theorem hits_le (l : List Mem) : ∀ m, hits l m ≤ m * l.length
  | 0 => by simp [hits]
  | m + 1 => by
    have := hits_le l m
    have := hitK_le l m
    rw [hits_succ, Nat.add_mul, Nat.one_mul]
    omega
theorem hitK_take {l : List Mem} {j k : Nat} {e : Mem} (h : l[j]? = some e) : hitK (l.take (j + 1)) k = hitK (l.take j) k + if e.id = 2 * (k : Int) then 1 else 0 := by
  unfold hitK
  rw [List.take_add_one, h, List.countP_append]
  by_cases he : e.id = 2 * (k : Int) <;> simp [he]
theorem PIn.hits_pos {M B : Int} {Q : List Bu} {m : Nat} {x : Bu} (h : PIn M B Q m x) : 1 ≤ hits x.ms m := by
  obtain ⟨k, e, h1, h2, h3⟩ := h.hit
  have : 0 < hitK x.ms k := by
    unfold hitK
    rw [List.countP_pos_iff]
    exact ⟨e, h2, by simp [h3]⟩
  have := hits_ge (l := x.ms) h1
  omega
theorem PIn.hits_fit {M B : Int} {Q : List Bu} {m : Nat} {x : Bu} (hq : DkQ Q) (h : PIn M B Q m x) (h1 : hits x.ms m ≠ 1) : fits M B x.sec x.cnt = true := by
  rcases h.src with ⟨k, hk, hx⟩ | hf
  · exfalso
    apply h1
    have hd := hq.2 k x hx
    refine hits_one (k0 := k) ?_ (fun j hj => ?_) hk
    · unfold hitK
      rcases hd.ms with e | e <;> rw [e] <;> simp <;> omega
    · unfold hitK
      rcases hd.ms with e | e <;> rw [e] <;> simp <;> omega
  · exact hf
/-- A member of an element is the one of the bunches with its id. -/
theorem PIn.own {M B : Int} {Q : List Bu} {m k : Nat} {x b : Bu} {e f : Mem} (hq : DkQ Q) (h : PIn M B Q m x) (he : e ∈ x.ms) (hb : Q[k]? = some b) (hf : f ∈ b.ms) (hid : f.id = e.id) : Fr x e b f := by
  obtain ⟨k', b', f', h1, h2, h3, h4⟩ := h.mem e he
  have d1 := hq.2 k b hb
  have d2 := hq.2 k' b' h2
  have hk : k = k' := by
    have := d1.id hf
    have := d2.id h3
    have := h4.id
    omega
  subst hk
  rw [hb] at h2
  injection h2 with h2
  subst h2
  have hff : f = f' := by
    have e1 : f.id = f'.id := hid.trans h4.id
    rcases d1.ms with g | g <;> rw [g] at hf h3 <;> simp only [List.mem_cons, List.not_mem_nil, or_false] at hf h3
    · rw [hf, h3]
    · rcases hf with rfl | rfl <;> rcases h3 with rfl | rfl
      · rfl
      · exact absurd e1 (by show ¬ (2 * (k : Int) = 2 * (k : Int) + 1); omega)
      · exact absurd e1 (by show ¬ (2 * (k : Int) + 1 = 2 * (k : Int)); omega)
      · rfl
  rw [hff]
  exact h4
/-- Some bunch holds a member's id. -/
theorem PIn.has {M B : Int} {Q : List Bu} {m : Nat} {x : Bu} {e : Mem} (h : PIn M B Q m x) (he : e ∈ x.ms) : (Q.any fun b => b.ms.any fun f => f.id == e.id) = true := by
  obtain ⟨k, b, f, _, h2, h3, h4⟩ := h.mem e he
  rw [List.any_eq_true]
  refine ⟨b, List.mem_of_getElem? h2, ?_⟩
  rw [List.any_eq_true]
  exact ⟨f, h3, by simp [h4.id]⟩
theorem ord_sum {P : List Bu} (g : Nat → Nat) : ∀ r ≤ P.length, (((ordR P r).2 ++ unT P.length (ordR P r).1).map g).sum = ((List.range P.length).map g).sum
  | 0, _ => by
    have h1 : unT P.length (List.replicate P.length false) = List.range P.length := by
      unfold unT
      rw [List.filter_eq_self]
      intro i hi
      rw [offB_iff, List.getElem?_replicate, if_pos (List.mem_range.1 hi)]
    show (([] ++ unT P.length (List.replicate P.length false)).map g).sum = _
    rw [h1, List.nil_append]
  | r + 1, h => by
    obtain ⟨b, h1, h2, h3, h4⟩ := ordR_succ (P := P) (r := r) (by omega)
    rw [← ord_sum g r (by omega), h4]
    obtain ⟨c1, c2⟩ := unT_cut h2 h3
    generalize (ordR P r).1 = T at *
    generalize (ordR P r).2 = o at *
    simp only
    rw [c1, c2]
    simp only [List.map_append, List.map_cons, List.map_nil, List.sum_append, List.sum_cons, List.sum_nil]
    omega
theorem drain_sum (P : List Bu) (f : Bu → Nat) : ((drainP P).map f).sum = (P.map f).sum := by
  have h := ord_sum (P := P) (fun i => f (atP P i)) P.length (Nat.le_refl _)
  have ho := ordR_ok P P.length (Nat.le_refl _)
  rw [unT_full ho.len ho.cnt, List.append_nil] at h
  have e1 : ((drainP P).map f).sum = ((ordR P P.length).2.map fun i => f (atP P i)).sum := by
    unfold drainP ordP
    rw [List.map_map]
    rfl
  rw [e1, h]
  congr 1
  apply List.ext_getElem?
  intro i
  rw [List.getElem?_map, List.getElem?_map]
  by_cases hi : i < P.length
  · rw [List.getElem?_range hi, List.getElem?_eq_getElem hi]
    exact congrArg (fun x => some (f x)) (atP_some (List.getElem?_eq_getElem hi))
  · rw [List.getElem?_eq_none (by simpa using hi), List.getElem?_eq_none (by omega)]
    rfl
theorem drain_mem {P : List Bu} {x : Bu} (h : x ∈ drainP P) : x ∈ P := by
  unfold drainP at h
  rw [List.mem_map] at h
  obtain ⟨i, hi, rfl⟩ := h
  have hlt := (ordR_ok P P.length (Nat.le_refl _)).lt i hi
  rw [List.getD_eq_getElem?_getD, List.getElem?_eq_getElem hlt]
  exact List.getElem_mem _

/-! ### counting members -/
def cntL (l : List BM) : Nat := (l.map fun x => x.ms.length).sum
theorem cntL_take {l : List BM} {i : Nat} {x : BM} (h : l[i]? = some x) : cntL (l.take (i + 1)) = cntL (l.take i) + x.ms.length := by
  unfold cntL
  rw [List.take_add_one, h]
  simp
theorem cntL_le {c : Nat} : ∀ {l : List BM}, (∀ x ∈ l, x.ms.length ≤ c) → cntL l ≤ l.length * c
  | [], _ => by simp [cntL]
  | x :: l, h => by
    have h1 := h x (by simp)
    have h2 := cntL_le (l := l) fun y hy => h y (by simp [hy])
    have : cntL (x :: l) = x.ms.length + cntL l := by simp [cntL]
    rw [this, List.length_cons, Nat.succ_mul]
    omega
theorem cntL_bu (l : List BM) : cntL l = ((l.map BM.bu).map fun x => x.ms.length).sum := by
  unfold cntL
  rw [List.map_map]
  rfl
theorem drainP_len (P : List Bu) : (drainP P).length = P.length := by
  unfold drainP
  rw [List.length_map, ordP_len]
/-- Whether a bunch holds a member with an id. -/
def hasId (id : Int) (l : List BM) : Bool := l.any fun b => b.ms.any fun f => f.id == id
def memId (id : Int) (l : List Mem) : Bool := l.any fun f => f.id == id
theorem hasId_take {id : Int} {l : List BM} {j : Nat} {y : BM} (h : l[j]? = some y) : hasId id (l.take (j + 1)) = (hasId id (l.take j) || memId id y.ms) := by
  unfold hasId memId
  rw [List.take_add_one, h]
  simp
theorem memId_take {id : Int} {l : List Mem} {j : Nat} {f : Mem} (h : l[j]? = some f) : memId id (l.take (j + 1)) = (memId id (l.take j) || f.id == id) := by
  unfold memId
  rw [List.take_add_one, h]
  simp
theorem PIn.hasL {M B : Int} {Q : List Bu} {m : Nat} {x : Bu} {e : Mem} {L : List BM} (h : PIn M B Q m x) (he : e ∈ x.ms) (hQ : Q = L.map BM.bu) : hasId e.id L = true := by
  have := h.has he
  rw [hQ, List.any_map] at this
  exact this
/-- The data of a valid bunch, cut. -/
theorem cutU_own {u : Bu} (h : okU u = true) : (u.knd = 1 ∧ cutU u u.dat = []) ∨ (u.knd = 2 ∧ cutU u u.dat = u.ms.map (cutM u.dat)) := by
  rcases dataOk_size (okU_parts.1 h).2.1 with ⟨h1, h2⟩ | ⟨h1, h2⟩
  · refine .inl ⟨h1, ?_⟩
    unfold cutU
    rw [if_neg]
    rintro ⟨_, h3⟩
    have := okU_range h
    omega
  · refine .inr ⟨h1, ?_⟩
    unfold cutU
    rw [if_pos ⟨h, h2⟩]
end Go.Proofs.Ytbijfmpmgmfpgaa
