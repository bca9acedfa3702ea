/- append inside a region that draws its order; taking one entry out of a row. -/
import Derived.Test.YtpgjbocjhconoaaGreatK1
namespace Go.Proofs.YtpgjbocjhconoaaGreat
open Go.RowKit Go.Sort
set_option linter.unusedSimpArgs false

section
variable {P : Program} {ops : Array Oper} {E : List Nat} {m : Nat} {Q : Exit → Act → World → Prop} {dn : List Nat} {j : Nat} {o : Oper} {a : Act} {w w0 : World}
theorem eff_append_own (hw : Region.wanted o (yielded ops a.tmps) = true) (s x : Operand) (t : TypeId)
    (ho : o.op = .call { callee := .builtin .append, args := #[s, x], argTypes := #[t, t] })
    (base : Nat) (e : TypeId) (i : TypeInfo) (z : Value) (size bytes : Nat) (ht : P.underlying t = some (.slice e)) (hi : P.info? e = some i) (hz : i.zero = some z)
    (hsize : i.size = size) (hby : i.bytes = bytes) (hzs : z.cells.size = size) (hsz : 0 < size)
    (v : Value) (n : Nat) (xs : List Value) (hs : a.eval s = v) (hown : w.ownsRow base e size v n xs)
    (ad : Addr) (k c : Nat) (news : List Value) (hx : a.eval x = .slice (some ad) k c) (hl : news.length = k * size) (hnews : ∀ j u, news[j]? = some u → w.cell? (ad.add j) = some u) (h1 : ∀ u ∈ news, u.oneCell' = true)
    (h63 : n + k ≤ maxLen) (hbytes : (n + k) * bytes ≤ 140737488355328) (hbase : base ≤ w.heap.size) (hb0 : Bel w0 w) (hB : w0.heap.size ≤ base)
    (h : ∀ v' w', w'.ownsRow base e size v' (n + k) (xs ++ news) → w.grownBy w' v.ownBlock → Bel w0 w' → wpSt P ops (fun w' => ∃ p : Regrown, w' = grow (redrawn w0 p.d) p.os) E m Q (dn ++ [j]) (a.put o.dst v') w') :
    wpEff P ops (fun w' => ∃ p : Regrown, w' = grow (redrawn w0 p.d) p.os) E m Q dn j o a w := by
  obtain ⟨v', w', hr, h2, h3, h4, h5⟩ := run_append_own_at (P := P) w base t o.type e i z size bytes ht hi hz hsize hby hzs hsz v n xs hown ad k c news hl hnews h1 h63 hbytes hbase
  refine eff_made (v := v') (w' := w') hw ?_ (bel_own hb0 hown h3 hB) (h v' w' h2 h3 (bel_own hb0 hown h3 hB))
  unfold execOp
  simp only [ho, resolve, invoke, builtin, Sem.run_bind, Sem.run_pure, Result.andThen_ok, List.map_toArray, List.map_cons, List.map_nil, hs, hx, hr]
end

theorem qcells_one (l : List Qd) : ∀ u ∈ qcells l, u.oneCell' = true := flat_one (fun q u hu => by
  simp only [Qd.cells, List.mem_cons, List.not_mem_nil, or_false] at hu
  rcases hu with rfl | rfl | rfl | rfl | rfl | rfl | rfl | rfl | rfl | rfl | rfl | rfl <;> rfl) l
theorem erase_eq {α : Type} (l : List α) (k : Nat) : l.take k ++ l.drop (k + 1) = l.eraseIdx k := by rw [List.eraseIdx_eq_take_drop_succ]
theorem qtake_at {l : List Qd} {k j : Nat} {u : Value} (h : (qcells (l.take k))[j]? = some u) : (qcells l)[j]? = some u := by
  have hj := (List.getElem?_eq_some_iff.1 h).1
  have e : qcells l = qcells (l.take k) ++ qcells (l.drop k) := by rw [← qcells_app, List.take_append_drop]
  rw [e, List.getElem?_append_left hj]; exact h
theorem qdrop_at {l : List Qd} {k j : Nat} {u : Value} (hk : k ≤ l.length) (h : (qcells (l.drop k))[j]? = some u) : (qcells l)[k * 12 + j]? = some u := by
  have e : qcells l = qcells (l.take k) ++ qcells (l.drop k) := by rw [← qcells_app, List.take_append_drop]
  have hl : (qcells (l.take k)).length = k * 12 := by rw [qcells_len, List.length_take, Nat.min_eq_left hk]
  rw [e, List.getElem?_append_right (by omega), hl, show k * 12 + j - k * 12 = j by omega]; exact h
/-- Where the cells of q[:k] and of q[k+1:] lie. -/
theorem rem_news {Y : World} {b o c k : Nat} {l : List Qd} (h : Rd Y (.slice (some ⟨b, o, none⟩) l.length c) 12 l.length (qcells l)) (hlb : b < Y.heap.size) (hk : k < l.length) :
    (∀ W, Bel Y W → ∀ j u, (qcells (l.take k))[j]? = some u → W.cell? ((⟨b, o, none⟩ : Addr).add j) = some u) ∧
    ∃ ad, (if c = k + 1 then some (⟨b, o, none⟩ : Addr) else some ⟨b, o + (k + 1) * 12, none⟩) = some ad ∧
      ∀ W, Bel Y W → ∀ j u, (qcells (l.drop (k + 1)))[j]? = some u → W.cell? (ad.add j) = some u := by
  have hc : l.length ≤ c := by obtain ⟨_, _, h1, h2, _⟩ := h.form; cases h1; exact h2
  obtain ⟨b', o', c', hv, _, hcell⟩ := h.at (by omega)
  cases hv
  refine ⟨fun W hW j u hu => by rw [Addr.add_lit, hW.cellAt b _ hlb]; exact hcell _ _ (qtake_at hu), ?_⟩
  by_cases e : c = k + 1
  · rw [if_pos e]
    refine ⟨_, rfl, fun W _ j u hu => ?_⟩
    rw [List.drop_of_length_le (by omega)] at hu
    simp [qcells] at hu
  · rw [if_neg e]
    refine ⟨_, rfl, fun W hW j u hu => ?_⟩
    rw [Addr.add_lit, hW.cellAt b _ hlb, Nat.add_assoc]
    exact hcell _ _ (qdrop_at (by omega) hu)
end Go.Proofs.YtpgjbocjhconoaaGreat
