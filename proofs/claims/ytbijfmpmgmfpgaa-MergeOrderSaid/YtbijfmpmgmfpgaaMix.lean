/- Effects of a drawn region that do not look at one another: proved once each, whatever order is drawn. -/
import Derived.Test.YtbijfmpmgmfpgaaSch
namespace Go.Proofs.Ytbijfmpmgmfpgaa
open Go.RowKit Go.Sort

section
variable {P : Program} {ops : Array Oper} {C : World → Prop} {E : List Nat} {m : Nat} {Q : Exit → Act → World → Prop}

theorem st_listed {dn dn' : List Nat} {a : Act} {w : World} (hl : listedOf ops.size dn = listedOf ops.size dn') (hn : dn.length = dn'.length) (h : wpSt P ops C E m Q dn a w) : wpSt P ops C E m Q dn' a w := by
  unfold wpSt at *
  rw [← hl, ← hn]; exact h
theorem listed_perm (n : Nat) {l l' : List Nat} (h : l.Perm l') : listedOf n l = listedOf n l' := by
  unfold listedOf
  refine h.foldl_eq' (fun x _ y _ z => ?_) _
  apply Array.ext_getElem?
  intro i
  simp only [Array.getElem?_setIfInBounds, Array.size_setIfInBounds]
  by_cases h1 : x = i <;> by_cases h2 : y = i <;> simp [h1, h2]
theorem listed_in {j : Nat} : ∀ (dn : List Nat) (l : Array Bool), (l.getD j true = true ∨ j ∈ dn) → (dn.foldl (fun l i => l.setIfInBounds i true) l).getD j true = true
  | [], l, h => by simpa using h
  | i :: dn, l, h => by
    rw [List.foldl_cons]
    refine listed_in dn _ ?_
    rcases h with h | h
    · refine .inl ?_
      simp only [Array.getD_eq_getD_getElem?, Array.getElem?_setIfInBounds] at h ⊢
      split
      · rename_i e; subst e
        split <;> rfl
      · exact h
    · rcases List.mem_cons.1 h with rfl | h
      · refine .inl ?_
        rcases Nat.lt_or_ge j l.size with hj | hj
        · simp [hj]
        · simp [Nat.not_lt.2 hj]
      · exact .inr h
theorem not_listed {n : Nat} {dn : List Nat} {j : Nat} (h : (listedOf n dn).getD j true = false) : j ∉ dn := fun hj => by
  have := listed_in dn (Array.replicate n false) (.inr hj)
  unfold listedOf at h
  rw [h] at this; cases this

/-- The frame behind some of the effects. -/
def actOf (ops : Array Oper) (a : Act) (ps : List (Nat × Value)) : Act := ps.foldl (fun a p => a.put ((ops[p.1]?).bind Oper.dst) p.2) a
def apartB (ops : Array Oper) (E : List Nat) : Bool := E.all fun i => E.all fun j => i == j || (match ops[i]?, ops[j]? with
  | some x, some y => x.apart ops y
  | _, _ => false)
/-- In whatever order the effects come up, one of them is ready next. -/
def mixB (ops : Array Oper) (E : List Nat) (m : Nat) : Nat → List Nat → Bool
  | 0, _ => true
  | n + 1, dn => branchB ops E m dn (Region.ready .any ops (listedOf ops.size dn)) && (Region.ready .any ops (listedOf ops.size dn)).all fun j => mixB ops E m n (dn ++ [j])

theorem actOf_same {j : Nat} {o : Oper} (hsel : Region.noSelect ops = true) (hap : apartB ops E = true) (hj : j ∈ E) (ho : ops[j]? = some o) :
    ∀ (ps : List (Nat × Value)) (a : Act), (∀ p ∈ ps, p.1 ∈ E ∧ p.1 ≠ j) →
    execOp (actOf ops a ps).eval o = execOp a.eval o ∧ Region.wanted o (yielded ops (actOf ops a ps).tmps) = Region.wanted o (yielded ops a.tmps)
  | [], _, _ => ⟨rfl, rfl⟩
  | p :: ps, a, h => by
    obtain ⟨hp, hne⟩ := h p (by simp)
    obtain ⟨h1, h2⟩ := actOf_same hsel hap hj ho ps (a.put ((ops[p.1]?).bind Oper.dst) p.2) (fun q hq => h q (by simp [hq]))
    unfold apartB at hap
    rw [List.all_eq_true] at hap
    have h3 := hap p.1 hp
    rw [List.all_eq_true] at h3
    have h4 := h3 j hj
    rw [Bool.or_eq_true, beq_iff_eq] at h4
    have h5 := h4.resolve_left hne
    cases hi : ops[p.1]? with
    | none => rw [hi, ho] at h5; cases h5
    | some oi =>
      rw [hi, ho] at h5
      obtain ⟨g1, _, _⟩ := Oper.apart_spec h5
      have e1 : execOp (a.put ((ops[p.1]?).bind Oper.dst) p.2).eval o = execOp a.eval o := by
        rw [hi]; exact execOp_put (ops := ops) o (fun cs b => Region.noSelect_spec hsel j o cs b ho) a _ p.2 g1
      have e2 : Region.wanted o (yielded ops (a.put ((ops[p.1]?).bind Oper.dst) p.2).tmps) = Region.wanted o (yielded ops a.tmps) := by
        rw [hi]; exact wanted_put (ops := ops) o a _ p.2 g1
      exact ⟨h1.trans e1, h2.trans e2⟩
theorem key_inj : ∀ (ps : List (Nat × Value)), (ps.map Prod.fst).Nodup → ∀ x ∈ ps, ∀ y ∈ ps, x.1 = y.1 → x = y
  | [], _, x, hx, _, _, _ => by cases hx
  | p :: ps, h, x, hx, y, hy, e => by
    rw [List.map_cons, List.nodup_cons] at h
    rcases List.mem_cons.1 hx with h1 | h1
    · rcases List.mem_cons.1 hy with h2 | h2
      · rw [h1, h2]
      · exact absurd (by rw [← h1, e]; exact List.mem_map_of_mem h2) h.1
    · rcases List.mem_cons.1 hy with h2 | h2
      · exact absurd (by rw [← h2, ← e]; exact List.mem_map_of_mem h1) h.1
      · exact key_inj ps h.2 x h1 y h2 e
theorem actOf_perm {ps ps' : List (Nat × Value)} (hap : apartB ops E = true) (h : ps.Perm ps') (hps : ∀ p ∈ ps, p.1 ∈ E) (hnd : (ps.map Prod.fst).Nodup) (a : Act) : actOf ops a ps = actOf ops a ps' := by
  unfold actOf
  refine h.foldl_eq' (fun x hx y hy z => ?_) _
  by_cases e : x.1 = y.1
  · have : x = y := by
      exact key_inj ps hnd x hx y hy e
    rw [this]
  · unfold apartB at hap
    rw [List.all_eq_true] at hap
    have h3 := hap x.1 (hps x hx)
    rw [List.all_eq_true] at h3
    have h4 := h3 y.1 (hps y hy)
    rw [Bool.or_eq_true, beq_iff_eq] at h4
    have h5 := h4.resolve_left e
    cases hi : ops[x.1]? with
    | none => rw [hi] at h5; cases h5
    | some oi =>
      cases hj : ops[y.1]? with
      | none => rw [hi, hj] at h5; cases h5
      | some oj =>
        rw [hi, hj] at h5
        obtain ⟨_, g2, _⟩ := Oper.apart_spec h5
        exact Act.put_comm z x.2 y.2 g2

/-- The value that an effect gave. -/
def valOf (ps : List (Nat × Value)) (j : Nat) : Value := ((ps.find? fun p => p.1 == j).map Prod.snd).getD undef
theorem valOf_mem {ps : List (Nat × Value)} (hnd : (ps.map Prod.fst).Nodup) {p : Nat × Value} (hp : p ∈ ps) : valOf ps p.1 = p.2 := by
  unfold valOf
  cases hf : ps.find? fun q => q.1 == p.1 with
  | none =>
    rw [List.find?_eq_none] at hf
    have := hf p hp
    simp at this
  | some q =>
    have h1 := List.mem_of_find?_eq_some hf
    have h2 := List.find?_some hf
    have := key_inj ps hnd q h1 p hp (by simpa using h2)
    rw [this]; rfl
theorem map_valOf {ps : List (Nat × Value)} (hnd : (ps.map Prod.fst).Nodup) : (ps.map Prod.fst).map (fun j => (j, valOf ps j)) = ps := by
  rw [List.map_map]
  conv => rhs; rw [← List.map_id ps]
  apply List.map_congr_left
  intro p hp
  show (p.1, valOf ps p.1) = p
  rw [valOf_mem hnd hp]

/-- EFFECTS THAT DO NOT LOOK AT ONE ANOTHER: each is shown once, at any world above; each gives a value whose block is new. -/
theorem st_mix {wb w0 : World} {a0 : Act} {dn0 : List Nat} (blk : Value → Nat) (Fact : Nat → Value → World → Prop) (hsel : Region.noSelect ops = true) (hap : apartB ops E = true) (hE : E.Nodup) (hb0 : Bel wb w0)
    (hmix : mixB ops E m E.length dn0 = true)
    (hfact : ∀ j v w w', Fact j v w → Bel w w' → Fact j v w') (hblk : ∀ j v w, Fact j v w → blk v < w.heap.size)
    (hop : ∀ j ∈ E, ∀ o, ops[j]? = some o → ∀ w, Bel w0 w → Region.wanted o (yielded ops a0.tmps) = true ∧ EffUpon P w (fun v w' => Fact j v w' ∧ w.heap.size ≤ blk v) ((execOp a0.eval o).run P w))
    (hend : ∀ f : Nat → Value, ∀ w, Bel w0 w → (∀ j ∈ E, Fact j (f j) w) → (∀ i ∈ E, ∀ j ∈ E, i ≠ j → blk (f i) ≠ blk (f j)) →
      wpSt P ops (fun w' => ∃ p : Regrown, w' = grow (redrawn wb p.d) p.os) E m Q (dn0 ++ E) (actOf ops a0 (E.map fun j => (j, f j))) w) :
    wpSt P ops (fun w' => ∃ p : Regrown, w' = grow (redrawn wb p.d) p.os) E m Q dn0 a0 w0 := by
  have claim : ∀ (n : Nat) (rs : List Nat) (ps : List (Nat × Value)) (w : World), rs.length = n → (ps.map Prod.fst ++ rs).Perm E → Bel w0 w → (∀ p ∈ ps, Fact p.1 p.2 w) → (∀ p ∈ ps, ∀ q ∈ ps, p.1 ≠ q.1 → blk p.2 ≠ blk q.2) →
      mixB ops E m n (dn0 ++ ps.map Prod.fst) = true → wpSt P ops (fun w' => ∃ p : Regrown, w' = grow (redrawn wb p.d) p.os) E m Q (dn0 ++ ps.map Prod.fst) (actOf ops a0 ps) w := by
    intro n
    induction n with
    | zero =>
      intro rs ps w hrs hperm hbw hf hd _
      obtain rfl : rs = [] := List.length_eq_zero_iff.1 hrs
      rw [List.append_nil] at hperm
      have hnd : (ps.map Prod.fst).Nodup := hperm.nodup_iff.2 hE
      have hps : ∀ p ∈ ps, p.1 ∈ E := fun p hp => hperm.mem_iff.1 (List.mem_map_of_mem hp)
      have hin : ∀ j ∈ E, ∃ v, (j, v) ∈ ps := fun j hj => by
        have := hperm.mem_iff.2 hj
        rw [List.mem_map] at this
        obtain ⟨p, hp, rfl⟩ := this
        exact ⟨p.2, hp⟩
      have hval : ∀ j ∈ E, (j, valOf ps j) ∈ ps := fun j hj => by
        obtain ⟨v, hv⟩ := hin j hj
        have := valOf_mem hnd hv
        rw [this]; exact hv
      have h1 := hend (valOf ps) w hbw (fun j hj => hf _ (hval j hj)) (fun i hi j hj hij => hd _ (hval i hi) _ (hval j hj) hij)
      have hp2 : ps.Perm (E.map fun j => (j, valOf ps j)) := by
        have := hperm.map (fun j => (j, valOf ps j))
        rw [map_valOf hnd] at this
        exact this
      rw [actOf_perm hap hp2 hps hnd]
      refine st_listed (listed_perm _ (List.Perm.append_left _ hperm.symm)) ?_ h1
      rw [List.length_append, List.length_append, hperm.length_eq]
    | succ n ih =>
      intro rs ps w hrs hperm hbw hf hd hmx
      unfold mixB at hmx
      rw [Bool.and_eq_true, List.all_eq_true] at hmx
      obtain ⟨hbr, hall⟩ := hmx
      refine st_branch _ hbr (fun j hj o ho => ?_)
      have hkd : kindOf E m j = 1 := by
        have h1 := hbr
        simp only [branchB, Bool.and_eq_true, List.all_eq_true, beq_iff_eq] at h1
        exact h1.1.1.2 j hj
      have hjE : j ∈ E := by
        unfold kindOf at hkd
        split at hkd
        · cases hkd
        · split at hkd
          · rename_i h; simpa using h
          · cases hkd
      have hjd := not_listed (mem_ready.1 hj).1
      have hjk : j ∉ ps.map Prod.fst := fun h => hjd (List.mem_append_right _ h)
      have hjr : j ∈ rs := by
        have := hperm.mem_iff.2 hjE
        rw [List.mem_append] at this
        exact this.resolve_left hjk
      have hps : ∀ p ∈ ps, p.1 ∈ E ∧ p.1 ≠ j := fun p hp => ⟨hperm.mem_iff.1 (List.mem_append_left _ (List.mem_map_of_mem hp)), fun e => hjk (by rw [← e]; exact List.mem_map_of_mem hp)⟩
      obtain ⟨g1, g2⟩ := actOf_same hsel hap hjE ho ps a0 hps
      obtain ⟨hw, heff⟩ := hop j hjE o ho w hbw
      unfold wpEff
      rw [g2, if_pos hw]
      unfold EffOp2
      rw [g1]
      have next : ∀ v w', Bel w w' → Fact j v w' → w.heap.size ≤ blk v → wpSt P ops (fun w' => ∃ p : Regrown, w' = grow (redrawn wb p.d) p.os) E m Q ((dn0 ++ ps.map Prod.fst) ++ [j]) ((actOf ops a0 ps).put o.dst v) w' := by
        intro v w' hb hfv hbl
        have h2 := ih (rs.erase j) (ps ++ [(j, v)]) w' (by rw [List.length_erase_of_mem hjr]; omega) (by
          rw [List.map_append, List.append_assoc]
          refine List.Perm.trans (List.Perm.append_left _ ?_) hperm
          exact (List.perm_cons_erase hjr).symm) (hbw.trans hb) (fun p hp => by
            rcases List.mem_append.1 hp with hp | hp
            · exact hfact _ _ _ _ (hf p hp) hb
            · rw [List.mem_singleton] at hp; subst hp; exact hfv) (fun p hp q hq hpq => by
            rcases List.mem_append.1 hp with hp | hp <;> rcases List.mem_append.1 hq with hq | hq
            · exact hd p hp q hq hpq
            · rw [List.mem_singleton] at hq; subst hq
              have := hblk _ _ _ (hf p hp)
              show blk p.2 ≠ blk v
              omega
            · rw [List.mem_singleton] at hp; subst hp
              have := hblk _ _ _ (hf q hq)
              show blk v ≠ blk q.2
              omega
            · rw [List.mem_singleton] at hp hq; subst hp hq; exact absurd rfl hpq) (by
            have := hall j hj
            rw [List.map_append, ← List.append_assoc]; exact this)
        have ea : actOf ops a0 (ps ++ [(j, v)]) = (actOf ops a0 ps).put o.dst v := by
          unfold actOf
          rw [List.foldl_append]
          simp [ho]
        rw [ea] at h2
        rw [List.map_append, ← List.append_assoc] at h2
        exact h2
      generalize (execOp a0.eval o).run P w = r at heff ⊢
      cases r with
      | ok nx w' =>
        cases nx <;> simp only [EffUpon] at heff
        case value v =>
          exact ⟨cls_of (hb0.trans (hbw.trans heff.1)), next v w' heff.1 heff.2.1 heff.2.2⟩
        case enter f args =>
          refine ⟨cls_of (hb0.trans (hbw.trans heff.1)), heff.2.mono fun e w'' ⟨v, he, hb, hk⟩ => ⟨v, he, cls_of (hb0.trans (hbw.trans (heff.1.trans hb))), next v w'' (heff.1.trans hb) hk.1 hk.2⟩⟩
      | halt x w' => simp only [EffUpon] at heff
  have := claim E.length E [] w0 rfl (by simp) (Bel.refl _) (fun p hp => by cases hp) (fun p hp => by cases hp) (by simpa using hmix)
  simpa [actOf] using this
end
end Go.Proofs.Ytbijfmpmgmfpgaa
