/- A row of bunches that begins anywhere in a block: appended to, cut in front. -/
import Derived.Test.YtpgjbocjhconoaaGreatOdd
import Derived.ArgAppend
namespace Go.Proofs.YtpgjbocjhconoaaGreat
open Go.RowKit Go.Maps
set_option linter.unusedSimpArgs false

theorem setCells_grown (b : Nat) : ∀ (vs : List Value) (o : Nat) (w : World), w.grownBy (w.setCells b o vs) (some b)
  | [], _, w => ⟨rfl, rfl, rfl, Nat.le_refl _, fun _ _ _ => rfl⟩
  | v :: r, o, w => by
    have h1 : w.grownBy (w.setCell ⟨b, o, none⟩ v) (some b) := ⟨rfl, rfl, rfl, by simp [World.setCell], fun k _ hk => by
      simp only [World.setCell, Array.getElem?_modify]; rw [if_neg (fun e => hk (by rw [e]))]⟩
    exact World.grownBy.trans h1 (setCells_grown b r (o + 1) _)

/-- A slice of bunches that may begin anywhere in a block of the call's own. -/
structure Bsy (w : World) (base : Nat) (v : Value) (B : List BM) : Prop where
  val : (v = .slice none 0 0 ∧ B = []) ∨ ∃ b off cap, v = .slice (some ⟨b, off, none⟩) B.length cap ∧ base ≤ b ∧ b < w.heap.size ∧ B.length ≤ cap ∧ cap ≤ maxLen ∧
    (∀ j u, (bmc B)[j]? = some u → w.cell? ⟨b, off + j, none⟩ = some u) ∧ (∀ j, j < (cap - B.length) * 9 → (w.cell? ⟨b, off + B.length * 9 + j, none⟩).isSome = true ∧ w.frozen? ⟨b, off + B.length * 9 + j, none⟩ = false)
  mem : ∀ x ∈ B, Mems w x.b x.ms
  fr : ∀ x ∈ B, 0 < x.ms.length → ∀ k, (Value.slice x.b.mA x.b.mL x.b.mC).ownBlock = some k → base ≤ k ∧ v.ownBlock ≠ some k

theorem Bsy.bl {w : World} {base : Nat} {v : Value} {B : List BM} (h : Bsy w base v B) : BL w v B := by
  refine ⟨?_, h.mem⟩
  rcases h.val with ⟨rfl, rfl⟩ | ⟨b, off, cap, rfl, h1, h2, h3, h4, h5, h6⟩
  · exact Rd.nil w 9
  · exact ⟨bmc_len B, _, cap, rfl, h3, h4, fun _ => ⟨b, off, rfl, h2, h5⟩⟩
theorem Mems.grown {w w' : World} {b : Bun} {ms : List Mem} {row : Option Nat} (h : Mems w b ms) (hg : w.grownBy w' row) (hne : 0 < ms.length → ∀ k, (Value.slice b.mA b.mL b.mC).ownBlock = some k → row ≠ some k) : Mems w' b ms := by
  refine ⟨h.len, ?_, h.ids, h.dl⟩
  by_cases h0 : 0 < ms.length
  · exact h.rd.grown hg (hne h0)
  · exact h.rd.empty h0 _
/-- A step that leaves the row's and the members' blocks alone. -/
theorem Bsy.grown {w w' : World} {base : Nat} {v : Value} {B : List BM} {row : Option Nat} (h : Bsy w base v B) (hg : w.grownBy w' row) (hr : ∀ k, row = some k → k < base) : Bsy w' base v B := by
  refine ⟨?_, fun x hx => (h.mem x hx).grown hg fun h0 k hk e => ?_, h.fr⟩
  · rcases h.val with h1 | ⟨b, off, cap, h0, h1, h2, h3, h4, h5, h6⟩
    · exact .inl h1
    · have hne : ∀ o, some (Addr.mk b o none).block ≠ row := fun o e => by have := hr b e.symm; omega
      exact .inr ⟨b, off, cap, h0, h1, Nat.lt_of_lt_of_le h2 hg.size, h3, h4, fun j u hu => (hg.cell_far _ h2 (hne _)).trans (h5 j u hu), fun j hj => by
        rw [hg.cell_far ⟨b, off + B.length * 9 + j, none⟩ h2 (hne 0), hg.frozen_far ⟨b, off + B.length * 9 + j, none⟩ h2 (hne 0)]; exact h6 j hj⟩
  · have h1 := (h.fr x hx h0 k hk).1
    have h2 := hr k e
    omega
theorem Bsy.keep {w w' : World} {base : Nat} {v : Value} {B : List BM} (h : Bsy w base v B) (hb : Bel w w') : Bsy w' base v B := by
  refine ⟨?_, fun x hx => (h.mem x hx).bel hb, h.fr⟩
  rcases h.val with h1 | ⟨b, off, cap, h0, h1, h2, h3, h4, h5, h6⟩
  · exact .inl h1
  · exact .inr ⟨b, off, cap, h0, h1, Nat.lt_of_lt_of_le h2 hb.size, h3, h4, fun j u hu => by rw [hb.cellAt b _ h2]; exact h5 j u hu, fun j hj => by
      rw [hb.cellAt b _ h2, hb.frozenAt b _ h2]; exact h6 j hj⟩
theorem setRowL_grown (B : Nat) : ∀ (vs : List Value) (i : Nat) (w : World), w.grownBy (Proofs.YtpgjbocjhconoaaGreat.setRow w B i vs) (some B)
  | [], _, w => ⟨rfl, rfl, rfl, Nat.le_refl _, fun _ _ _ => rfl⟩
  | v :: r, o, w => by
    have h1 : w.grownBy (w.setCell ⟨B, o, none⟩ v) (some B) := ⟨rfl, rfl, rfl, by simp [World.setCell], fun k _ hk => by
      simp only [World.setCell, Array.getElem?_modify]; rw [if_neg (fun e => hk (by rw [e]))]⟩
    exact World.grownBy.trans h1 (setRowL_grown B r (o + 1) _)
theorem Bsy.setRow {w : World} {base : Nat} {v : Value} {B : List BM} (h : Bsy w base v B) (X i : Nat) (vs : List Value) (hX : X < base) : Bsy (Proofs.YtpgjbocjhconoaaGreat.setRow w X i vs) base v B :=
  h.grown (setRowL_grown X vs i w) (fun k hk => by cases hk; exact hX)
/-- The first one left out. -/
theorem Bsy.tail {w : World} {base : Nat} {b off n cap : Nat} {y : BM} {B : List BM} (h : Bsy w base (.slice (some ⟨b, off, none⟩) (n + 1) cap) (y :: B)) (hn : 0 < B.length) : Bsy w base (.slice (some ⟨b, off + 9, none⟩) B.length (cap - 1)) B := by
  refine ⟨.inr ?_, fun x hx => h.mem x (List.mem_cons_of_mem _ hx), fun x hx h0 k hk => ?_⟩
  · rcases h.val with ⟨h1, h2⟩ | ⟨b', off', cap', h0, h1, h2, h3, h4, h5, h6⟩
    · cases h2
    · injection h0 with e1 e2 e3
      cases e1
      subst e3
      simp only [List.length_cons] at h3 h6
      refine ⟨b, off + 9, cap - 1, rfl, h1, h2, by omega, by omega, fun j u hu => ?_, fun j hj => ?_⟩
      · rw [show off + 9 + j = off + (9 + j) by omega]
        refine h5 _ u ?_
        show (y.b.cells ++ bmc B)[9 + j]? = some u
        rw [List.getElem?_append_right (by rw [y.b.cells_len]; omega), y.b.cells_len, show 9 + j - 9 = j by omega]
        exact hu
      · have := h6 j (by omega)
        rwa [show off + (B.length + 1) * 9 + j = off + 9 + B.length * 9 + j by omega] at this
  · exact h.fr x (List.mem_cons_of_mem _ hx) h0 k hk

/-- An append of one bunch. -/
theorem wpList_append_bsy {ops : Array Oper} {rest : List Oper} {o : Oper} {a : Act} {Q : Exit → Act → World → Prop} (hg : o.guard = none) (s x : Operand) (t : TypeId)
    (hop : o.op = Op.call { callee := Callee.builtin Builtin.append, args := #[s, x], argTypes := #[t, t] }) (i : TypeInfo) (z : Value)
    (h1 : Tryz.prog.underlying t = some (.slice 44)) (h2 : Tryz.prog.info? 44 = some i) (h3 : i.zero = some z) (h4 : i.size = 9) (h5 : i.bytes = 96) (h6 : z.cells.size = 9)
    {w : World} {base : Nat} {v : Value} {B : List BM} (hs : a.eval s = v) (hb : Bsy w base v B) (hbase : base ≤ w.heap.size) (hB : B.length ≤ 100)
    (ad : Addr) (c : Nat) (y : BM) (hx : a.eval x = .slice (some ad) 1 c) (hc : ∀ j u, y.b.cells[j]? = some u → w.cell? (ad.add j) = some u) (hm : Mems w y.b y.ms)
    (hfr : 0 < y.ms.length → ∀ k, (Value.slice y.b.mA y.b.mL y.b.mC).ownBlock = some k → base ≤ k ∧ v.ownBlock ≠ some k)
    (hK : ∀ v' w', Bsy w' base v' (B ++ [y]) → w.grownBy w' v.ownBlock → (v'.ownBlock = v.ownBlock ∨ ∃ k, v'.ownBlock = some k ∧ w.heap.size ≤ k) → wpList Tryz.prog ops Q rest (a.put o.dst v') w') :
    wpList Tryz.prog ops Q (o :: rest) a w := by
  -- a new row
  have hnew : ∀ v' w', w'.ownsRow w.heap.size 44 9 v' (B.length + 1) (bmc B ++ y.b.cells) → w.grownBy w' none → wpList Tryz.prog ops Q rest (a.put o.dst v') w' := by
    intro v' w' hown hgr
    rcases hown.2 with ⟨_, h0⟩ | ⟨g, cap, cur, rfl, hg1, hg2, hg3, hg4, hg5, hg6⟩
    · omega
    have hmg : ∀ z ∈ B ++ [y], Mems w z.b z.ms := fun z hz => by
      rcases List.mem_append.1 hz with hz | hz
      · exact hb.mem z hz
      · rw [List.mem_singleton] at hz; subst hz; exact hm
    refine hK _ _ ⟨.inr ⟨g, 0, cap, by rw [List.length_append]; rfl, Nat.le_trans hbase hg1, (Array.getElem?_eq_some_iff.1 hg2).1, by rw [List.length_append]; exact hg3, hg4, fun j u hu => ?_, fun j hj => ?_⟩, fun z hz => (hmg z hz).grown hgr (fun _ k _ e => by cases e), fun z hz h0 k hk => ?_⟩ (by
        exact ⟨hgr.os, hgr.tape, hgr.output, hgr.size, fun k hk _ => hgr.block k hk (by simp)⟩) (.inr ⟨g, rfl, hg1⟩)
    · rw [bmc_snoc] at hu
      have := hown.cells (g := g) rfl j u hu
      rw [add_zero_off] at this
      rwa [Nat.zero_add]
    · rw [List.length_append, List.length_singleton] at hj ⊢
      have hlt : 0 + (B.length + 1) * 9 + j < cur.size := by rw [hg5]; omega
      refine ⟨?_, ?_⟩
      · simp [World.cell?, hg2]; omega
      · simp [World.frozen?, hg2]
    · have hlt := (hmg z hz).rd.own_lt h0 hk
      rcases List.mem_append.1 hz with hz | hz
      · exact ⟨(hb.fr z hz h0 k hk).1, fun e => by simp [Value.ownBlock] at e; omega⟩
      · rw [List.mem_singleton] at hz; subst hz
        exact ⟨(hfr h0 k hk).1, fun e => by simp [Value.ownBlock] at e; omega⟩
  have hyl : y.b.cells.length = 1 * 9 := by rw [y.b.cells_len]
  rcases hb.val with ⟨rfl, rfl⟩ | ⟨b, off, cap, rfl, g1, g2, g3, g4, g5, g6⟩
  · exact wpList_append_grows w hg s x t hop 44 i z 9 96 h1 h2 h3 h4 h5 h6 (by omega) none 0 0 [] hs (fun _ => ⟨rfl, rfl⟩) rfl (fun _ e => by cases e) ad 1 c y.b.cells hx hyl hc (bcells_one y.b) (by omega) (by unfold maxLen; omega) (by omega) (fun v' w' k1 k2 => hnew v' w' k1 k2)
  · refine wpList_append_arg w hg s x t hop 44 i z 9 96 h1 h2 h3 h4 h5 h6 (by omega) b off B.length cap (bmc B) hs (bmc_len B) g5 ad 1 c y.b.cells hx hyl hc (bcells_one y.b) (fun hr j hj => g6 j (by omega)) (by unfold maxLen; omega) (by omega) (fun hr => ?_) (fun _ v' w' k1 k2 => hnew v' w' k1 k2)
    have hgr := setCells_grown b y.b.cells (off + B.length * 9) w
    have hsome : ∀ j, j < y.b.cells.length → (w.cell? ⟨b, off + B.length * 9 + j, none⟩).isSome = true := fun j hj => (g6 j (by omega)).1
    have hmg : ∀ z ∈ B ++ [y], Mems w z.b z.ms ∧ (0 < z.ms.length → ∀ k, (Value.slice z.b.mA z.b.mL z.b.mC).ownBlock = some k → base ≤ k ∧ (Value.slice (some ⟨b, off, none⟩) B.length cap).ownBlock ≠ some k) := fun z hz => by
      rcases List.mem_append.1 hz with hz | hz
      · exact ⟨hb.mem z hz, hb.fr z hz⟩
      · rw [List.mem_singleton] at hz; subst hz; exact ⟨hm, hfr⟩
    refine hK _ _ ⟨.inr ⟨b, off, cap, by rw [List.length_append]; rfl, g1, Nat.lt_of_lt_of_le g2 hgr.size, by rw [List.length_append]; exact hr, g4, fun j u hu => ?_, fun j hj => ?_⟩, fun z hz => (hmg z hz).1.grown hgr fun h0 k hk e => ((hmg z hz).2 h0 k hk).2 e, fun z hz h0 k hk => (hmg z hz).2 h0 k hk⟩ hgr (.inl rfl)
    · rw [bmc_snoc] at hu
      by_cases hj : j < (bmc B).length
      · rw [List.getElem?_append_left hj] at hu
        rw [bmc_len] at hj
        rw [World.cell?_setCells_out b _ _ _ _ (fun _ _ => Or.inl (by show off + j < off + B.length * 9; omega))]
        exact g5 j u hu
      · rw [List.getElem?_append_right (by omega)] at hu
        rw [bmc_len] at hj hu
        have hjl := (List.getElem?_eq_some_iff.1 hu).1
        have := World.cell?_setCells_in b y.b.cells (off + B.length * 9) w hsome (j - B.length * 9) hjl
        rw [show off + B.length * 9 + (j - B.length * 9) = off + j by omega] at this
        rw [this, ← hu, List.getElem?_eq_getElem hjl]
    · rw [List.length_append, List.length_singleton] at hj ⊢
      have h7 := g6 (9 + j) (by omega)
      rw [World.frozen?_setCells, World.cell?_setCells_out b _ _ _ _ (fun _ _ => Or.inr (by show off + B.length * 9 + y.b.cells.length ≤ off + (B.length + 1) * 9 + j; rw [y.b.cells_len]; omega))]
      rwa [show off + B.length * 9 + (9 + j) = off + (B.length + 1) * 9 + j by omega] at h7
end Go.Proofs.YtpgjbocjhconoaaGreat
