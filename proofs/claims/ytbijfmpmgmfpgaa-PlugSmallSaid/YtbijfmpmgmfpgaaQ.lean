/- Lists of entries and of bunches, with their members. -/
import Derived.Test.YtbijfmpmgmfpgaaConf
namespace Go.Proofs.Ytbijfmpmgmfpgaa
open Go.RowKit Go.Maps

/-- An entry with its members. -/
structure QM where
  q : Qd
  ms : List Mem
def QM.bm (x : QM) : BM := ⟨x.q.b, x.ms⟩
def qmc (L : List QM) : List Value := qcells (L.map QM.q)
theorem qmc_len (L : List QM) : (qmc L).length = L.length * 12 := by simp [qmc, qcells_len]
structure QL (w : World) (v : Value) (L : List QM) : Prop where
  rd : Rd w v 12 L.length (qmc L)
  mem : ∀ x ∈ L, Mems w x.q.b x.ms
theorem QL.bel {w w' : World} {v : Value} {L : List QM} (h : QL w v L) (hb : Bel w w') : QL w' v L := ⟨h.rd.bel hb, fun x hx => (h.mem x hx).bel hb⟩
theorem QL.form {w : World} {v : Value} {L : List QM} (h : QL w v L) : ∃ A c, v = .slice A L.length c ∧ L.length ≤ c ∧ c ≤ maxLen := h.rd.form
/-- What is said of one entry of a slice. -/
structure QAt (w : World) (v : Value) (n : Nat) (k : Nat) (x : QM) (b o c : Nat) : Prop where
  form : v = .slice (some ⟨b, o, none⟩) n c
  lt : b < w.heap.size
  row : InRow w b (o + k * 12) x.q.cells
  mem : Mems w x.q.b x.ms
theorem QL.at {w : World} {v : Value} {L : List QM} {k : Nat} {x : QM} (h : QL w v L) (hk : L[k]? = some x) : ∃ b o c, QAt w v L.length k x b o c := by
  have h0 := (List.getElem?_eq_some_iff.1 hk).1
  obtain ⟨b, o, c, hv, hb, hc⟩ := h.rd.at (by omega)
  exact ⟨b, o, c, hv, hb, row_at (l := L.map QM.q) Qd.cells_len hc (by rw [List.getElem?_map, hk]; rfl), h.mem x (List.mem_of_getElem? hk)⟩
theorem QAt.bel {w w' : World} {v : Value} {n k : Nat} {x : QM} {b o c : Nat} (h : QAt w v n k x b o c) (hb : Bel w w') : QAt w' v n k x b o c :=
  ⟨h.form, Nat.lt_of_lt_of_le h.lt hb.size, h.row.bel hb h.lt, h.mem.bel hb⟩
/-- Two entries of one slice lie in one block. -/
theorem QL.at2 {w : World} {v : Value} {L : List QM} {k j : Nat} {x y : QM} (h : QL w v L) (hk : L[k]? = some x) (hj : L[j]? = some y) : ∃ b o c, QAt w v L.length k x b o c ∧ QAt w v L.length j y b o c := by
  obtain ⟨b, o, c, h1⟩ := h.at hk
  obtain ⟨b', o', c', h2⟩ := h.at hj
  obtain ⟨e1, e2, e3⟩ : b = b' ∧ o = o' ∧ c = c' := by have := h1.form.symm.trans h2.form; simpa [and_assoc] using this
  subst e1 e2 e3
  exact ⟨b, o, c, h1, h2⟩

theorem Bun.cells_len (b : Bun) : b.cells.length = 9 := rfl
def bmc (L : List BM) : List Value := L.flatMap fun x => x.b.cells
theorem bmc_len (L : List BM) : (bmc L).length = L.length * 9 := flat_len (fun x => x.b.cells_len) L
structure BL (w : World) (v : Value) (L : List BM) : Prop where
  rd : Rd w v 9 L.length (bmc L)
  mem : ∀ x ∈ L, Mems w x.b x.ms
theorem BL.bel {w w' : World} {v : Value} {L : List BM} (h : BL w v L) (hb : Bel w w') : BL w' v L := ⟨h.rd.bel hb, fun x hx => (h.mem x hx).bel hb⟩
theorem BL.form {w : World} {v : Value} {L : List BM} (h : BL w v L) : ∃ A c, v = .slice A L.length c ∧ L.length ≤ c ∧ c ≤ maxLen := h.rd.form
theorem BL.nil (w : World) : BL w (.slice none 0 0) [] := ⟨Rd.nil w 9, fun x hx => by cases hx⟩
theorem QL.nil (w : World) : QL w (.slice none 0 0) [] := ⟨Rd.nil w 12, fun x hx => by cases hx⟩
structure BAt (w : World) (v : Value) (n : Nat) (k : Nat) (x : BM) (b o c : Nat) : Prop where
  form : v = .slice (some ⟨b, o, none⟩) n c
  lt : b < w.heap.size
  row : InRow w b (o + k * 9) x.b.cells
  mem : Mems w x.b x.ms
theorem BL.at {w : World} {v : Value} {L : List BM} {k : Nat} {x : BM} (h : BL w v L) (hk : L[k]? = some x) : ∃ b o c, BAt w v L.length k x b o c := by
  have h0 := (List.getElem?_eq_some_iff.1 hk).1
  obtain ⟨b, o, c, hv, hb, hc⟩ := h.rd.at (by omega)
  exact ⟨b, o, c, hv, hb, row_at (f := fun x : BM => x.b.cells) (fun x => x.b.cells_len) hc hk, h.mem x (List.mem_of_getElem? hk)⟩
theorem BAt.bel {w w' : World} {v : Value} {n k : Nat} {x : BM} {b o c : Nat} (h : BAt w v n k x b o c) (hb : Bel w w') : BAt w' v n k x b o c :=
  ⟨h.form, Nat.lt_of_lt_of_le h.lt hb.size, h.row.bel hb h.lt, h.mem.bel hb⟩

/-- Whether entry k of L has to wait. -/
def blkN (L : List QM) (k : Nat) (B : List BM) : Bool :=
  match L[k]? with
  | none => true
  | some y => (L.take k).any (fun x => confB x.bm y.bm) || B.any fun x => confB x y.bm
def blk (L : List QM) (i : Int) (B : List BM) : Bool := if 0 ≤ i then blkN L i.toNat B else true
end Go.Proofs.Ytbijfmpmgmfpgaa
