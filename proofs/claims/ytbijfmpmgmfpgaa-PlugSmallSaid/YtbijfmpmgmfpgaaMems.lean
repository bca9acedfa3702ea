/- Bunches with their members: what a valid bunch is, what a conflict is. -/
import Derived.Test.YtbijfmpmgmfpgaaMap
namespace Go.Proofs.Ytbijfmpmgmfpgaa
open Go.RowKit Go.Maps

/-- A member of a bunch. -/
structure Mem where
  id : Int
  off : Int
  cnt : Int
def Mem.cells (m : Mem) : List Value := [.int .i64 m.id, .int .i64 m.off, .int .i64 m.cnt]
theorem Mem.cells_len (m : Mem) : m.cells.length = 3 := rfl
def mcells (l : List Mem) : List Value := l.flatMap Mem.cells
theorem mcells_len (l : List Mem) : (mcells l).length = l.length * 3 := flat_len Mem.cells_len l

/-- The members of a bunch lie in w as ms. -/
structure Mems (w : World) (b : Bun) (ms : List Mem) : Prop where
  len : b.mL = ms.length
  rd : Rd w (.slice b.mA b.mL b.mC) 3 ms.length (mcells ms)
  ids : ∀ m ∈ ms, IsInt m.id
  dl : b.dat.size ≤ maxLen
theorem Mems.bel {w w' : World} {b : Bun} {ms : List Mem} (h : Mems w b ms) (hb : Bel w w') : Mems w' b ms := ⟨h.len, h.rd.bel hb, h.ids, h.dl⟩

/-- Members from place n on, behind those with the ids of a list. -/
def memOk (cnt : Int) : List Int → Int → List Mem → Bool
  | _, n, [] => n == cnt
  | seen, n, m :: l => if seen.contains m.id = true ∨ m.off ≠ n ∨ m.cnt < 1 ∨ cnt - n < m.cnt then false else memOk cnt (m.id :: seen) (n + m.cnt) l
def rangeOk (b : Bun) : Bool := decide (0 ≤ b.sec ∧ b.sec < 128 ∧ 1 ≤ b.cnt ∧ b.cnt ≤ 128 - b.sec)
def dataOk (b : Bun) : Bool := if b.knd = 1 then decide (b.dat.size = 0) else if b.knd = 2 then decide ((b.dat.size : Int) = b.cnt * 8) else false
/-- A valid bunch. -/
def validB (b : Bun) (ms : List Mem) : Bool := rangeOk b && dataOk b && memOk b.cnt [] 0 ms
theorem validB_range {b : Bun} {ms : List Mem} (h : validB b ms = true) : 0 ≤ b.sec ∧ b.sec < 128 ∧ 1 ≤ b.cnt ∧ b.cnt ≤ 128 - b.sec := by
  simp only [validB, Bool.and_eq_true, rangeOk, decide_eq_true_eq] at h
  exact h.1.1
/-- A bunch with its members. -/
structure BM where
  b : Bun
  ms : List Mem
def BM.ok (x : BM) : Bool := validB x.b x.ms
def meetB (a b : Bun) : Bool := decide ((a.knd = 2 ∨ b.knd = 2) ∧ a.sec < b.sec + b.cnt ∧ b.sec < a.sec + a.cnt)
/-- Two bunches that cannot change places. -/
def confB (x y : BM) : Bool := x.ok && y.ok && meetB x.b y.b
def Bun.arr (b : Bun) : Array Value := #[.int .i64 b.id, .int .i64 b.ten, .int .i64 b.knd, .int .i64 b.sec, .int .i64 b.cnt, .string b.dat, .bool b.fua, .slice b.mA b.mL b.mC, .int .i64 b.tim]
end Go.Proofs.Ytbijfmpmgmfpgaa
