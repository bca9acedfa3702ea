/- The least due of an entry and of those that wait for it. -/
import Derived.Test.YtdffpnogfinehaaBlk
namespace Go.Proofs.Ytdffpnogfinehaa
open Go.RowKit Go.Maps

def confAt (L : List QM) (i j : Nat) : Bool := match L[i]?, L[j]? with
  | some x, some y => confB x.bm y.bm
  | _, _ => false
def dueAt (L : List QM) (i : Nat) : Int := match L[i]? with
  | some x => x.q.due
  | none => 0
/-- Entry i and those that wait for it, among the k entries behind it. -/
def chn (L : List QM) (i : Nat) : Nat → List Nat
  | 0 => [i]
  | k + 1 => if (chn L i k).any (fun n => confAt L n (i + 1 + k)) then chn L i k ++ [i + 1 + k] else chn L i k
/-- Their least due. -/
def lst (L : List QM) (i : Nat) : Nat → Int
  | 0 => dueAt L i
  | k + 1 => if (chn L i k).any (fun n => confAt L n (i + 1 + k)) then min (lst L i k) (dueAt L (i + 1 + k)) else lst L i k
def urgN (L : List QM) (i : Nat) : Int := lst L i (L.length - (i + 1))
def urg (L : List QM) (i : Int) : Int := if 0 ≤ i ∧ i < (L.length : Int) then urgN L i.toNat else 0
theorem chn_bd (L : List QM) (i : Nat) : ∀ k, ∀ n ∈ chn L i k, i ≤ n ∧ n < i + 1 + k
  | 0, n, h => by simp [chn] at h; omega
  | k + 1, n, h => by
    unfold chn at h
    split at h
    · rw [List.mem_append] at h
      rcases h with h | h
      · have := chn_bd L i k n h; omega
      · simp at h; omega
    · have := chn_bd L i k n h; omega
theorem chn_len (L : List QM) (i : Nat) : ∀ k, 1 ≤ (chn L i k).length ∧ (chn L i k).length ≤ k + 1
  | 0 => by simp [chn]
  | k + 1 => by
    have := chn_len L i k
    unfold chn
    split
    · simp; omega
    · omega
def ncells (l : List Nat) : List Value := l.map fun (n : Nat) => Value.int .i64 (n : Int)
theorem ncells_at {l : List Nat} {k n : Nat} (h : l[k]? = some n) : (ncells l)[k]? = some (.int .i64 (n : Int)) := by simp [ncells, h]
theorem ncells_len (l : List Nat) : (ncells l).length = l.length * 1 := by simp [ncells]
end Go.Proofs.Ytdffpnogfinehaa
