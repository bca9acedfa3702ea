/- Three neighbours give one bunch, whichever two are joined first. -/
import Derived.Test.YtbijfmpmgmfpgaaJoinP
namespace Go.Proofs.Ytbijfmpmgmfpgaa
open Go.RowKit

theorem fits_full {s c : Int} (h1 : 0 ≤ s) (h2 : s ≤ 128) (h3 : 1 ≤ c) (h4 : c ≤ 128) : fits 128 0 s c = true := by
  unfold fits limOk room
  rw [if_pos rfl]
  simp only [Bool.and_eq_true, decide_eq_true_eq]
  omega
/-- Two bunches that stand side by side and are alike. -/
structure Nb (x y : Bu) : Prop where
  okx : okU x = true
  oky : okU y = true
  ten : x.ten = y.ten
  knd : x.knd = y.knd
  fua : x.fua = y.fua
  str : strU x y = true
  sec : y.sec = x.sec + x.cnt
theorem strU_symm {x y : Bu} (h : strU x y = true) : strU y x = true := by
  unfold strU at *
  simp only [Bool.not_eq_true', List.any_eq_false] at *
  intro p hp hq
  rw [List.any_eq_true] at hq
  obtain ⟨q, hq, he⟩ := hq
  have := h q hq
  rw [List.any_eq_true] at this
  exact this ⟨p, hp, by simpa using (beq_iff_eq.1 he).symm⟩
theorem Nb.alike {x y : Bu} (h : Nb x y) : alikeU x y = true := by
  unfold alikeU
  simp only [Bool.and_eq_true, beq_iff_eq]
  exact ⟨⟨⟨⟨⟨h.okx, h.oky⟩, h.ten⟩, h.knd⟩, h.fua⟩, h.str⟩
theorem Nb.alike' {x y : Bu} (h : Nb x y) : alikeU y x = true := by
  unfold alikeU
  simp only [Bool.and_eq_true, beq_iff_eq]
  exact ⟨⟨⟨⟨⟨h.oky, h.okx⟩, h.ten.symm⟩, h.knd.symm⟩, h.fua.symm⟩, strU_symm h.str⟩
theorem Nb.can {x y : Bu} (h : Nb x y) : canU 128 0 x y = 1 := by
  have r1 := okU_range h.okx
  have r2 := okU_range h.oky
  have hs := h.sec
  unfold canU
  rw [if_pos h.alike, if_pos ⟨h.sec, fits_full r1.1 (by omega) (by omega) (by omega)⟩]
theorem Nb.can' {x y : Bu} (h : Nb x y) : canU 128 0 y x = 2 := by
  have r1 := okU_range h.okx
  have r2 := okU_range h.oky
  have hs := h.sec
  unfold canU
  rw [if_pos h.alike', if_neg (fun e => by have := e.1; omega), if_pos ⟨h.sec, fits_full r1.1 (by omega) (by omega) (by omega)⟩]
theorem Nb.join {x y : Bu} (h : Nb x y) : joinU x y 1 = pairU x y x y := by
  unfold joinU
  rw [if_neg (by rw [h.can]; simp), if_neg (by decide)]
theorem Nb.join' {x y : Bu} (h : Nb x y) : joinU y x 2 = pairU x y x y := by
  unfold joinU
  rw [if_neg (by rw [h.can']; simp), if_pos rfl]
  unfold pairU
  rw [h.ten, h.knd, h.fua, Int.min_comm y.id, Int.min_comm y.tim]
theorem Nb.ok {x y : Bu} (h : Nb x y) : okU (pairU x y x y) = true := pair_ok h.okx h.oky rfl h.knd h.sec h.str
theorem strU_pair {u v x y z : Bu} (h1 : strU x z = true) (h2 : strU y z = true) : strU (pairU u v x y) z = true := by
  unfold strU at *
  simp only [Bool.not_eq_true', List.any_eq_false] at *
  intro p hp
  have hp' : p ∈ x.ms ++ shift x.cnt y.ms := hp
  rw [List.mem_append] at hp'
  rcases hp' with hp | hp
  · exact h1 p hp
  · unfold shift at hp
    rw [List.mem_map] at hp
    obtain ⟨q, hq, rfl⟩ := hp
    exact h2 q hq
theorem shift_app (c : Int) (l k : List Mem) : shift c (l ++ k) = shift c l ++ shift c k := by simp [shift]
theorem shift_shift (c d : Int) (l : List Mem) : shift c (shift d l) = shift (c + d) l := by
  unfold shift
  rw [List.map_map]
  apply List.map_congr_left
  intro m _
  show (⟨m.id, m.off + d + c, m.cnt⟩ : Mem) = ⟨m.id, m.off + (c + d), m.cnt⟩
  congr 1
  omega
theorem pair_assoc (a b c : Bu) : pairU (pairU a b a b) c (pairU a b a b) c = pairU a (pairU b c b c) a (pairU b c b c) := by
  unfold pairU
  simp only
  rw [Int.min_assoc, Int.min_assoc, Int.add_assoc, ByteArray.append_assoc, List.append_assoc, shift_app, shift_shift]
theorem Nb.left {a b c : Bu} (h1 : Nb a b) (h2 : Nb b c) (h3 : strU a c = true) : Nb (pairU a b a b) c where
  okx := h1.ok
  oky := h2.oky
  ten := h1.ten.trans h2.ten
  knd := h1.knd.trans h2.knd
  fua := h1.fua.trans h2.fua
  str := strU_pair h3 h2.str
  sec := by show c.sec = a.sec + (a.cnt + b.cnt); have := h1.sec; have := h2.sec; omega
theorem Nb.right {a b c : Bu} (h1 : Nb a b) (h2 : Nb b c) (h3 : strU a c = true) : Nb a (pairU b c b c) where
  okx := h1.okx
  oky := h2.ok
  ten := h1.ten
  knd := h1.knd
  fua := h1.fua
  str := strU_symm (strU_pair (strU_symm h1.str) (strU_symm h3))
  sec := h1.sec
/-- The law. -/
theorem join_three {a b c : Bu} (h1 : Nb a b) (h2 : Nb b c) (h3 : strU a c = true) :
    okU (joinU (joinU a b 1) c 1) = true ∧ joinU a (joinU b c 1) 1 = joinU (joinU a b 1) c 1 ∧ joinU (joinU c b 2) a 2 = joinU (joinU a b 1) c 1 := by
  rw [h1.join, h2.join, h2.join', (h1.left h2 h3).join, (h1.right h2 h3).join, (h1.right h2 h3).join', pair_assoc]
  exact ⟨(h1.right h2 h3).ok, rfl, rfl⟩
end Go.Proofs.Ytbijfmpmgmfpgaa
