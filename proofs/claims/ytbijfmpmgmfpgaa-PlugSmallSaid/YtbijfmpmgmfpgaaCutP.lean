/- Cutting data by members, and what is joined cut. -/
import Derived.Test.YtbijfmpmgmfpgaaJoinO
namespace Go.Proofs.Ytbijfmpmgmfpgaa
open Go.RowKit

/-- The bytes of one member. -/
def cutM (d : ByteArray) (m : Mem) : ByteArray := d.extract (m.off.toNat * 8) ((m.off + m.cnt).toNat * 8)
def cutU (u : Bu) (d : ByteArray) : List ByteArray := if okU u = true ∧ (d.size : Int) = u.cnt * 8 then u.ms.map (cutM d) else []
theorem offs_bd : ∀ (l : List Mem) (n : Int), 0 ≤ n → offs n l → (∀ m ∈ l, 1 ≤ m.cnt) → ∀ m ∈ l, n ≤ m.off ∧ m.off + m.cnt ≤ n + msum l
  | [], _, _, _, _, m, hm => by cases hm
  | x :: l, n, h0, h, hp, m, hm => by
    have hx := hp x (by simp)
    have hr := msum_nonneg (l := l) (fun y hy => hp y (by simp [hy]))
    obtain ⟨h1, h2⟩ := h
    simp only [msum]
    rcases List.mem_cons.1 hm with rfl | hm
    · omega
    · have := offs_bd l (n + x.cnt) (by omega) h2 (fun y hy => hp y (by simp [hy])) m hm
      omega
theorem okU_mem {u : Bu} (h : okU u = true) {m : Mem} (hm : m ∈ u.ms) : 0 ≤ m.off ∧ 1 ≤ m.cnt ∧ m.off + m.cnt ≤ u.cnt := by
  obtain ⟨_, _, h3⟩ := okU_parts.1 h
  rw [memOk_iff] at h3
  obtain ⟨a1, a2, a3, _⟩ := h3
  have := offs_bd u.ms 0 (by omega) a1 a2 m hm
  exact ⟨by omega, a2 m hm, by omega⟩
theorem extract_left {a b : ByteArray} {i j : Nat} (h : j ≤ a.size) : (a ++ b).extract i j = a.extract i j := by
  apply ByteArray.ext
  simp only [ByteArray.data_extract, ByteArray.data_append]
  rw [Array.extract_append]
  have h1 : b.data.extract (i - a.data.size) (j - a.data.size) = #[] := by
    have : j - a.data.size = 0 := by have : a.data.size = a.size := rfl; omega
    rw [this]; simp
  rw [h1]; simp
theorem extract_right {a b : ByteArray} {i j : Nat} : (a ++ b).extract (a.size + i) (a.size + j) = b.extract i j := by
  apply ByteArray.ext
  simp only [ByteArray.data_extract, ByteArray.data_append]
  rw [Array.extract_append]
  have h0 : a.data.size = a.size := rfl
  have h1 : a.data.extract (a.size + i) (a.size + j) = #[] := by
    rw [← h0]; simp
  rw [h1, h0, Nat.add_sub_cancel_left, Nat.add_sub_cancel_left]; simp
/-- The law of joined data. -/
theorem cut_pair {u v x y : Bu} {d e : ByteArray} (hx : okU x = true) (hy : okU y = true) (hp : okU (pairU u v x y) = true) (hd : (d.size : Int) = x.cnt * 8) (he : (e.size : Int) = y.cnt * 8) :
    cutU (pairU u v x y) (d ++ e) = cutU x d ++ cutU y e := by
  have hsz : (d ++ e).size = d.size + e.size := ByteArray.size_append
  unfold cutU
  rw [if_pos ⟨hp, show ((d ++ e).size : Int) = (x.cnt + y.cnt) * 8 by omega⟩, if_pos ⟨hx, hd⟩, if_pos ⟨hy, he⟩]
  show (x.ms ++ shift x.cnt y.ms).map (cutM (d ++ e)) = _
  rw [List.map_append]
  congr 1
  · apply List.map_congr_left
    intro m hm
    have := okU_mem hx hm
    exact extract_left (by omega)
  · unfold shift
    rw [List.map_map]
    apply List.map_congr_left
    intro m hm
    have hb := okU_mem hy hm
    show (d ++ e).extract ((m.off + x.cnt).toNat * 8) ((m.off + x.cnt + m.cnt).toNat * 8) = e.extract (m.off.toNat * 8) ((m.off + m.cnt).toNat * 8)
    rw [show (m.off + x.cnt).toNat * 8 = d.size + m.off.toNat * 8 by omega, show (m.off + x.cnt + m.cnt).toNat * 8 = d.size + (m.off + m.cnt).toNat * 8 by omega]
    exact extract_right
end Go.Proofs.Ytbijfmpmgmfpgaa
