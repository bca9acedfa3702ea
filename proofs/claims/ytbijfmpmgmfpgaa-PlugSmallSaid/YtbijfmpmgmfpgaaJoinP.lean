/- Joining bunches: what it gives, and plain laws of it. -/
import Derived.Test.YtbijfmpmgmfpgaaMems
import Derived.Test.YtbijfmpmgmfpgaaSplitW
namespace Go.Proofs.Ytbijfmpmgmfpgaa
open Go.RowKit

/-- What a bunch is, wherever its members lie. -/
structure Bu where
  id : Int
  ten : Int
  knd : Int
  sec : Int
  cnt : Int
  dat : ByteArray
  fua : Bool
  ms : List Mem
  tim : Int
def Bu.bun (u : Bu) : Bun := ⟨u.id, u.ten, u.knd, u.sec, u.cnt, u.dat, u.fua, none, 0, 0, u.tim⟩
def Bu.bm (u : Bu) : BM := ⟨u.bun, u.ms⟩
def BM.bu (x : BM) : Bu := ⟨x.b.id, x.b.ten, x.b.knd, x.b.sec, x.b.cnt, x.b.dat, x.b.fua, x.ms, x.b.tim⟩
def okU (u : Bu) : Bool := u.bm.ok
def confU (u v : Bu) : Bool := confB u.bm v.bm
theorem ok_bu (x : BM) : x.ok = okU x.bu := rfl
theorem conf_bu (x y : BM) : confB x y = confU x.bu y.bu := rfl
/-- No member in common. -/
def strU (u v : Bu) : Bool := !(u.ms.any fun x => v.ms.any fun y => x.id == y.id)
def alikeU (u v : Bu) : Bool := okU u && okU v && (u.ten == v.ten) && (u.knd == v.knd) && (u.fua == v.fua) && strU u v
def canU (M B : Int) (u v : Bu) : Int :=
  if alikeU u v then (if v.sec = u.sec + u.cnt ∧ fits M B u.sec (u.cnt + v.cnt) = true then 1 else if u.sec = v.sec + v.cnt ∧ fits M B v.sec (u.cnt + v.cnt) = true then 2 else 0) else 0
def shift (c : Int) (l : List Mem) : List Mem := l.map fun m => ⟨m.id, m.off + c, m.cnt⟩
def zeroU : Bu := ⟨0, 0, 0, 0, 0, ⟨#[]⟩, false, [], 0⟩
def pairU (u v x y : Bu) : Bu := ⟨min u.id v.id, u.ten, u.knd, x.sec, x.cnt + y.cnt, x.dat ++ y.dat, u.fua, x.ms ++ shift x.cnt y.ms, min u.tim v.tim⟩
def joinU (u v : Bu) (how : Int) : Bu :=
  if how = 0 ∨ canU 128 0 u v ≠ how then zeroU else if how = 2 then pairU u v v u else pairU u v u v
theorem meetB_symm (a b : Bun) : meetB a b = meetB b a := by
  unfold meetB
  rw [Bool.eq_iff_iff]
  simp only [decide_eq_true_eq]
  omega
theorem confU_symm (u v : Bu) : confU u v = confU v u := by
  unfold confU confB
  rw [meetB_symm, Bool.and_comm u.bm.ok]
theorem confU_write {u v : Bu} (h : confU u v = true) : u.knd = 2 ∨ v.knd = 2 := by
  unfold confU confB meetB at h
  simp only [Bool.and_eq_true, decide_eq_true_eq] at h
  exact h.2.1
theorem okU_range {u : Bu} (h : okU u = true) : 0 ≤ u.sec ∧ u.sec < 128 ∧ 1 ≤ u.cnt ∧ u.cnt ≤ 128 - u.sec := validB_range (b := u.bun) (ms := u.ms) h
theorem alike_ok {u v : Bu} (h : alikeU u v = true) : okU u = true ∧ okU v = true ∧ u.ten = v.ten ∧ u.knd = v.knd ∧ u.fua = v.fua ∧ strU u v = true := by
  unfold alikeU at h
  simp only [Bool.and_eq_true, beq_iff_eq] at h
  exact ⟨h.1.1.1.1.1, h.1.1.1.1.2, h.1.1.1.2, h.1.1.2, h.1.2, h.2⟩
theorem canU_alike {M B : Int} {u v : Bu} (h : canU M B u v ≠ 0) : alikeU u v = true := by
  unfold canU at h
  split at h
  · assumption
  · exact absurd rfl h
theorem canU_apart {M B : Int} {u v : Bu} (h : canU M B u v ≠ 0) : confU u v = false := by
  have ha := alike_ok (canU_alike h)
  have h1 := okU_range ha.1
  have h2 := okU_range ha.2.1
  have hs : v.sec = u.sec + u.cnt ∨ u.sec = v.sec + v.cnt := by
    unfold canU at h
    split at h
    · split at h
      · rename_i hh; exact .inl hh.1
      · split at h
        · rename_i hh; exact .inr hh.1
        · exact absurd rfl h
    · exact absurd rfl h
  have hm : meetB u.bm.b v.bm.b = false := by
    unfold meetB
    rw [decide_eq_false_iff_not]
    intro hh
    have e1 : u.sec < v.sec + v.cnt := hh.2.1
    have e2 : v.sec < u.sec + u.cnt := hh.2.2
    omega
  unfold confU confB
  rw [hm, Bool.and_false]
theorem confU_self {u : Bu} (h : u.knd = 2) : confU u u = okU u := by
  unfold confU confB
  cases ho : okU u
  · have : u.bm.ok = false := ho
    rw [this]; rfl
  · have ho' : u.bm.ok = true := ho
    have hr := okU_range ho
    have hm : meetB u.bm.b u.bm.b = true := by
      unfold meetB
      rw [decide_eq_true_eq]
      exact ⟨.inl h, show u.sec < u.sec + u.cnt by omega, show u.sec < u.sec + u.cnt by omega⟩
    rw [ho', hm]; rfl

/-! ### what is joined is valid -/
def msum : List Mem → Int
  | [] => 0
  | m :: l => m.cnt + msum l
def offs : Int → List Mem → Prop
  | _, [] => True
  | n, m :: l => m.off = n ∧ offs (n + m.cnt) l
theorem msum_app (l k : List Mem) : msum (l ++ k) = msum l + msum k := by
  induction l with
  | nil => simp [msum]
  | cons m l ih => simp only [List.cons_append, msum, ih]; omega
theorem msum_nonneg {l : List Mem} (h : ∀ m ∈ l, 1 ≤ m.cnt) : 0 ≤ msum l := by
  induction l with
  | nil => simp [msum]
  | cons m l ih =>
    have h1 := h m (by simp)
    have h2 := ih (fun x hx => h x (by simp [hx]))
    simp only [msum]; omega
theorem offs_app : ∀ (l k : List Mem) (n : Int), offs n (l ++ k) ↔ offs n l ∧ offs (n + msum l) k
  | [], k, n => by simp [offs, msum]
  | m :: l, k, n => by
    simp only [List.cons_append, offs, msum, offs_app l k, Int.add_assoc, and_assoc]
theorem memOk_iff (cnt : Int) : ∀ (l : List Mem) (seen : List Int) (n : Int), memOk cnt seen n l = true ↔ offs n l ∧ (∀ m ∈ l, 1 ≤ m.cnt) ∧ n + msum l = cnt ∧ (l.map Mem.id).Nodup ∧ ∀ m ∈ l, m.id ∉ seen
  | [], seen, n => by simp [memOk, offs, msum]
  | m :: l, seen, n => by
    unfold memOk
    constructor
    · intro h
      split at h
      · cases h
      · rename_i hc
        simp only [not_or, Decidable.not_not] at hc
        obtain ⟨h1, h2, h3, h4⟩ := hc
        obtain ⟨g1, g2, g3, g4, g5⟩ := (memOk_iff cnt l (m.id :: seen) (n + m.cnt)).1 h
        have h1' : m.id ∉ seen := by simpa using h1
        refine ⟨⟨h2, g1⟩, fun x hx => ?_, by simp only [msum]; omega, ?_, fun x hx => ?_⟩
        · rcases List.mem_cons.1 hx with rfl | hx
          · omega
          · exact g2 x hx
        · rw [List.map_cons, List.nodup_cons]
          refine ⟨fun hm => ?_, g4⟩
          rw [List.mem_map] at hm
          obtain ⟨x, hx, he⟩ := hm
          exact g5 x hx (by rw [he]; simp)
        · rcases List.mem_cons.1 hx with rfl | hx
          · exact h1'
          · exact fun hs => g5 x hx (by simp [hs])
    · rintro ⟨⟨h1, h2⟩, h3, h4, h5, h6⟩
      have hm := h3 m (by simp)
      have hr := msum_nonneg (l := l) (fun x hx => h3 x (by simp [hx]))
      simp only [msum] at h4
      rw [List.map_cons, List.nodup_cons] at h5
      rw [if_neg]
      · refine (memOk_iff cnt l (m.id :: seen) (n + m.cnt)).2 ⟨h2, fun x hx => h3 x (by simp [hx]), by omega, h5.2, fun x hx hs => ?_⟩
        rcases List.mem_cons.1 hs with he | hs
        · exact h5.1 (by rw [← he]; exact List.mem_map_of_mem hx)
        · exact h6 x (by simp [hx]) hs
      · have := h6 m (by simp)
        simp only [not_or, Decidable.not_not]
        exact ⟨by simpa using this, h1, by omega, by omega⟩
theorem shift_ids (c : Int) (l : List Mem) : (shift c l).map Mem.id = l.map Mem.id := by simp [shift]
theorem shift_sum (c : Int) : ∀ l : List Mem, msum (shift c l) = msum l
  | [] => rfl
  | m :: l => by have := shift_sum c l; simp only [shift, List.map_cons, msum] at *; omega
theorem shift_offs (c : Int) : ∀ (l : List Mem) (n : Int), offs n l → offs (n + c) (shift c l)
  | [], _, _ => trivial
  | m :: l, n, h => by
    have := shift_offs c l (n + m.cnt) h.2
    refine ⟨by show m.off + c = n + c; rw [h.1], ?_⟩
    rw [show n + c + m.cnt = n + m.cnt + c by omega]
    exact this
theorem okU_parts {u : Bu} : okU u = true ↔ rangeOk u.bun = true ∧ dataOk u.bun = true ∧ memOk u.cnt [] 0 u.ms = true := by
  show (rangeOk u.bun && dataOk u.bun && memOk u.cnt [] 0 u.ms) = true ↔ _
  simp only [Bool.and_eq_true, and_assoc]
theorem dataOk_size {u : Bu} (h : dataOk u.bun = true) : (u.knd = 1 ∧ u.dat.size = 0) ∨ (u.knd = 2 ∧ (u.dat.size : Int) = u.cnt * 8) := by
  unfold dataOk at h
  split at h
  · rename_i hk; exact .inl ⟨hk, of_decide_eq_true h⟩
  · split at h
    · rename_i hk; exact .inr ⟨hk, of_decide_eq_true h⟩
    · cases h
/-- Two that stand side by side, x ahead of y. -/
theorem pair_ok {u v x y : Bu} (hx : okU x = true) (hy : okU y = true) (hk : u.knd = x.knd) (hk2 : x.knd = y.knd) (hs : y.sec = x.sec + x.cnt) (hd : strU x y = true) : okU (pairU u v x y) = true := by
  have r1 := okU_range hx
  have r2 := okU_range hy
  obtain ⟨_, d1, m1⟩ := okU_parts.1 hx
  obtain ⟨_, d2, m2⟩ := okU_parts.1 hy
  rw [memOk_iff] at m1 m2
  obtain ⟨a1, a2, a3, a4, _⟩ := m1
  obtain ⟨b1, b2, b3, b4, _⟩ := m2
  rw [okU_parts]
  refine ⟨decide_eq_true ⟨r1.1, r1.2.1, show 1 ≤ x.cnt + y.cnt by omega, show x.cnt + y.cnt ≤ 128 - x.sec by omega⟩, ?_, ?_⟩
  · have hsz : (x.dat ++ y.dat).size = x.dat.size + y.dat.size := ByteArray.size_append
    unfold dataOk
    rcases dataOk_size d1 with ⟨k1, s1⟩ | ⟨k1, s1⟩ <;> rcases dataOk_size d2 with ⟨k3, s2⟩ | ⟨k3, s2⟩
    · rw [if_pos (show (pairU u v x y).bun.knd = 1 from by show u.knd = 1; omega)]
      exact decide_eq_true (show (x.dat ++ y.dat).size = 0 by omega)
    · omega
    · omega
    · rw [if_neg (show ¬ (pairU u v x y).bun.knd = 1 from by show ¬ u.knd = 1; omega), if_pos (show (pairU u v x y).bun.knd = 2 from by show u.knd = 2; omega)]
      exact decide_eq_true (show ((x.dat ++ y.dat).size : Int) = (x.cnt + y.cnt) * 8 by omega)
  · show memOk (x.cnt + y.cnt) [] 0 (x.ms ++ shift x.cnt y.ms) = true
    rw [memOk_iff]
    refine ⟨(offs_app _ _ _).2 ⟨a1, ?_⟩, fun m hm => ?_, by rw [msum_app, shift_sum]; omega, ?_, fun m _ => by simp⟩
    · have := shift_offs x.cnt y.ms 0 b1
      rwa [show 0 + msum x.ms = 0 + x.cnt by omega]
    · rw [List.mem_append] at hm
      rcases hm with hm | hm
      · exact a2 m hm
      · unfold shift at hm
        rw [List.mem_map] at hm
        obtain ⟨z, hz, rfl⟩ := hm
        exact b2 z hz
    · rw [List.map_append, shift_ids, List.nodup_append]
      refine ⟨a4, b4, fun i hi j hj e => ?_⟩
      subst e
      rw [List.mem_map] at hi hj
      obtain ⟨p, hp, rfl⟩ := hi
      obtain ⟨q, hq, he⟩ := hj
      unfold strU at hd
      simp only [Bool.not_eq_true', List.any_eq_false] at hd
      have := hd p hp
      simp only [List.any_eq_true, not_exists, not_and] at this
      exact this q hq (by simp [he])
end Go.Proofs.Ytbijfmpmgmfpgaa
