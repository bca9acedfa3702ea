/- The reference's bunches and later. -/
import Derived.Test.YtpgjbocjhconoaaGreatRAdd
import Derived.Test.YtpgjbocjhconoaaGreatElE
import Derived.Test.YtpgjbocjhconoaaGreatK8
namespace Go.Proofs.YtpgjbocjhconoaaGreat
open Go.RowKit Go.Maps
set_option linter.unusedSimpArgs false

set_option maxRecDepth 100000 in
set_option maxHeartbeats 8000000 in
theorem refBunches_any (L : List QM) (v : Value) (w : World) (h : QL w v L) (hn : L.length ≤ 1000) :
    Calls Tryz.prog 31 #[v] w fun e w' => ∃ u, e = .returned u ∧ BL w' u (L.map QM.bm) ∧ Bel w w' := by
  obtain ⟨i0, hi0, hz0, hz1, hz2⟩ := info_parts Tryz.infoBunchP
  have HQ := Lib.hid h
  obtain ⟨A, c, rfl, -, -⟩ := h.form
  obtain ⟨n, Hn⟩ : ∃ n, Hid (L.length = n) := ⟨_, rfl⟩
  rw [Hn.out] at hn ⊢
  clear h
  go_enter Tryz.func31, Tryz.ntmps31
  go_wp2
  go_loopw [3, 4] (fun ov iv wr => ∃ i : Nat, iv = .int .i64 i ∧ i ≤ n ∧ wr.ownsRow w.heap.size 44 9 ov i (bmc ((L.map QM.bm).take i)) ∧ Bel w wr) (fun _ iv _ => n - (intOf iv).toNat)
  case atStart => exact ⟨0, rfl, Nat.zero_le _, ⟨rfl, Or.inl ⟨rfl, rfl⟩⟩, Bel.refl _⟩
  case round =>
    obtain ⟨i, rfl, hi, hown, hbr⟩ := hrel
    obtain ⟨W6, rfl⟩ : ∃ X, X = wr := ⟨_, rfl⟩
    obtain ⟨Ao, co, rfl⟩ := own_slice hown
    have hbs := hbr.size
    by_cases hlt : i < n
    · have hin : (i : Int) < (n : Int) := by omega
      obtain ⟨x, hx⟩ : ∃ x, L[i]? = some x := ⟨L[i]'(by have := Hn.out; omega), List.getElem?_eq_getElem _⟩
      obtain ⟨g, o, cx, hat⟩ := (HQ.out.bel hbr).at hx
      have hfx := hat.form
      injection hfx with h1 h2 h3
      subst h1
      have hrow := hat.row
      have HTK : Hid (bmc ((L.map QM.bm).take (i + 1)) = bmc ((L.map QM.bm).take i) ++ x.q.b.cells) := by
        show _ = _
        unfold bmc
        rw [List.take_add_one, List.getElem?_map, hx, List.flatMap_append]
        simp [QM.bm]
      clear h2 h3 hx hat
      obtain ⟨⟨⟨i1, t1, k1, s1, n1, d1, f1, a1, l1, c1, m1⟩, u1, v1, z1⟩, ms1⟩ := x
      simp only at hrow HTK
      have p0 := (hrow).cell 0 rfl
      have p1 := (hrow).cell 1 rfl
      have p2 := (hrow).cell 2 rfl
      have p3 := (hrow).cell 3 rfl
      have p4 := (hrow).cell 4 rfl
      have p5 := (hrow).cell 5 rfl
      have p6 := (hrow).cell 6 rfl
      have p7 := (hrow).cell 7 rfl
      have p8 := (hrow).cell 8 rfl
      have p9 := (hrow).cell 9 rfl
      have p10 := (hrow).cell 10 rfl
      have p11 := (hrow).cell 11 rfl
      rw [Nat.add_zero] at p0
      clear hrow p9 p10 p11
      go_wp2_with (at_builtin; go_must (refine wpList_append_own_at _ rfl _ _ 38 rfl w.heap.size 44 i0 _ 9 96 Tryz.underlying38 hi0 hz0 hz1 hz2 rfl (by omega) (.slice Ao i co) _ _ rfl (hown.alloc _) ⟨W6.heap.size, 0, none⟩ 1 1 [.int .i64 i1, .int .i64 t1, .int .i64 k1, .int .i64 s1, .int .i64 n1, .string d1, .bool f1, .slice a1 l1 c1, .int .i64 m1] rfl rfl (World.news_of_block (cs := #[.int .i64 i1, .int .i64 t1, .int .i64 k1, .int .i64 s1, .int .i64 n1, .string d1, .bool f1, .slice a1 l1 c1, .int .i64 m1]) (t := 44) (fr := (0, 0)) (heap_alloc_new W6 _)) (bcells_oneP ⟨i1, t1, k1, s1, n1, d1, f1, a1, l1, c1, m1⟩) (by unfold maxLen; omega) (by omega) (by simp; omega) ?_); intro v' w3 hown' hg' _ hloc; obtain ⟨gn, cn, hvn, _, _⟩ := hown'.form (by omega); subst hvn)
      have hna : Bel W6 (W6.alloc (.cells #[.int .i64 i1, .int .i64 t1, .int .i64 k1, .int .i64 s1, .int .i64 n1, .string d1, .bool f1, .slice a1 l1 c1, .int .i64 m1] 44)) := bI
      have hb3 := bel_own (hbr.trans hna) (hown.alloc _) hg' (Nat.le_refl _)
      have how3 : w3.ownsRow w.heap.size 44 9 (.slice (some ⟨gn, 0, none⟩) (i + 1) cn) (i + 1) (bmc ((L.map QM.bm).take (i + 1))) := by
        rw [HTK.out]
        exact hown'
      clear hown hbr hown' hg' hloc hna p0 p1 p2 p3 p4 p5 p6 p7 p8
      go_roundw
      case rel => exact ⟨i + 1, by go_num, by omega, how3, hb3⟩
      case measure => simp [intOf]; omega
    · obtain rfl : i = n := by omega
      have jk : decide ((i : Int) < (i : Int)) = false := by simp
      have hle : (L.map QM.bm).length = i := by rw [List.length_map, Hn.out]
      have e : (L.map QM.bm).take i = L.map QM.bm := List.take_of_length_le (by omega)
      rw [e] at hown
      have hI : BL W6 (.slice Ao i co) (L.map QM.bm) := ⟨by rw [hle]; exact Rd.own hown, fun y hy => by
        rw [List.mem_map] at hy
        obtain ⟨x, hx, rfl⟩ := hy
        exact (HQ.out.mem x hx).bel hbr⟩
      have HII := Lib.hid (And.intro hI hbr)
      clear hI hle e hown
      go_wp2
      go_ret
      exact ⟨_, rfl, HII.out.1, HII.out.2⟩

set_option maxHeartbeats 4000000 in
theorem refLater_any (L : List QM) (k : Nat) (t : Int) (v : Value) (w : World) (h : QL w v L) (hn : L.length ≤ 1000) (hk : k ≤ L.length) :
    Calls Tryz.prog 32 #[v, .int .i64 k, .int .i64 t] w fun e w' => e = .returned (.bool (((L.map QM.qu).drop k).any fun y => y.u.ten == t)) ∧ Bel w w' := by
  have HQ := Lib.hid h
  obtain ⟨A, c, rfl, -, -⟩ := h.form
  obtain ⟨r, Hr⟩ : ∃ r, Hid ((((L.map QM.qu).drop k).any fun y => y.u.ten == t) = r) := ⟨_, rfl⟩
  rw [Hr.out]
  obtain ⟨n, Hn⟩ : ∃ n, Hid (L.length = n) := ⟨_, rfl⟩
  rw [Hn.out] at hn hk ⊢
  clear h
  go_enter Tryz.func32, Tryz.ntmps32
  go_wp2
  go_loopw [7] (fun iv wr => ∃ i : Nat, iv = .int .i64 i ∧ i ≤ n ∧ Hid ((((L.map QM.qu).drop i).any fun y => y.u.ten == t) = r) ∧ wr = w) (fun iv _ => n - (intOf iv).toNat)
  case atStart => exact ⟨k, rfl, hk, Hr, rfl⟩
  case round =>
    obtain ⟨i, rfl, hi, HR, rfl⟩ := hrel
    by_cases hlt : i < n
    · have hin : (i : Int) < (n : Int) := by omega
      obtain ⟨x, hx⟩ : ∃ x, L[i]? = some x := ⟨L[i]'(by have := Hn.out; omega), List.getElem?_eq_getElem _⟩
      obtain ⟨g, o, cx, hat⟩ := HQ.out.at hx
      have hfx := hat.form
      injection hfx with h1 h2 h3
      subst h1
      have p1 := hat.row.cell 1 rfl
      have hxq : (L.map QM.qu)[i]? = some x.qu := by rw [List.getElem?_map, hx]; rfl
      have hdd : (((L.map QM.qu).drop i).any fun y => y.u.ten == t) = ((x.q.b.ten == t) || (((L.map QM.qu).drop (i + 1)).any fun y => y.u.ten == t)) := any_drop (p := fun y : Qu => y.u.ten == t) hxq
      have HD := Lib.hid hdd
      clear h2 h3 hx hat hxq hdd
      by_cases ht : x.q.b.ten = t
      · have htb : (x.q.b.ten == t) = true := by simpa using ht
        have hr : r = true := by rw [← HR.out, HD.out, htb]; rfl
        subst hr
        go_wp2
        go_ret
        exact ⟨rfl, Bel.refl _⟩
      · have htb : (x.q.b.ten == t) = false := by simpa using ht
        have HR2 : Hid ((((L.map QM.qu).drop (i + 1)).any fun y => y.u.ten == t) = r) := by show _ = _; rw [← HR.out, HD.out, htb]; rfl
        go_wp2
        go_roundw
        case rel => exact ⟨i + 1, by go_num, by omega, HR2, by first | rfl | trivial⟩
        case measure => simp [intOf]; omega
    · obtain rfl : i = n := by omega
      have jk : decide ((i : Int) < (i : Int)) = false := by simp
      have hr : r = false := by
        rw [← HR.out, List.drop_eq_nil_of_le (by rw [List.length_map, Hn.out]; exact Nat.le_refl _)]; rfl
      subst hr
      go_wp2
      go_ret
      exact ⟨rfl, Bel.refl _⟩
end Go.Proofs.YtpgjbocjhconoaaGreat
