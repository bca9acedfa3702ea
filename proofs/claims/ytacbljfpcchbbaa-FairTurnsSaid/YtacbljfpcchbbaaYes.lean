/- The law's yes and left. -/
import Derived.Test.YtacbljfpcchbbaaPick
namespace Go.Proofs.Ytacbljfpcchbbaa
open Go.RowKit
set_option linter.unusedSimpArgs false

theorem Try.infoBool : (Try.prog.info? 4).map (fun i => (i.zero, i.size, i.bytes)) = some (some (.bool false), 1, 1) := by kernel_rfl
theorem bcells_len (l : List Bool) : (bcells l).length = l.length * 1 := by simp [bcells]
def yesL (n : Nat) : List Bool := List.replicate n true
theorem yesL_at {n k : Nat} (h : k < n) : (yesL n)[k]? = some true := by simp [yesL, h]

set_option maxHeartbeats 2000000 in
theorem yes_any (n : Nat) (w : World) (hn : n ≤ 1000) :
    Calls Try.prog 23 #[.int .i64 n] w fun e w' => ∃ v, e = .returned v ∧ Rd w' v 1 (yesL n).length (bcells (yesL n)) ∧ Bel w w' := by
  obtain ⟨i0, hi0, hz0, hz1, hz2⟩ := info_parts Try.infoBool
  obtain ⟨m, Hm⟩ : ∃ m, Hid (m = (yesL n).length) := ⟨_, rfl⟩
  rw [← Hm.out]
  go_enter Try.func23, Try.ntmps23
  go_wp2
  go_loopw [3, 4] (fun ov iv wr => ∃ i : Nat, iv = .int .i64 i ∧ i ≤ n ∧ wr.ownsRow w.heap.size 4 1 ov i (bcells (yesL i)) ∧ Bel w wr) (fun _ iv _ => n - (intOf iv).toNat)
  case atStart => exact ⟨0, rfl, by omega, ⟨by simp [yesL, bcells], Or.inl ⟨rfl, rfl⟩⟩, (by repeat (first | (with_reducible exact Bel.refl _) | (with_reducible assumption) | (with_reducible refine Bel.drewN ?_ _) | (with_reducible refine Bel.drew ?_) | (with_reducible refine Bel.alloc ?_ _) | (with_reducible refine Bel.setNew ?_ ?_ _) | (with_reducible refine Bel.trans ?_ (by assumption)) | (focus (simp; done)) | (focus (simp; omega))))⟩
  case round =>
    obtain ⟨i, rfl, p1, hown, hbr⟩ := hrel
    obtain ⟨A', c', rfl⟩ := own_slice hown
    by_cases hlt : i < n
    · have i1 : (i : Int) < (n : Int) := by omega
      go_wp2_with (at_builtin; go_must (refine wpList_append_own_at _ rfl _ _ 47 rfl w.heap.size 4 i0 _ 1 1 Try.underlying47 hi0 hz0 hz1 hz2 rfl (by omega) (.slice A' i c') _ _ rfl (hown.alloc _) ⟨wr.heap.size, 0, none⟩ 1 1 [.bool true] rfl rfl (World.news_of_block (cs := #[.bool true]) (t := 4) (fr := (0, 0)) (heap_alloc_new wr _)) (by simp [Value.oneCell']) (by unfold maxLen; omega) (by omega) (by have := hbr.size; simp; omega) ?_); intro v' w3 hown' hg' _ _; obtain ⟨gn, cn, hvn, _, _⟩ := hown'.form (by omega); subst hvn)
      go_roundw
      case rel =>
        refine ⟨i + 1, by go_num, by omega, ?_, bel_own (hbr.alloc _) (hown.alloc _) hg' (Nat.le_refl _)⟩
        rw [show bcells (yesL (i + 1)) = bcells (yesL i) ++ [.bool true] by simp [bcells, yesL, List.replicate_succ']]
        exact hown'
      case measure => simp [intOf]; omega
    · obtain rfl : i = n := by omega
      have i1 : decide ((i : Int) < (i : Int)) = false := by simp
      have HR := Lib.hid (Rd.own hown)
      go_wp2
      go_ret
      refine ⟨_, rfl, ?_, (by repeat (first | (with_reducible exact Bel.refl _) | (with_reducible assumption) | (with_reducible refine Bel.drewN ?_ _) | (with_reducible refine Bel.drew ?_) | (with_reducible refine Bel.alloc ?_ _) | (with_reducible refine Bel.setNew ?_ ?_ _) | (with_reducible refine Bel.trans ?_ (by assumption)) | (focus (simp; done)) | (focus (simp; omega))))⟩
      have : m = i := by rw [Hm.out]; simp [yesL]
      rw [this]
      exact HR.out

/-- How many entries a tenant has, and the largest one. -/
def cntQ (l : List Qd) (t : Int) : Nat := (l.filter fun q => q.b.ten = t).length
def mostQ (l : List Qd) (t : Int) : Int := l.foldl (fun m q => if q.b.ten = t then max m q.b.cnt else m) 0
theorem cntQ_snoc (l : List Qd) (q : Qd) (t : Int) : cntQ (l ++ [q]) t = cntQ l t + if q.b.ten = t then 1 else 0 := by
  unfold cntQ
  rw [List.filter_append]
  by_cases h : q.b.ten = t <;> simp [List.filter_cons, h]
theorem mostQ_snoc (l : List Qd) (q : Qd) (t : Int) : mostQ (l ++ [q]) t = if q.b.ten = t then max (mostQ l t) q.b.cnt else mostQ l t := by
  simp [mostQ]
theorem cntQ_le (l : List Qd) (t : Int) : cntQ l t ≤ l.length := by unfold cntQ; exact List.length_filter_le _ _

set_option maxHeartbeats 2000000 in
theorem left_any (l : List Qd) (t : Int) (v : Value) (w : World) (h : Rd w v 12 l.length (qcells l)) (hn : l.length ≤ 1000) :
    Calls Try.prog 25 #[v, .int .i64 t] w fun e w' => e = .returned (.tuple #[.int .i64 (cntQ l t : Nat), .int .i64 (mostQ l t)]) ∧ Bel w w' := by
  obtain ⟨_, A, cp, rfl, hcp, hmx, hr⟩ := h
  unfold maxLen at hmx
  obtain ⟨n, Hn⟩ : ∃ n, Hid (n = l.length) := ⟨_, rfl⟩
  obtain ⟨C, HC⟩ : ∃ C, Hid (C = cntQ l t) := ⟨_, rfl⟩
  obtain ⟨M, HM⟩ : ∃ M, Hid (M = mostQ l t) := ⟨_, rfl⟩
  rw [← HC.out, ← HM.out]
  rw [← Hn.out] at hcp hr hn ⊢
  have HR := Lib.hid hr
  clear hr
  go_enter Try.func25, Try.ntmps25
  go_wp2
  go_loopw [6, 7, 8] (fun cv mv iv wr => ∃ (i c : Nat) (m : Int), iv = .int .i64 i ∧ cv = .int .i64 c ∧ mv = .int .i64 m ∧ i ≤ n ∧ c ≤ i ∧ Hid (cntQ (l.take i) t = c) ∧ Hid (mostQ (l.take i) t = m) ∧ Bel w wr) (fun _ _ iv _ => n - (intOf iv).toNat)
  case atStart => exact ⟨0, 0, 0, rfl, rfl, rfl, by omega, by omega, rfl, rfl, (by repeat (first | (with_reducible exact Bel.refl _) | (with_reducible assumption) | (with_reducible refine Bel.drewN ?_ _) | (with_reducible refine Bel.drew ?_) | (with_reducible refine Bel.alloc ?_ _) | (with_reducible refine Bel.setNew ?_ ?_ _) | (with_reducible refine Bel.trans ?_ (by assumption)) | (focus (simp; done)) | (focus (simp; omega))))⟩
  case round =>
    obtain ⟨i, c, m, rfl, rfl, rfl, p1, p2, HC1, HM1, hbr⟩ := hrel
    by_cases hlt : i < n
    · obtain ⟨b, of, rfl, hlb, hcell⟩ := HR.out (by omega)
      obtain ⟨q, hq⟩ : ∃ q, l[i]? = some q := ⟨l[i]'(by have := Hn.out; omega), List.getElem?_eq_getElem _⟩
      have hrow := (row_at Qd.cells_len hcell hq).bel hbr hlb
      have c1 := hrow.cell 1 rfl
      have c4 := hrow.cell 4 rfl
      have i1 : (i : Int) < (n : Int) := by omega
      have e1 : l.take (i + 1) = l.take i ++ [q] := by rw [List.take_add_one, hq]; rfl
      have HC2 := Lib.hid (show cntQ (l.take (i + 1)) t = c + if q.b.ten = t then 1 else 0 by rw [e1, cntQ_snoc, HC1.out])
      have HM2 := Lib.hid (show mostQ (l.take (i + 1)) t = if q.b.ten = t then max m q.b.cnt else m by rw [e1, mostQ_snoc, HM1.out])
      clear hrow hcell hq e1
      by_cases ht : q.b.ten = t
      · rw [if_pos ht] at HC2 HM2
        have ht2 : (q.b.ten == t) = true := by simpa using ht
        obtain ⟨m2, Hm2⟩ : ∃ m2, Hid (m2 = max m q.b.cnt) := ⟨_, rfl⟩
        have hm9 : (if m < q.b.cnt then q.b.cnt else m) = m2 := by have := Hm2.out; split <;> omega
        rw [← Hm2.out] at HM2
        have HT := Lib.hid ht
        clear ht
        go_wp2
        go_roundw
        case rel => exact ⟨i + 1, c + 1, m2, by go_num, by go_num, rfl, by omega, by omega, HC2, HM2, (by repeat (first | (with_reducible exact Bel.refl _) | (with_reducible assumption) | (with_reducible refine Bel.drewN ?_ _) | (with_reducible refine Bel.drew ?_) | (with_reducible refine Bel.alloc ?_ _) | (with_reducible refine Bel.setNew ?_ ?_ _) | (with_reducible refine Bel.trans ?_ (by assumption)) | (focus (simp; done)) | (focus (simp; omega))))⟩
        case measure => simp [intOf]; omega
      · rw [if_neg ht] at HC2 HM2
        have ht2 : (q.b.ten == t) = false := by simpa using ht
        have HT := Lib.hid ht
        clear ht
        go_wp2
        go_roundw
        case rel => exact ⟨i + 1, c, m, by go_num, rfl, rfl, by omega, by omega, HC2, HM2, (by repeat (first | (with_reducible exact Bel.refl _) | (with_reducible assumption) | (with_reducible refine Bel.drewN ?_ _) | (with_reducible refine Bel.drew ?_) | (with_reducible refine Bel.alloc ?_ _) | (with_reducible refine Bel.setNew ?_ ?_ _) | (with_reducible refine Bel.trans ?_ (by assumption)) | (focus (simp; done)) | (focus (simp; omega))))⟩
        case measure => simp [intOf]; omega
    · obtain rfl : i = n := by omega
      have i1 : decide ((i : Int) < (i : Int)) = false := by simp
      have hc : C = c := by rw [HC.out, ← HC1.out, List.take_of_length_le (by have := Hn.out; omega)]
      have hm : M = m := by rw [HM.out, ← HM1.out, List.take_of_length_le (by have := Hn.out; omega)]
      subst hc hm
      go_wp2
      go_ret2
      exact ⟨rfl, (by repeat (first | (with_reducible exact Bel.refl _) | (with_reducible assumption) | (with_reducible refine Bel.drewN ?_ _) | (with_reducible refine Bel.drew ?_) | (with_reducible refine Bel.alloc ?_ _) | (with_reducible refine Bel.setNew ?_ ?_ _) | (with_reducible refine Bel.trans ?_ (by assumption)) | (focus (simp; done)) | (focus (simp; omega))))⟩
end Go.Proofs.Ytacbljfpcchbbaa
