/- The contracts of split.Split and of its reference. -/
import Derived.Test.YtchimkjbpmcpbaaSplitW
import Derived.Test.YtchimkjbpmcpbaaOwn
namespace Go.Proofs.Ytchimkjbpmcpbaa
open Go.RowKit

theorem Try.infoSpan : (Try.prog.info? 35).map (fun i => (i.zero, i.size, i.bytes)) = some (some (.agg #[.int .i64 0, .int .i64 0]), 2, 16) := by kernel_rfl

def spanCells (l : List (Int × Int)) : List Value := l.flatMap fun p => [.int .i64 p.1, .int .i64 p.2]
theorem spanCells_snoc (l : List (Int × Int)) (a b : Int) : spanCells (l ++ [(a, b)]) = spanCells l ++ [.int .i64 a, .int .i64 b] := by simp [spanCells]

def splitGo (M B : Int) : Nat → Int → Int → List (Int × Int)
  | 0, _, _ => []
  | f + 1, s, c => if c ≤ 0 then [] else (s, min c (room M B s)) :: splitGo M B f (s + min c (room M B s)) (c - min c (room M B s))

def splitL (M B s c : Int) : List (Int × Int) :=
  if limOk M B && decide (0 ≤ s ∧ 1 ≤ c ∧ s ≤ 128 ∧ c ≤ 128 - s) then splitGo M B c.toNat s c else []

theorem room_pos {M B s : Int} (h : limOk M B = true) : 1 ≤ room M B s := by
  obtain ⟨a1, a2, a3, a4⟩ : 1 ≤ M ∧ M ≤ 128 ∧ 0 ≤ B ∧ B ≤ 128 := by simpa [limOk] using h
  unfold room
  split
  · omega
  · have hm := Int.emod_lt_of_pos s (show 0 < B by omega)
    omega
theorem room_le {M B s : Int} (h : limOk M B = true) : room M B s ≤ 128 := by
  obtain ⟨a1, a2, a3, a4⟩ : 1 ≤ M ∧ M ≤ 128 ∧ 0 ≤ B ∧ B ≤ 128 := by simpa [limOk] using h
  unfold room
  split <;> omega

/-- Enough fuel is enough. -/
theorem splitGo_fuel (M B : Int) : ∀ (f : Nat) (s c : Int), limOk M B = true → c ≤ f → splitGo M B c.toNat s c = splitGo M B f s c
  | 0, s, c, _, hc => by
    have : c.toNat = 0 := by omega
    rw [this]
  | f + 1, s, c, h, hc => by
    by_cases h0 : c ≤ 0
    · have : c.toNat = 0 := by omega
      rw [this]; simp [splitGo, h0]
    · obtain ⟨k, hk⟩ : ∃ k, c.toNat = k + 1 := ⟨c.toNat - 1, by omega⟩
      have r1 := room_pos (s := s) h
      rw [hk, splitGo, splitGo, if_neg h0, if_neg h0]
      congr 1
      rw [← splitGo_fuel M B k _ _ h (by omega), ← splitGo_fuel M B f _ _ h (by omega)]

set_option maxHeartbeats 800000 in
theorem splitSplit_any (M B s c : Int) (w : World) :
    Calls Try.prog 15 #[.agg #[.int .i64 M, .int .i64 B], .int .i64 s, .int .i64 c] w fun e w' =>
      ∃ v, e = .returned v ∧ w'.ownsRow w.heap.size 35 2 v (splitL M B s c).length (spanCells (splitL M B s c)) ∧ Bel w w' := by
  have H1 := Lib.hid (splitValid_any M B)
  cases h : limOk M B
  · have HF := Lib.hid (show splitL M B s c = [] by simp [splitL, h])
    go_enter Try.func15, Try.ntmps15
    go_wp2_with (go_at_call 18; refine (H1.out _).mono ?_; rw [h]; rintro e w1 ⟨rfl, hb1⟩; have hc1 := hb1.cellAt)
    go_ret
    exact ⟨_, rfl, by rw [HF.out]; exact World.ownsRow_nil _ _ _ _, (by repeat (first | (with_reducible exact Bel.refl _) | (with_reducible assumption) | (with_reducible refine Bel.drewN ?_ _) | (with_reducible refine Bel.drew ?_) | (with_reducible refine Bel.alloc ?_ _) | (with_reducible refine Bel.setNew ?_ ?_ _) | (with_reducible refine Bel.trans ?_ (by assumption)) | (simp; done) | (simp; omega)))⟩
  · by_cases h1 : 0 ≤ s ∧ 1 ≤ c ∧ s ≤ 128 ∧ c ≤ 128 - s
    · have HF := Lib.hid (show splitL M B s c = splitGo M B c.toNat s c by simp [splitL, h, h1])
      obtain ⟨s1, c1, s2, c2⟩ := h1
      obtain ⟨i0, hi, hz0, hz1, hz2⟩ := info_parts Try.infoSpan
      go_enter Try.func15, Try.ntmps15
      go_wp2_with (go_at_call 18; refine (H1.out _).mono ?_; rw [h]; rintro e w1 ⟨rfl, hb1⟩; have hc1 := hb1.cellAt)
      have hk0 : w1.cell? ⟨w.heap.size, 0, none⟩ = some (.int .i64 M) := by rw [hc1 _ _ (by simp)]; simp [go_sem]
      have hk1 : w1.cell? ⟨w.heap.size, 1, none⟩ = some (.int .i64 B) := by rw [hc1 _ _ (by simp)]; simp [go_sem]
      have hsz : w.heap.size < w1.heap.size := by have := hb1.size; simp at this; omega
      have hbw : Bel w w1 := (by repeat (first | (with_reducible exact Bel.refl _) | (with_reducible assumption) | (with_reducible refine Bel.drewN ?_ _) | (with_reducible refine Bel.drew ?_) | (with_reducible refine Bel.alloc ?_ _) | (with_reducible refine Bel.setNew ?_ ?_ _) | (with_reducible refine Bel.trans ?_ (by assumption)) | (simp; done) | (simp; omega)))
      clear hb1 hc1 H1
      go_loopw [1, 2, 7] (fun sv cv ov wr => ∃ (s' c' : Int) (dn : List (Int × Int)), sv = .int .i64 s' ∧ cv = .int .i64 c' ∧ 0 ≤ s' ∧ 0 ≤ c' ∧ s' + c' ≤ 128 ∧ dn.length + c' ≤ 128 ∧ Hid (dn ++ splitGo M B c'.toNat s' c' = splitGo M B c.toNat s c) ∧ wr.ownsRow w1.heap.size 35 2 ov dn.length (spanCells dn) ∧ Bel w1 wr) (fun _ cv _ _ => (intOf cv).toNat)
      case atStart => exact ⟨s, c, [], rfl, rfl, s1, by omega, by omega, by simp; omega, rfl, World.ownsRow_nil _ _ _ _, Bel.refl _⟩
      case round =>
        obtain ⟨s', c', dn, rfl, rfl, p1, p2, p3, p4, HE, hown, hbr⟩ := hrel
        have HR := Lib.hid (fun w => splitRoom_any M B s' w h p1 (by omega))
        have r1 := room_pos (s := s') h
        have r2 := room_le (s := s') h
        have hr0 : wr.cell? ⟨w.heap.size, 0, none⟩ = some (.int .i64 M) := by rw [hbr.cellAt _ _ hsz]; exact hk0
        have hr1 : wr.cell? ⟨w.heap.size, 1, none⟩ = some (.int .i64 B) := by rw [hbr.cellAt _ _ hsz]; exact hk1
        by_cases hlt : 0 < c'
        · go_wp2_with (first
            | (go_at_call 34; refine (HR.out _).mono ?_; rintro e w2 ⟨rfl, hb2⟩; have hs2 := hb2.size)
            | (at_builtin; go_must (refine wpList_append_own_at _ rfl (.tmp 37) (.tmp 41) 26 rfl w1.heap.size 35 i0 _ 2 16 Try.underlying26 hi hz0 hz1 hz2 rfl (by omega) u7 _ _ rfl ((own_keep hown hb2).alloc _) ⟨w2.heap.size, 0, none⟩ 1 1 _ rfl rfl (cells_new _ [_, _] _) (by simp [Value.oneCell']) (by unfold maxLen; omega) (by omega) (by have := hbr.size; simp; omega) ?_); intro v' w3 hown' hg' _ _))
          all_goals
            go_wp2
            go_roundw
            case rel =>
              have e : (if room M B s' < c' then room M B s' else c') = min c' (room M B s') := by split <;> omega
              simp only [e] at hown' hg' ⊢
              refine ⟨_, _, dn ++ [(s', min c' (room M B s'))], rfl, rfl, by omega, by omega, by omega, by simp; omega, ?_, ?_, bel_own (Bel.trans hbr (Bel.trans hb2 ((Bel.refl _).alloc _))) ((own_keep hown hb2).alloc _) hg' (Nat.le_refl _)⟩
              · have HE' := HE.out
                rw [← HE', List.append_assoc]
                show _ = _
                congr 1
                obtain ⟨f, hf⟩ : ∃ f, c'.toNat = f + 1 := ⟨c'.toNat - 1, by omega⟩
                rw [hf, splitGo, if_neg (by omega), List.singleton_append, splitGo_fuel M B f _ _ h (by omega)]
              · rw [spanCells_snoc, List.length_append]
                exact hown'
            case measure => simp [intOf]; omega
        · go_wp2
          go_ret
          refine ⟨_, rfl, ?_, (by repeat (first | (with_reducible exact Bel.refl _) | (with_reducible assumption) | (with_reducible refine Bel.drewN ?_ _) | (with_reducible refine Bel.drew ?_) | (with_reducible refine Bel.alloc ?_ _) | (with_reducible refine Bel.setNew ?_ ?_ _) | (with_reducible refine Bel.trans ?_ (by assumption)) | (simp; done) | (simp; omega)))⟩
          obtain rfl : c' = 0 := by omega
          rw [HF.out, ← HE.out]
          simpa [splitGo] using own_mono hown (Nat.le_of_lt hsz)
    · have HF := Lib.hid (show splitL M B s c = [] by simp only [splitL]; rw [if_neg]; simp; omega)
      go_enter Try.func15, Try.ntmps15
      go_wp2_with (go_at_call 18; refine (H1.out _).mono ?_; rw [h]; rintro e w1 ⟨rfl, hb1⟩; have hc1 := hb1.cellAt)
      all_goals
        first
        | (exfalso; omega)
        | (go_ret; exact ⟨_, rfl, by rw [HF.out]; exact World.ownsRow_nil _ _ _ _, (by repeat (first | (with_reducible exact Bel.refl _) | (with_reducible assumption) | (with_reducible refine Bel.drewN ?_ _) | (with_reducible refine Bel.drew ?_) | (with_reducible refine Bel.alloc ?_ _) | (with_reducible refine Bel.setNew ?_ ?_ _) | (with_reducible refine Bel.trans ?_ (by assumption)) | (simp; done) | (simp; omega)))⟩)
end Go.Proofs.Ytchimkjbpmcpbaa
