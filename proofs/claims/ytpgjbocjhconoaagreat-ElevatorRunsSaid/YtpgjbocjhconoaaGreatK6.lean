/- Lemmas and walks that the statements share, part K6. -/
import Derived.Test.YtpgjbocjhconoaaGreatK1
import Derived.Test.YtpgjbocjhconoaaGreatK3
import Derived.Shelf.Abstract
import Derived.Laws.EntriesVeiled
import Derived.Test.YtpgjbocjhconoaaGreatK2
/- cmp.Compare, cmp.Or of two ints; fair.Pick. -/
namespace Go.Proofs.YtpgjbocjhconoaaGreat
open Go.RowKit
set_option linter.unusedSimpArgs false

def cmpI (a b : Int) : Int := if a < b then -1 else if b < a then 1 else 0

set_option maxHeartbeats 1000000 in
theorem isNaN_any (a : Int) (w : World) :
    Calls Tryz.prog 113 #[.int .i64 a] w fun e w' => e = .returned (.bool false) ∧ w = w' := by
  go_enter Tryz.func113, Tryz.ntmps113
  go_wp2
  go_ret
  exact ⟨rfl, rfl⟩

set_option maxHeartbeats 1000000 in
theorem compare_any (a b : Int) (w : World) :
    Calls Tryz.prog 105 #[.int .i64 a, .int .i64 b] w fun e w' => e = .returned (.int .i64 (cmpI a b)) ∧ w = w' := by
  by_cases h1 : a < b
  · have HF := Lib.hid (show cmpI a b = -1 by simp [cmpI, h1])
    rw [HF.out]
    go_enter Tryz.func105, Tryz.ntmps105
    go_wp2_with (go_at_call 113; refine (isNaN_any _ _).mono ?_; rintro e w' ⟨rfl, rfl⟩)
    go_ret
    exact ⟨rfl, rfl⟩
  · by_cases h2 : b < a
    · have HF := Lib.hid (show cmpI a b = 1 by simp [cmpI, h1, h2])
      rw [HF.out]
      go_enter Tryz.func105, Tryz.ntmps105
      go_wp2_with (go_at_call 113; refine (isNaN_any _ _).mono ?_; rintro e w' ⟨rfl, rfl⟩)
      go_ret
      exact ⟨rfl, rfl⟩
    · obtain rfl : a = b := by omega
      have HF := Lib.hid (show cmpI a a = 0 by simp [cmpI])
      rw [HF.out]
      go_enter Tryz.func105, Tryz.ntmps105
      go_wp2_with (go_at_call 113; refine (isNaN_any _ _).mono ?_; rintro e w' ⟨rfl, rfl⟩)
      go_ret
      exact ⟨rfl, rfl⟩

set_option maxHeartbeats 1000000 in
theorem orTwo_any (a b : Int) (B : Nat) (w : World) (h0 : w.cell? ⟨B, 0, none⟩ = some (.int .i64 a)) (h1 : w.cell? ⟨B, 1, none⟩ = some (.int .i64 b)) :
    Calls Tryz.prog 104 #[.slice (some ⟨B, 0, none⟩) 2 2] w fun e w' => e = .returned (.int .i64 (if a = 0 then b else a)) ∧ w = w' := by
  obtain ⟨r, Hr⟩ : ∃ r, Hid (r = if a = 0 then b else a) := ⟨_, rfl⟩
  rw [← Hr.out]
  go_enter Tryz.func104, Tryz.ntmps104
  go_wp2
  go_loop [8] (fun iv => ∃ i : Nat, iv = .int .i64 i ∧ i ≤ 2 ∧ Hid (0 < i → a = 0) ∧ Hid (1 < i → b = 0)) (fun iv => 2 - (intOf iv).toNat)
  case atStart => exact ⟨0, rfl, by omega, fun h => absurd h (by omega), fun h => absurd h (by omega)⟩
  case round =>
    obtain ⟨i, rfl, p1, HA, HB⟩ := hrel
    match i, p1 with
    | 0, _ =>
      clear HA HB
      by_cases ha : a = 0
      · subst ha
        go_wp2
        go_round
        case rel => exact ⟨1, rfl, by omega, Lib.hid (by simp), Lib.hid (by simp)⟩
        case measure => simp [intOf]
      · have ha' : (a == 0) = false := by simpa using ha
        have ha2 : (a != 0) = true := by simpa using ha
        have HN := Lib.hid ha
        clear ha
        go_wp2
        go_ret
        exact ⟨ret_int (by rw [Hr.out, if_neg HN.out]), rfl⟩
    | 1, _ =>
      have ha := HA.out (by omega)
      subst ha
      clear HA HB
      by_cases hb : b = 0
      · subst hb
        go_wp2
        go_round
        case rel => exact ⟨2, rfl, by omega, Lib.hid (by simp), Lib.hid (by simp)⟩
        case measure => simp [intOf]
      · have hb' : (b == 0) = false := by simpa using hb
        have hb2 : (b != 0) = true := by simpa using hb
        have HN := Lib.hid hb
        clear hb
        go_wp2
        go_ret
        exact ⟨ret_int (by rw [Hr.out]; simp), rfl⟩
    | 2, _ =>
      have ha := HA.out (by omega)
      have hb := HB.out (by omega)
      subst ha hb
      clear HA HB
      go_wp2
      go_ret
      exact ⟨ret_int (by rw [Hr.out]; simp), rfl⟩

def lessQ (a b : Qd) : Bool := decide (a.sta < b.sta ∨ (a.sta = b.sta ∧ a.b.ten < b.b.ten))
theorem lessQ_or (a b : Qd) : decide ((if cmpI a.sta b.sta = 0 then cmpI a.b.ten b.b.ten else cmpI a.sta b.sta) < 0) = lessQ a b := by
  rw [Bool.eq_iff_iff]
  simp only [lessQ, decide_eq_true_eq]
  unfold cmpI
  by_cases h1 : a.sta < b.sta
  · simp [h1]
  · by_cases h2 : b.sta < a.sta
    · simp [h1, h2]; omega
    · have : a.sta = b.sta := by omega
      by_cases h3 : a.b.ten < b.b.ten
      · simp [this, h3]
      · by_cases h4 : b.b.ten < a.b.ten
        · simp [this, h3, h4]
        · simp [this, h3, h4]
def lessAt (l : List Qd) (i j : Nat) : Bool := match l[i]?, l[j]? with
  | some a, some b => lessQ a b
  | _, _ => false
/-- The entry that is picked among the first k. -/
def pickN (l : List Qd) (may : List Bool) : Nat → Option Nat
  | 0 => none
  | k + 1 => if may[k]? = some true then (match pickN l may k with
      | none => some k
      | some b => if lessAt l k b then some k else some b) else pickN l may k
theorem pickN_lt (l : List Qd) (may : List Bool) : ∀ k b, pickN l may k = some b → b < k
  | 0, b, h => by simp [pickN] at h
  | k + 1, b, h => by
    have ih := pickN_lt l may k
    unfold pickN at h
    split at h
    · split at h
      · cases h; omega
      · rename_i b' hb'
        have := ih b' hb'
        split at h <;> cases h <;> omega
    · have := ih b h; omega

set_option maxRecDepth 100000 in
set_option maxHeartbeats 4000000 in
theorem fairPick_any (l : List Qd) (may : List Bool) (v mv : Value) (w : World) (h : Rd w v 12 l.length (qcells l)) (hm : Rd w mv 1 may.length (bcells may)) :
    Calls Tryz.prog 78 #[v, mv] w fun e w' => e = .returned (.tuple #[.int .i64 ((pickN l may l.length).getD 0 : Nat), .bool (pickN l may l.length).isSome]) ∧ Bel w w' := by
  obtain ⟨_, A, cp, rfl, hcp, hmx, hr⟩ := h
  obtain ⟨_, A', cp', rfl, hcp', hmx', hr'⟩ := hm
  unfold maxLen at hmx hmx'
  obtain ⟨n, Hn⟩ : ∃ n, Hid (n = l.length) := ⟨_, rfl⟩
  obtain ⟨m, Hm⟩ : ∃ m, Hid (m = may.length) := ⟨_, rfl⟩
  obtain ⟨R, HRes⟩ : ∃ R, Hid (R = pickN l may l.length) := ⟨_, rfl⟩
  rw [← HRes.out]
  rw [← Hn.out] at hcp hr ⊢
  rw [← Hm.out] at hcp' hr' ⊢
  have HR := Lib.hid hr
  have HR' := Lib.hid hr'
  clear hr hr'
  go_enter Tryz.func78, Tryz.ntmps78
  go_wp2
  go_loopw [6, 7, 13] (fun bv fv iv wr => ∃ (i : Nat) (o : Option Nat), bv = .int .i64 (o.getD 0 : Nat) ∧ fv = .bool o.isSome ∧ iv = .int .i64 i ∧ i ≤ n ∧ Hid (pickN l may i = o) ∧ Bel w wr) (fun _ _ iv _ => n - (intOf iv).toNat)
  case atStart => exact ⟨0, none, rfl, rfl, rfl, by omega, rfl, bI⟩
  case round =>
    obtain ⟨i, o, rfl, rfl, rfl, p1, HO, hbr⟩ := hrel
    by_cases hlt : i < n
    · obtain ⟨b, of, rfl, hlb, hcell⟩ := HR.out (by omega)
      obtain ⟨q, hq⟩ : ∃ q, l[i]? = some q := ⟨l[i]'(by have := Hn.out; omega), List.getElem?_eq_getElem _⟩
      have hrow := (row_at Qd.cells_len hcell hq).bel hbr hlb
      have HQ := Lib.hid hq
      have i1 : (i : Int) < (n : Int) := by omega
      have HC := Lib.hid hcell
      clear hcell hq
      by_cases hmi : i < m
      · obtain ⟨b', o', rfl, hlb', hcell'⟩ := HR'.out (by omega)
        obtain ⟨y, hy⟩ : ∃ y, may[i]? = some y := ⟨may[i]'(by have := Hm.out; omega), List.getElem?_eq_getElem _⟩
        have m0 : wr.cell? ⟨b', o' + i, none⟩ = some (.bool y) := by rw [hbr.cellAt _ _ hlb']; exact hcell' _ _ (bcells_at hy)
        have HY := Lib.hid hy
        have j1 : (i : Int) < (m : Int) := by omega
        clear hcell' hy
        cases y
        · have HS : Hid (pickN l may (i + 1) = o) := by show _ = _; rw [pickN, if_neg (by rw [HY.out]; simp)]; exact HO.out
          have c0 := (hrow).cell 0 rfl
          have c1 := (hrow).cell 1 rfl
          have c2 := (hrow).cell 2 rfl
          have c3 := (hrow).cell 3 rfl
          have c4 := (hrow).cell 4 rfl
          have c5 := (hrow).cell 5 rfl
          have c6 := (hrow).cell 6 rfl
          have c7 := (hrow).cell 7 rfl
          have c8 := (hrow).cell 8 rfl
          have c9 := (hrow).cell 9 rfl
          have ca := (hrow).cell 10 rfl
          have cb := (hrow).cell 11 rfl
          rw [Nat.add_zero] at c0
          clear hrow
          have lk := World.block_lt_of_cell? _ _ m0
          go_wp2
          go_roundw
          case rel => exact ⟨i + 1, o, rfl, rfl, by go_num, by omega, HS, bI⟩
          case measure => simp [intOf]; omega
        · cases o with
          | none =>
            have HS : Hid (pickN l may (i + 1) = some i) := by show _ = _; rw [pickN, if_pos HY.out, HO.out]
            obtain ⟨qb, hqb⟩ : ∃ q, l[0]? = some q := ⟨l[0]'(by have := Hn.out; omega), List.getElem?_eq_getElem _⟩
            have hrow2 := (row_at Qd.cells_len HC.out hqb).bel hbr hlb
            rw [show of + 0 * 12 = of by omega] at hrow2
            have c0 := (hrow).cell 0 rfl
            have c1 := (hrow).cell 1 rfl
            have c2 := (hrow).cell 2 rfl
            have c3 := (hrow).cell 3 rfl
            have c4 := (hrow).cell 4 rfl
            have c5 := (hrow).cell 5 rfl
            have c6 := (hrow).cell 6 rfl
            have c7 := (hrow).cell 7 rfl
            have c8 := (hrow).cell 8 rfl
            have c9 := (hrow).cell 9 rfl
            have ca := (hrow).cell 10 rfl
            have cb := (hrow).cell 11 rfl
            rw [Nat.add_zero] at c0
            have d0 := (hrow2).cell 0 rfl
            have d1 := (hrow2).cell 1 rfl
            have d2 := (hrow2).cell 2 rfl
            have d3 := (hrow2).cell 3 rfl
            have d4 := (hrow2).cell 4 rfl
            have d5 := (hrow2).cell 5 rfl
            have d6 := (hrow2).cell 6 rfl
            have d7 := (hrow2).cell 7 rfl
            have d8 := (hrow2).cell 8 rfl
            have d9 := (hrow2).cell 9 rfl
            have da := (hrow2).cell 10 rfl
            have db := (hrow2).cell 11 rfl
            rw [Nat.add_zero] at d0
            clear hrow hrow2 hqb
            have lk := World.block_lt_of_cell? _ _ m0
            have hlw : b < wr.heap.size := Nat.lt_of_lt_of_le hlb hbr.size
            have hA := (AtF.new wr 67 [.int .i64 (q).b.id, .int .i64 (q).b.ten, .int .i64 (q).b.knd, .int .i64 (q).b.sec, .int .i64 (q).b.cnt, .string (q).b.dat, .bool (q).b.fua, .slice (q).b.mA (q).b.mL (q).b.mC, .int .i64 (q).b.tim, .int .i64 (q).due, .int .i64 (q).sta, .int .i64 (q).tri]).alloc (.cells #[.int .i64 (qb).b.id, .int .i64 (qb).b.ten, .int .i64 (qb).b.knd, .int .i64 (qb).b.sec, .int .i64 (qb).b.cnt, .string (qb).b.dat, .bool (qb).b.fua, .slice (qb).b.mA (qb).b.mL (qb).b.mC, .int .i64 (qb).b.tim, .int .i64 (qb).due, .int .i64 (qb).sta, .int .i64 (qb).tri] 67)
            have hB := AtF.new (wr.alloc (.cells #[.int .i64 (q).b.id, .int .i64 (q).b.ten, .int .i64 (q).b.knd, .int .i64 (q).b.sec, .int .i64 (q).b.cnt, .string (q).b.dat, .bool (q).b.fua, .slice (q).b.mA (q).b.mL (q).b.mC, .int .i64 (q).b.tim, .int .i64 (q).due, .int .i64 (q).sta, .int .i64 (q).tri] 67)) 67 [.int .i64 (qb).b.id, .int .i64 (qb).b.ten, .int .i64 (qb).b.knd, .int .i64 (qb).b.sec, .int .i64 (qb).b.cnt, .string (qb).b.dat, .bool (qb).b.fua, .slice (qb).b.mA (qb).b.mL (qb).b.mC, .int .i64 (qb).b.tim, .int .i64 (qb).due, .int .i64 (qb).sta, .int .i64 (qb).tri]
            have hbW : Bel w ((wr.alloc (.cells #[.int .i64 (q).b.id, .int .i64 (q).b.ten, .int .i64 (q).b.knd, .int .i64 (q).b.sec, .int .i64 (q).b.cnt, .string (q).b.dat, .bool (q).b.fua, .slice (q).b.mA (q).b.mL (q).b.mC, .int .i64 (q).b.tim, .int .i64 (q).due, .int .i64 (q).sta, .int .i64 (q).tri] 67)).alloc (.cells #[.int .i64 (qb).b.id, .int .i64 (qb).b.ten, .int .i64 (qb).b.knd, .int .i64 (qb).b.sec, .int .i64 (qb).b.cnt, .string (qb).b.dat, .bool (qb).b.fua, .slice (qb).b.mA (qb).b.mL (qb).b.mC, .int .i64 (qb).b.tim, .int .i64 (qb).due, .int .i64 (qb).sta, .int .i64 (qb).tri] 67)) := (hbr.alloc _).alloc _
            simp only [World.size_alloc] at hB
            go_wp2_with fail
            clear c0 c1 c2 c3 c4 c5 c6 c7 c8 c9 ca cb
            clear d0 d1 d2 d3 d4 d5 d6 d7 d8 d9 da db
            clear m0 lk
            generalize (wr.alloc (.cells #[.int .i64 (q).b.id, .int .i64 (q).b.ten, .int .i64 (q).b.knd, .int .i64 (q).b.sec, .int .i64 (q).b.cnt, .string (q).b.dat, .bool (q).b.fua, .slice (q).b.mA (q).b.mL (q).b.mC, .int .i64 (q).b.tim, .int .i64 (q).due, .int .i64 (q).sta, .int .i64 (q).tri] 67)).alloc (.cells #[.int .i64 (qb).b.id, .int .i64 (qb).b.ten, .int .i64 (qb).b.knd, .int .i64 (qb).b.sec, .int .i64 (qb).b.cnt, .string (qb).b.dat, .bool (qb).b.fua, .slice (qb).b.mA (qb).b.mL (qb).b.mC, .int .i64 (qb).b.tim, .int .i64 (qb).due, .int .i64 (qb).sta, .int .i64 (qb).tri] 67) = W at *
            refine wp_region_lex [7, 14, 15, 16] 19 (by kernel_rfl) (by kernel_rfl) ?_
            simp only [List.take_succ_cons, List.take_zero, List.drop_succ_cons, List.drop_zero]
            with_reducible refine lex_seg 7 _ _ _ _ (by kernel_rfl) ?_
            simp only [List.take_succ_cons, List.take_zero, List.drop_succ_cons, List.drop_zero]
            try simp only [Act.put, List.setIfInBounds_toArray, List.set_cons_succ, List.set_cons_zero]
            repeat (go_big_quiet_step (fail))
            with_reducible refine wpQuiet_nil ?_
            with_reducible refine lex_skip (by kernel_rfl) ?_
            try simp only [Act.put, List.setIfInBounds_toArray, List.set_cons_succ, List.set_cons_zero]
            with_reducible refine lex_seg 6 _ _ _ _ (by kernel_rfl) ?_
            simp only [List.take_succ_cons, List.take_zero, List.drop_succ_cons, List.drop_zero]
            try simp only [Act.put, List.setIfInBounds_toArray, List.set_cons_succ, List.set_cons_zero]
            repeat (go_big_quiet_step (fail))
            with_reducible refine wpQuiet_nil ?_
            with_reducible refine lex_skip (by kernel_rfl) ?_
            try simp only [Act.put, List.setIfInBounds_toArray, List.set_cons_succ, List.set_cons_zero]
            with_reducible refine lex_skip (by kernel_rfl) ?_
            try simp only [Act.put, List.setIfInBounds_toArray, List.set_cons_succ, List.set_cons_zero]
            with_reducible refine lex_skip (by kernel_rfl) ?_
            try simp only [Act.put, List.setIfInBounds_toArray, List.set_cons_succ, List.set_cons_zero]
            with_reducible refine lex_seg 2 _ _ _ _ (by kernel_rfl) ?_
            simp only [List.take_succ_cons, List.take_zero, List.drop_succ_cons, List.drop_zero]
            try simp only [Act.put, List.setIfInBounds_toArray, List.set_cons_succ, List.set_cons_zero]
            repeat (go_big_quiet_step (fail))
            with_reducible refine wpQuiet_nil ?_
            with_reducible refine lex_nil ?_
            go_wp2
            go_roundw
            case rel => exact ⟨i + 1, some i, rfl, rfl, by go_num, by omega, HS, bI⟩
            case measure => simp [intOf]; omega
          | some k =>
            have hk := pickN_lt l may i k HO.out
            obtain ⟨qb, hqb⟩ : ∃ q, l[k]? = some q := ⟨l[k]'(by have := Hn.out; omega), List.getElem?_eq_getElem _⟩
            have hle : lessAt l i k = lessQ q qb := by unfold lessAt; rw [HQ.out, hqb]
            have hor := lessQ_or q qb
            obtain ⟨r, HR5⟩ : ∃ r, Hid (r = if cmpI q.sta qb.sta = 0 then cmpI q.b.ten qb.b.ten else cmpI q.sta qb.sta) := ⟨_, rfl⟩
            rw [← HR5.out] at hor
            have i3 : (k : Int) < (n : Int) := by omega
            cases hz : lessQ q qb
            · rw [hz] at hle hor
              have HS : Hid (pickN l may (i + 1) = some k) := by show _ = _; rw [pickN, if_pos HY.out, HO.out]; simp [hle]
              have hr5 : 0 ≤ r := by simp at hor; exact hor
              clear hle hor hz
              have hrow2 := (row_at Qd.cells_len HC.out hqb).bel hbr hlb
              rw [show of + k * 12 = of + k * 12 from rfl] at hrow2
              have c0 := (hrow).cell 0 rfl
              have c1 := (hrow).cell 1 rfl
              have c2 := (hrow).cell 2 rfl
              have c3 := (hrow).cell 3 rfl
              have c4 := (hrow).cell 4 rfl
              have c5 := (hrow).cell 5 rfl
              have c6 := (hrow).cell 6 rfl
              have c7 := (hrow).cell 7 rfl
              have c8 := (hrow).cell 8 rfl
              have c9 := (hrow).cell 9 rfl
              have ca := (hrow).cell 10 rfl
              have cb := (hrow).cell 11 rfl
              rw [Nat.add_zero] at c0
              have d0 := (hrow2).cell 0 rfl
              have d1 := (hrow2).cell 1 rfl
              have d2 := (hrow2).cell 2 rfl
              have d3 := (hrow2).cell 3 rfl
              have d4 := (hrow2).cell 4 rfl
              have d5 := (hrow2).cell 5 rfl
              have d6 := (hrow2).cell 6 rfl
              have d7 := (hrow2).cell 7 rfl
              have d8 := (hrow2).cell 8 rfl
              have d9 := (hrow2).cell 9 rfl
              have da := (hrow2).cell 10 rfl
              have db := (hrow2).cell 11 rfl
              rw [Nat.add_zero] at d0
              clear hrow hrow2 hqb
              have lk := World.block_lt_of_cell? _ _ m0
              have hlw : b < wr.heap.size := Nat.lt_of_lt_of_le hlb hbr.size
              have hA := (AtF.new wr 67 [.int .i64 (q).b.id, .int .i64 (q).b.ten, .int .i64 (q).b.knd, .int .i64 (q).b.sec, .int .i64 (q).b.cnt, .string (q).b.dat, .bool (q).b.fua, .slice (q).b.mA (q).b.mL (q).b.mC, .int .i64 (q).b.tim, .int .i64 (q).due, .int .i64 (q).sta, .int .i64 (q).tri]).alloc (.cells #[.int .i64 (qb).b.id, .int .i64 (qb).b.ten, .int .i64 (qb).b.knd, .int .i64 (qb).b.sec, .int .i64 (qb).b.cnt, .string (qb).b.dat, .bool (qb).b.fua, .slice (qb).b.mA (qb).b.mL (qb).b.mC, .int .i64 (qb).b.tim, .int .i64 (qb).due, .int .i64 (qb).sta, .int .i64 (qb).tri] 67)
              have hB := AtF.new (wr.alloc (.cells #[.int .i64 (q).b.id, .int .i64 (q).b.ten, .int .i64 (q).b.knd, .int .i64 (q).b.sec, .int .i64 (q).b.cnt, .string (q).b.dat, .bool (q).b.fua, .slice (q).b.mA (q).b.mL (q).b.mC, .int .i64 (q).b.tim, .int .i64 (q).due, .int .i64 (q).sta, .int .i64 (q).tri] 67)) 67 [.int .i64 (qb).b.id, .int .i64 (qb).b.ten, .int .i64 (qb).b.knd, .int .i64 (qb).b.sec, .int .i64 (qb).b.cnt, .string (qb).b.dat, .bool (qb).b.fua, .slice (qb).b.mA (qb).b.mL (qb).b.mC, .int .i64 (qb).b.tim, .int .i64 (qb).due, .int .i64 (qb).sta, .int .i64 (qb).tri]
              have hbW : Bel w ((wr.alloc (.cells #[.int .i64 (q).b.id, .int .i64 (q).b.ten, .int .i64 (q).b.knd, .int .i64 (q).b.sec, .int .i64 (q).b.cnt, .string (q).b.dat, .bool (q).b.fua, .slice (q).b.mA (q).b.mL (q).b.mC, .int .i64 (q).b.tim, .int .i64 (q).due, .int .i64 (q).sta, .int .i64 (q).tri] 67)).alloc (.cells #[.int .i64 (qb).b.id, .int .i64 (qb).b.ten, .int .i64 (qb).b.knd, .int .i64 (qb).b.sec, .int .i64 (qb).b.cnt, .string (qb).b.dat, .bool (qb).b.fua, .slice (qb).b.mA (qb).b.mL (qb).b.mC, .int .i64 (qb).b.tim, .int .i64 (qb).due, .int .i64 (qb).sta, .int .i64 (qb).tri] 67)) := (hbr.alloc _).alloc _
              simp only [World.size_alloc] at hB
              go_wp2_with fail
              clear c0 c1 c2 c3 c4 c5 c6 c7 c8 c9 ca cb
              clear d0 d1 d2 d3 d4 d5 d6 d7 d8 d9 da db
              clear m0 lk
              generalize (wr.alloc (.cells #[.int .i64 (q).b.id, .int .i64 (q).b.ten, .int .i64 (q).b.knd, .int .i64 (q).b.sec, .int .i64 (q).b.cnt, .string (q).b.dat, .bool (q).b.fua, .slice (q).b.mA (q).b.mL (q).b.mC, .int .i64 (q).b.tim, .int .i64 (q).due, .int .i64 (q).sta, .int .i64 (q).tri] 67)).alloc (.cells #[.int .i64 (qb).b.id, .int .i64 (qb).b.ten, .int .i64 (qb).b.knd, .int .i64 (qb).b.sec, .int .i64 (qb).b.cnt, .string (qb).b.dat, .bool (qb).b.fua, .slice (qb).b.mA (qb).b.mL (qb).b.mC, .int .i64 (qb).b.tim, .int .i64 (qb).due, .int .i64 (qb).sta, .int .i64 (qb).tri] 67) = W at *
              have a1 := hA.1.2 1 _ rfl
              have a2 := hA.1.2 10 _ rfl
              have b1 := hB.1.2 1 _ rfl
              have b2 := hB.1.2 10 _ rfl
              have rg0 := fun d os => cell_regrown a1 d os
              have rg1 := fun d os => cell_regrown a2 d os
              have rg2 := fun d os => cell_regrown b1 d os
              have rg3 := fun d os => cell_regrown b2 d os
              refine wp_region_lex [7, 14, 15, 16] 19 (by kernel_rfl) (by kernel_rfl) ?_
              simp only [List.take_succ_cons, List.take_zero, List.drop_succ_cons, List.drop_zero]
              with_reducible refine lex_seg 7 _ _ _ _ (by kernel_rfl) ?_
              simp only [List.take_succ_cons, List.take_zero, List.drop_succ_cons, List.drop_zero]
              try simp only [Act.put, List.setIfInBounds_toArray, List.set_cons_succ, List.set_cons_zero]
              repeat (go_big_quiet_step (fail))
              with_reducible refine wpQuiet_nil ?_
              refine lex_call 105 rfl rfl (by simp [go_sem]; rfl) ?_
              refine (compare_any q.sta qb.sta _).mono ?_; rintro e w1 ⟨rfl, rfl⟩
              refine ⟨_, rfl, Bel.refl _, ?_⟩
              with_reducible refine lex_seg 6 _ _ _ _ (by kernel_rfl) ?_
              simp only [List.take_succ_cons, List.take_zero, List.drop_succ_cons, List.drop_zero]
              try simp only [Act.put, List.setIfInBounds_toArray, List.set_cons_succ, List.set_cons_zero]
              repeat (go_big_quiet_step (fail))
              with_reducible refine wpQuiet_nil ?_
              refine lex_call 105 rfl rfl (by simp [go_sem]; rfl) ?_
              refine (compare_any q.b.ten qb.b.ten _).mono ?_; rintro e w2 ⟨rfl, rfl⟩
              refine ⟨_, rfl, Bel.refl _, ?_⟩
              try simp only [Act.put, List.setIfInBounds_toArray, List.set_cons_succ, List.set_cons_zero]
              refine lex_made rfl rfl (by simp [go_sem]; exact ⟨rfl, rfl⟩) (Bel.alloc (Bel.refl _) _) ?_
              try simp only [Act.put, List.setIfInBounds_toArray, List.set_cons_succ, List.set_cons_zero]
              refine lex_call 104 rfl rfl (by simp [go_sem]; rfl) ?_
              refine (orTwo_any (cmpI q.sta qb.sta) (cmpI q.b.ten qb.b.ten) W.heap.size _ (by simp [go_sem]) (by simp [go_sem])).mono ?_; rw [← HR5.out]; rintro e w7 ⟨rfl, rfl⟩
              refine ⟨_, rfl, Bel.refl _, ?_⟩
              with_reducible refine lex_seg 2 _ _ _ _ (by kernel_rfl) ?_
              simp only [List.take_succ_cons, List.take_zero, List.drop_succ_cons, List.drop_zero]
              try simp only [Act.put, List.setIfInBounds_toArray, List.set_cons_succ, List.set_cons_zero]
              repeat (go_big_quiet_step (fail))
              with_reducible refine wpQuiet_nil ?_
              with_reducible refine lex_nil ?_
              clear rg0 rg1 rg2 rg3
              go_wp2
              go_roundw
              case rel => exact ⟨i + 1, some k, rfl, rfl, by go_num, by omega, HS, bI⟩
              case measure => simp [intOf]; omega
            · rw [hz] at hle hor
              have HS : Hid (pickN l may (i + 1) = some i) := by show _ = _; rw [pickN, if_pos HY.out, HO.out]; simp [hle]
              have hr5 : r < 0 := by simpa using hor
              clear hle hor hz
              have hrow2 := (row_at Qd.cells_len HC.out hqb).bel hbr hlb
              rw [show of + k * 12 = of + k * 12 from rfl] at hrow2
              have c0 := (hrow).cell 0 rfl
              have c1 := (hrow).cell 1 rfl
              have c2 := (hrow).cell 2 rfl
              have c3 := (hrow).cell 3 rfl
              have c4 := (hrow).cell 4 rfl
              have c5 := (hrow).cell 5 rfl
              have c6 := (hrow).cell 6 rfl
              have c7 := (hrow).cell 7 rfl
              have c8 := (hrow).cell 8 rfl
              have c9 := (hrow).cell 9 rfl
              have ca := (hrow).cell 10 rfl
              have cb := (hrow).cell 11 rfl
              rw [Nat.add_zero] at c0
              have d0 := (hrow2).cell 0 rfl
              have d1 := (hrow2).cell 1 rfl
              have d2 := (hrow2).cell 2 rfl
              have d3 := (hrow2).cell 3 rfl
              have d4 := (hrow2).cell 4 rfl
              have d5 := (hrow2).cell 5 rfl
              have d6 := (hrow2).cell 6 rfl
              have d7 := (hrow2).cell 7 rfl
              have d8 := (hrow2).cell 8 rfl
              have d9 := (hrow2).cell 9 rfl
              have da := (hrow2).cell 10 rfl
              have db := (hrow2).cell 11 rfl
              rw [Nat.add_zero] at d0
              clear hrow hrow2 hqb
              have lk := World.block_lt_of_cell? _ _ m0
              have hlw : b < wr.heap.size := Nat.lt_of_lt_of_le hlb hbr.size
              have hA := (AtF.new wr 67 [.int .i64 (q).b.id, .int .i64 (q).b.ten, .int .i64 (q).b.knd, .int .i64 (q).b.sec, .int .i64 (q).b.cnt, .string (q).b.dat, .bool (q).b.fua, .slice (q).b.mA (q).b.mL (q).b.mC, .int .i64 (q).b.tim, .int .i64 (q).due, .int .i64 (q).sta, .int .i64 (q).tri]).alloc (.cells #[.int .i64 (qb).b.id, .int .i64 (qb).b.ten, .int .i64 (qb).b.knd, .int .i64 (qb).b.sec, .int .i64 (qb).b.cnt, .string (qb).b.dat, .bool (qb).b.fua, .slice (qb).b.mA (qb).b.mL (qb).b.mC, .int .i64 (qb).b.tim, .int .i64 (qb).due, .int .i64 (qb).sta, .int .i64 (qb).tri] 67)
              have hB := AtF.new (wr.alloc (.cells #[.int .i64 (q).b.id, .int .i64 (q).b.ten, .int .i64 (q).b.knd, .int .i64 (q).b.sec, .int .i64 (q).b.cnt, .string (q).b.dat, .bool (q).b.fua, .slice (q).b.mA (q).b.mL (q).b.mC, .int .i64 (q).b.tim, .int .i64 (q).due, .int .i64 (q).sta, .int .i64 (q).tri] 67)) 67 [.int .i64 (qb).b.id, .int .i64 (qb).b.ten, .int .i64 (qb).b.knd, .int .i64 (qb).b.sec, .int .i64 (qb).b.cnt, .string (qb).b.dat, .bool (qb).b.fua, .slice (qb).b.mA (qb).b.mL (qb).b.mC, .int .i64 (qb).b.tim, .int .i64 (qb).due, .int .i64 (qb).sta, .int .i64 (qb).tri]
              have hbW : Bel w ((wr.alloc (.cells #[.int .i64 (q).b.id, .int .i64 (q).b.ten, .int .i64 (q).b.knd, .int .i64 (q).b.sec, .int .i64 (q).b.cnt, .string (q).b.dat, .bool (q).b.fua, .slice (q).b.mA (q).b.mL (q).b.mC, .int .i64 (q).b.tim, .int .i64 (q).due, .int .i64 (q).sta, .int .i64 (q).tri] 67)).alloc (.cells #[.int .i64 (qb).b.id, .int .i64 (qb).b.ten, .int .i64 (qb).b.knd, .int .i64 (qb).b.sec, .int .i64 (qb).b.cnt, .string (qb).b.dat, .bool (qb).b.fua, .slice (qb).b.mA (qb).b.mL (qb).b.mC, .int .i64 (qb).b.tim, .int .i64 (qb).due, .int .i64 (qb).sta, .int .i64 (qb).tri] 67)) := (hbr.alloc _).alloc _
              simp only [World.size_alloc] at hB
              go_wp2_with fail
              clear c0 c1 c2 c3 c4 c5 c6 c7 c8 c9 ca cb
              clear d0 d1 d2 d3 d4 d5 d6 d7 d8 d9 da db
              clear m0 lk
              generalize (wr.alloc (.cells #[.int .i64 (q).b.id, .int .i64 (q).b.ten, .int .i64 (q).b.knd, .int .i64 (q).b.sec, .int .i64 (q).b.cnt, .string (q).b.dat, .bool (q).b.fua, .slice (q).b.mA (q).b.mL (q).b.mC, .int .i64 (q).b.tim, .int .i64 (q).due, .int .i64 (q).sta, .int .i64 (q).tri] 67)).alloc (.cells #[.int .i64 (qb).b.id, .int .i64 (qb).b.ten, .int .i64 (qb).b.knd, .int .i64 (qb).b.sec, .int .i64 (qb).b.cnt, .string (qb).b.dat, .bool (qb).b.fua, .slice (qb).b.mA (qb).b.mL (qb).b.mC, .int .i64 (qb).b.tim, .int .i64 (qb).due, .int .i64 (qb).sta, .int .i64 (qb).tri] 67) = W at *
              have a1 := hA.1.2 1 _ rfl
              have a2 := hA.1.2 10 _ rfl
              have b1 := hB.1.2 1 _ rfl
              have b2 := hB.1.2 10 _ rfl
              have rg0 := fun d os => cell_regrown a1 d os
              have rg1 := fun d os => cell_regrown a2 d os
              have rg2 := fun d os => cell_regrown b1 d os
              have rg3 := fun d os => cell_regrown b2 d os
              refine wp_region_lex [7, 14, 15, 16] 19 (by kernel_rfl) (by kernel_rfl) ?_
              simp only [List.take_succ_cons, List.take_zero, List.drop_succ_cons, List.drop_zero]
              with_reducible refine lex_seg 7 _ _ _ _ (by kernel_rfl) ?_
              simp only [List.take_succ_cons, List.take_zero, List.drop_succ_cons, List.drop_zero]
              try simp only [Act.put, List.setIfInBounds_toArray, List.set_cons_succ, List.set_cons_zero]
              repeat (go_big_quiet_step (fail))
              with_reducible refine wpQuiet_nil ?_
              refine lex_call 105 rfl rfl (by simp [go_sem]; rfl) ?_
              refine (compare_any q.sta qb.sta _).mono ?_; rintro e w1 ⟨rfl, rfl⟩
              refine ⟨_, rfl, Bel.refl _, ?_⟩
              with_reducible refine lex_seg 6 _ _ _ _ (by kernel_rfl) ?_
              simp only [List.take_succ_cons, List.take_zero, List.drop_succ_cons, List.drop_zero]
              try simp only [Act.put, List.setIfInBounds_toArray, List.set_cons_succ, List.set_cons_zero]
              repeat (go_big_quiet_step (fail))
              with_reducible refine wpQuiet_nil ?_
              refine lex_call 105 rfl rfl (by simp [go_sem]; rfl) ?_
              refine (compare_any q.b.ten qb.b.ten _).mono ?_; rintro e w2 ⟨rfl, rfl⟩
              refine ⟨_, rfl, Bel.refl _, ?_⟩
              try simp only [Act.put, List.setIfInBounds_toArray, List.set_cons_succ, List.set_cons_zero]
              refine lex_made rfl rfl (by simp [go_sem]; exact ⟨rfl, rfl⟩) (Bel.alloc (Bel.refl _) _) ?_
              try simp only [Act.put, List.setIfInBounds_toArray, List.set_cons_succ, List.set_cons_zero]
              refine lex_call 104 rfl rfl (by simp [go_sem]; rfl) ?_
              refine (orTwo_any (cmpI q.sta qb.sta) (cmpI q.b.ten qb.b.ten) W.heap.size _ (by simp [go_sem]) (by simp [go_sem])).mono ?_; rw [← HR5.out]; rintro e w7 ⟨rfl, rfl⟩
              refine ⟨_, rfl, Bel.refl _, ?_⟩
              with_reducible refine lex_seg 2 _ _ _ _ (by kernel_rfl) ?_
              simp only [List.take_succ_cons, List.take_zero, List.drop_succ_cons, List.drop_zero]
              try simp only [Act.put, List.setIfInBounds_toArray, List.set_cons_succ, List.set_cons_zero]
              repeat (go_big_quiet_step (fail))
              with_reducible refine wpQuiet_nil ?_
              with_reducible refine lex_nil ?_
              clear rg0 rg1 rg2 rg3
              go_wp2
              go_roundw
              case rel => exact ⟨i + 1, some i, rfl, rfl, by go_num, by omega, HS, bI⟩
              case measure => simp [intOf]; omega
      · have j1 : (m : Int) ≤ (i : Int) := by omega
        have HS : Hid (pickN l may (i + 1) = o) := by show _ = _; rw [pickN, if_neg (by rw [List.getElem?_eq_none (by have := Hm.out; omega)]; simp)]; exact HO.out
        have c0 := (hrow).cell 0 rfl
        have c1 := (hrow).cell 1 rfl
        have c2 := (hrow).cell 2 rfl
        have c3 := (hrow).cell 3 rfl
        have c4 := (hrow).cell 4 rfl
        have c5 := (hrow).cell 5 rfl
        have c6 := (hrow).cell 6 rfl
        have c7 := (hrow).cell 7 rfl
        have c8 := (hrow).cell 8 rfl
        have c9 := (hrow).cell 9 rfl
        have ca := (hrow).cell 10 rfl
        have cb := (hrow).cell 11 rfl
        rw [Nat.add_zero] at c0
        clear hrow
        go_wp2
        go_roundw
        case rel => exact ⟨i + 1, o, rfl, rfl, by go_num, by omega, HS, bI⟩
        case measure => simp [intOf]; omega
    · have i2 : decide ((i : Int) < (n : Int)) = false := by simp; omega
      have i1 : (n : Int) ≤ (i : Int) := by omega
      have HE : Hid (R = o) := by show _ = _; rw [HRes.out, ← HO.out]; congr 1; have := Hn.out; omega
      have hE := HE.out
      subst hE
      go_wp2
      go_ret2
      exact ⟨rfl, bI⟩
end Go.Proofs.YtpgjbocjhconoaaGreat

/- deadline.Blocked. -/
namespace Go.Proofs.YtpgjbocjhconoaaGreat
open Go.RowKit Go.Maps
set_option linter.unusedSimpArgs false

set_option maxHeartbeats 2000000 in
theorem dlHas_any (A : Option Addr) (n c : Nat) (i : Int) (w : World) :
    Calls Tryz.prog 76 #[.slice A n c, .int .i64 i] w fun e w' => e = .returned (.bool (decide (0 ≤ i ∧ i < (n : Int)))) ∧ w = w' := by
  obtain ⟨V, HV⟩ : ∃ V, Hid (V = decide (0 ≤ i ∧ i < (n : Int))) := ⟨_, rfl⟩
  rw [← HV.out]
  by_cases h0 : 0 ≤ i
  · by_cases h1 : i < (n : Int)
    · go_enter Tryz.func76, Tryz.ntmps76
      go_wp2
      go_ret
      exact ⟨ret_bool (by rw [HV.out]; simp [h0, h1]), rfl⟩
    · go_enter Tryz.func76, Tryz.ntmps76
      go_wp2
      go_ret
      exact ⟨ret_bool (by rw [HV.out]; simp [h1]), rfl⟩
  · go_enter Tryz.func76, Tryz.ntmps76
    go_wp2
    go_ret
    exact ⟨ret_bool (by rw [HV.out]; simp; omega), rfl⟩

theorem any_take_succ {α : Type} {L : List α} {p : α → Bool} {j : Nat} {x : α} (h : L[j]? = some x) : (L.take (j + 1)).any p = ((L.take j).any p || p x) := by
  rw [List.take_add_one, h, List.any_append]
  simp

set_option maxRecDepth 100000 in
set_option maxHeartbeats 4000000 in
theorem dlBlocked_any (L : List QM) (i : Int) (B : List BM) (v bv : Value) (w : World) (hv : QL w v L) (hb : BL w bv B) :
    Calls Tryz.prog 38 #[v, .int .i64 i, bv] w fun e w' => e = .returned (.bool (blk L i B)) ∧ Bel w w' := by
  obtain ⟨A, c, rfl, hc1, hc2⟩ := hv.form
  obtain ⟨A', c', rfl, hc1', hc2'⟩ := hb.form
  obtain ⟨n, Hn⟩ : ∃ n, Hid (n = L.length) := ⟨_, rfl⟩
  obtain ⟨n', Hn'⟩ : ∃ n', Hid (n' = B.length) := ⟨_, rfl⟩
  obtain ⟨V, HV⟩ : ∃ V, Hid (V = blk L i B) := ⟨_, rfl⟩
  rw [← HV.out]
  rw [← Hn.out] at hc1 ⊢
  rw [← Hn'.out] at hc1' ⊢
  unfold maxLen at hc2 hc2'
  by_cases hi : 0 ≤ i ∧ i < (n : Int)
  · obtain ⟨k, rfl⟩ : ∃ k : Nat, i = (k : Int) := ⟨i.toNat, by omega⟩
    have hkn : k < n := by omega
    have hkn2 : (k : Int) < (n : Int) := by omega
    have hkc : k ≤ c := by omega
    have hd : decide (0 ≤ (k : Int) ∧ (k : Int) < (n : Int)) = true := by simpa using hi
    obtain ⟨y, hy⟩ : ∃ y, L[k]? = some y := ⟨L[k]'(by have := Hn.out; omega), List.getElem?_eq_getElem _⟩
    have HVk : Hid (V = ((L.take k).any (fun x => confB x.bm y.bm) || B.any fun x => confB x y.bm)) := by
      show _ = _
      rw [HV.out, blk, if_pos (by omega), Int.toNat_natCast, blkN, hy]
    have HD := Lib.hid hd
    clear hi hd HV
    go_enter Tryz.func38, Tryz.ntmps38
    go_wp2_with fail
    refine (dlHas_any A n c _ _).mono ?_; rw [HD.out]; rintro e w1 ⟨rfl, rfl⟩
    go_wp2
    have HAT := Lib.hid (fun j x (hj : L[j]? = some x) => hv.at2 hj hy)
    have HYT := Lib.hid (hv.at hy)
    have HBT := Lib.hid (fun j x (hj : B[j]? = some x) => hb.at hj)
    rw [← Hn.out] at HAT HYT
    rw [← Hn'.out] at HBT
    clear hv hb
    go_loopw [19] (fun jv wr => ∃ j : Nat, jv = .int .i64 j ∧ j ≤ k ∧ Hid ((L.take j).any (fun x => confB x.bm y.bm) = false) ∧ Bel w wr) (fun jv _ => k - (intOf jv).toNat)
    case atStart => exact ⟨0, rfl, by omega, by simp [Hid], bI⟩
    case round =>
      obtain ⟨j, rfl, j1, HA, hbr⟩ := hrel
      by_cases hjk : j < k
      · obtain ⟨x, hx⟩ : ∃ x, L[j]? = some x := ⟨L[j]'(by have := Hn.out; omega), List.getElem?_eq_getElem _⟩
        obtain ⟨b, o, c9, hX, hY⟩ := HAT.out j x hx
        have hf := hX.form
        simp only [Value.slice.injEq] at hf
        obtain ⟨rfl, _, rfl⟩ := hf
        have HX := Lib.hid hx
        have HL := Lib.hid (show j < L.length from (List.getElem?_eq_some_iff.1 hx).1)
        have HA2 := Lib.hid (any_take_succ (p := fun x => confB x.bm y.bm) hx)
        have hrX := hX.row.bel hbr hX.lt
        have hrY := hY.row.bel hbr hX.lt
        have hmX := hX.mem
        have hmY := hY.mem
        have jk : (j : Int) < (k : Int) := by omega
        have hlt := Nat.lt_of_lt_of_le hX.lt hbr.size
        have q0 := (hrX).cell 0 rfl
        have q1 := (hrX).cell 1 rfl
        have q2 := (hrX).cell 2 rfl
        have q3 := (hrX).cell 3 rfl
        have q4 := (hrX).cell 4 rfl
        have q5 := (hrX).cell 5 rfl
        have q6 := (hrX).cell 6 rfl
        have q7 := (hrX).cell 7 rfl
        have q8 := (hrX).cell 8 rfl
        have q9 := (hrX).cell 9 rfl
        have qa := (hrX).cell 10 rfl
        have qb := (hrX).cell 11 rfl
        rw [Nat.add_zero] at q0
        have hbx := AtF.new wr 67 [.int .i64 (x.q).b.id, .int .i64 (x.q).b.ten, .int .i64 (x.q).b.knd, .int .i64 (x.q).b.sec, .int .i64 (x.q).b.cnt, .string (x.q).b.dat, .bool (x.q).b.fua, .slice (x.q).b.mA (x.q).b.mL (x.q).b.mC, .int .i64 (x.q).b.tim, .int .i64 (x.q).due, .int .i64 (x.q).sta, .int .i64 (x.q).tri]
        have hbW : Bel w (wr.alloc (.cells #[.int .i64 (x.q).b.id, .int .i64 (x.q).b.ten, .int .i64 (x.q).b.knd, .int .i64 (x.q).b.sec, .int .i64 (x.q).b.cnt, .string (x.q).b.dat, .bool (x.q).b.fua, .slice (x.q).b.mA (x.q).b.mL (x.q).b.mC, .int .i64 (x.q).b.tim, .int .i64 (x.q).due, .int .i64 (x.q).sta, .int .i64 (x.q).tri] 67)) := hbr.alloc _
        have hrW := hrY.bel ((Bel.refl wr).alloc (.cells #[.int .i64 (x.q).b.id, .int .i64 (x.q).b.ten, .int .i64 (x.q).b.knd, .int .i64 (x.q).b.sec, .int .i64 (x.q).b.cnt, .string (x.q).b.dat, .bool (x.q).b.fua, .slice (x.q).b.mA (x.q).b.mL (x.q).b.mC, .int .i64 (x.q).b.tim, .int .i64 (x.q).due, .int .i64 (x.q).sta, .int .i64 (x.q).tri] 67)) hlt
        clear hX hY hx hrX hrY
        go_wp2_with fail
        clear q0 q1 q2 q3 q4 q5 q6 q7 q8 q9 qa qb
        generalize wr.alloc (.cells #[.int .i64 (x.q).b.id, .int .i64 (x.q).b.ten, .int .i64 (x.q).b.knd, .int .i64 (x.q).b.sec, .int .i64 (x.q).b.cnt, .string (x.q).b.dat, .bool (x.q).b.fua, .slice (x.q).b.mA (x.q).b.mL (x.q).b.mC, .int .i64 (x.q).b.tim, .int .i64 (x.q).due, .int .i64 (x.q).sta, .int .i64 (x.q).tri] 67) = W at *
        have p0 := (hrW).cell 0 rfl
        have p1 := (hrW).cell 1 rfl
        have p2 := (hrW).cell 2 rfl
        have p3 := (hrW).cell 3 rfl
        have p4 := (hrW).cell 4 rfl
        have p5 := (hrW).cell 5 rfl
        have p6 := (hrW).cell 6 rfl
        have p7 := (hrW).cell 7 rfl
        have p8 := (hrW).cell 8 rfl
        rw [Nat.add_zero] at p0
        have q0 := (hbx).1.2 0 _ rfl
        have q1 := (hbx).1.2 1 _ rfl
        have q2 := (hbx).1.2 2 _ rfl
        have q3 := (hbx).1.2 3 _ rfl
        have q4 := (hbx).1.2 4 _ rfl
        have q5 := (hbx).1.2 5 _ rfl
        have q6 := (hbx).1.2 6 _ rfl
        have q7 := (hbx).1.2 7 _ rfl
        have q8 := (hbx).1.2 8 _ rfl
        have r0 := fun d os => cell_regrown p0 d os
        have r1 := fun d os => cell_regrown p1 d os
        have r2 := fun d os => cell_regrown p2 d os
        have r3 := fun d os => cell_regrown p3 d os
        have r4 := fun d os => cell_regrown p4 d os
        have r5 := fun d os => cell_regrown p5 d os
        have r6 := fun d os => cell_regrown p6 d os
        have r7 := fun d os => cell_regrown p7 d os
        have r8 := fun d os => cell_regrown p8 d os
        have s0 := fun d os => cell_regrown q0 d os
        have s1 := fun d os => cell_regrown q1 d os
        have s2 := fun d os => cell_regrown q2 d os
        have s3 := fun d os => cell_regrown q3 d os
        have s4 := fun d os => cell_regrown q4 d os
        have s5 := fun d os => cell_regrown q5 d os
        have s6 := fun d os => cell_regrown q6 d os
        have s7 := fun d os => cell_regrown q7 d os
        have s8 := fun d os => cell_regrown q8 d os
        refine wp_region_lex [7] 8 (by kernel_rfl) (by kernel_rfl) ?_
        simp only [List.take_succ_cons, List.take_zero, List.drop_succ_cons, List.drop_zero]
        with_reducible refine lex_seg 7 _ _ _ _ (by kernel_rfl) ?_
        simp only [List.take_succ_cons, List.take_zero, List.drop_succ_cons, List.drop_zero]
        try simp only [Act.put, List.setIfInBounds_toArray, List.set_cons_succ, List.set_cons_zero]
        repeat (go_big_quiet_step (fail))
        with_reducible refine wpQuiet_nil ?_
        refine lex_call 64 rfl rfl (by simp [go_sem]; rfl) ?_
        refine (conflict_any ⟨x.q.b, x.ms⟩ ⟨y.q.b, y.ms⟩ _ (hmX.bel bI) (hmY.bel bI)).mono ?_; rintro e w1 ⟨rfl, hb1⟩
        refine ⟨_, rfl, hb1, ?_⟩
        with_reducible refine lex_nil ?_
        clear r0 r1 r2 r3 r4 r5 r6 r7 r8
        clear s0 s1 s2 s3 s4 s5 s6 s7 s8
        clear p0 p1 p2 p3 p4 p5 p6 p7 p8
        clear q0 q1 q2 q3 q4 q5 q6 q7 q8
        clear hbx hrW
        cases hcf : confB x.bm y.bm
        · have e1 : confB ⟨x.q.b, x.ms⟩ ⟨y.q.b, y.ms⟩ = false := hcf
          rw [e1]
          have HA3 : Hid ((L.take (j + 1)).any (fun x => confB x.bm y.bm) = false) := by show _ = _; rw [HA2.out, HA.out, hcf]; rfl
          clear e1 hcf
          go_wp2
          go_roundw
          case rel => exact ⟨j + 1, by go_num, by omega, HA3, bI⟩
          case measure => simp [intOf]; omega
        · have e1 : confB ⟨x.q.b, x.ms⟩ ⟨y.q.b, y.ms⟩ = true := hcf
          rw [e1]
          have HF : Hid (V = true) := by
            show _ = _
            have : (L.take k).any (fun x => confB x.bm y.bm) = true := by
              rw [List.any_eq_true]
              exact ⟨x, List.mem_take_iff_getElem.2 ⟨j, by have := HL.out; omega, (List.getElem?_eq_some_iff.1 HX.out).2⟩, hcf⟩
            rw [HVk.out, this]; rfl
          clear e1 hcf
          go_wp2
          go_ret
          exact ⟨ret_bool HF.out.symm, bI⟩
      · obtain rfl : j = k := by omega
        have jk : decide ((j : Int) < (j : Int)) = false := by simp
        have HVj : Hid (V = B.any fun x => confB x y.bm) := by show _ = _; rw [HVk.out, HA.out, Bool.false_or]
        clear HA
        go_wp2
        obtain ⟨X, rfl⟩ : ∃ X, X = wr := ⟨_, rfl⟩
        go_loopw [34] (fun jv wr => ∃ m : Nat, jv = .int .i64 m ∧ m ≤ n' ∧ Hid ((B.take m).any (fun x => confB x y.bm) = false) ∧ Bel w wr) (fun jv _ => n' - (intOf jv).toNat)
        case atStart => exact ⟨0, rfl, by omega, by simp [Hid], bI⟩
        case round =>
          obtain ⟨m, rfl, m1, HB, hbr⟩ := hrel
          by_cases hmn : m < n'
          · obtain ⟨x, hx⟩ : ∃ x, B[m]? = some x := ⟨B[m]'(by have := Hn'.out; omega), List.getElem?_eq_getElem _⟩
            obtain ⟨b', o', c9', hX⟩ := HBT.out m x hx
            obtain ⟨b, o, c9, hY⟩ := HYT.out
            have hf := hX.form
            simp only [Value.slice.injEq] at hf
            obtain ⟨rfl, _, rfl⟩ := hf
            have hf := hY.form
            simp only [Value.slice.injEq] at hf
            obtain ⟨rfl, _, rfl⟩ := hf
            have HX := Lib.hid hx
            have HL := Lib.hid (show m < B.length from (List.getElem?_eq_some_iff.1 hx).1)
            have HA2 := Lib.hid (any_take_succ (p := fun x => confB x y.bm) hx)
            have hrX := hX.row.bel hbr hX.lt
            have hrY := hY.row.bel hbr hY.lt
            have hmX := hX.mem
            have hmY := hY.mem
            have jk : (m : Int) < (n' : Int) := by omega
            have hlt := Nat.lt_of_lt_of_le hY.lt hbr.size
            have q0 := (hrX).cell 0 rfl
            have q1 := (hrX).cell 1 rfl
            have q2 := (hrX).cell 2 rfl
            have q3 := (hrX).cell 3 rfl
            have q4 := (hrX).cell 4 rfl
            have q5 := (hrX).cell 5 rfl
            have q6 := (hrX).cell 6 rfl
            have q7 := (hrX).cell 7 rfl
            have q8 := (hrX).cell 8 rfl
            rw [Nat.add_zero] at q0
            have hbx := AtF.new wr 44 [.int .i64 (x.b).id, .int .i64 (x.b).ten, .int .i64 (x.b).knd, .int .i64 (x.b).sec, .int .i64 (x.b).cnt, .string (x.b).dat, .bool (x.b).fua, .slice (x.b).mA (x.b).mL (x.b).mC, .int .i64 (x.b).tim]
            have hbW : Bel w (wr.alloc (.cells #[.int .i64 (x.b).id, .int .i64 (x.b).ten, .int .i64 (x.b).knd, .int .i64 (x.b).sec, .int .i64 (x.b).cnt, .string (x.b).dat, .bool (x.b).fua, .slice (x.b).mA (x.b).mL (x.b).mC, .int .i64 (x.b).tim] 44)) := hbr.alloc _
            have hrW := hrY.bel ((Bel.refl wr).alloc (.cells #[.int .i64 (x.b).id, .int .i64 (x.b).ten, .int .i64 (x.b).knd, .int .i64 (x.b).sec, .int .i64 (x.b).cnt, .string (x.b).dat, .bool (x.b).fua, .slice (x.b).mA (x.b).mL (x.b).mC, .int .i64 (x.b).tim] 44)) hlt
            clear hX hY hx hrX hrY
            go_wp2_with fail
            clear q0 q1 q2 q3 q4 q5 q6 q7 q8
            generalize wr.alloc (.cells #[.int .i64 (x.b).id, .int .i64 (x.b).ten, .int .i64 (x.b).knd, .int .i64 (x.b).sec, .int .i64 (x.b).cnt, .string (x.b).dat, .bool (x.b).fua, .slice (x.b).mA (x.b).mL (x.b).mC, .int .i64 (x.b).tim] 44) = W at *
            have p0 := (hrW).cell 0 rfl
            have p1 := (hrW).cell 1 rfl
            have p2 := (hrW).cell 2 rfl
            have p3 := (hrW).cell 3 rfl
            have p4 := (hrW).cell 4 rfl
            have p5 := (hrW).cell 5 rfl
            have p6 := (hrW).cell 6 rfl
            have p7 := (hrW).cell 7 rfl
            have p8 := (hrW).cell 8 rfl
            rw [Nat.add_zero] at p0
            have q0 := (hbx).1.2 0 _ rfl
            have q1 := (hbx).1.2 1 _ rfl
            have q2 := (hbx).1.2 2 _ rfl
            have q3 := (hbx).1.2 3 _ rfl
            have q4 := (hbx).1.2 4 _ rfl
            have q5 := (hbx).1.2 5 _ rfl
            have q6 := (hbx).1.2 6 _ rfl
            have q7 := (hbx).1.2 7 _ rfl
            have q8 := (hbx).1.2 8 _ rfl
            have r0 := fun d os => cell_regrown p0 d os
            have r1 := fun d os => cell_regrown p1 d os
            have r2 := fun d os => cell_regrown p2 d os
            have r3 := fun d os => cell_regrown p3 d os
            have r4 := fun d os => cell_regrown p4 d os
            have r5 := fun d os => cell_regrown p5 d os
            have r6 := fun d os => cell_regrown p6 d os
            have r7 := fun d os => cell_regrown p7 d os
            have r8 := fun d os => cell_regrown p8 d os
            have s0 := fun d os => cell_regrown q0 d os
            have s1 := fun d os => cell_regrown q1 d os
            have s2 := fun d os => cell_regrown q2 d os
            have s3 := fun d os => cell_regrown q3 d os
            have s4 := fun d os => cell_regrown q4 d os
            have s5 := fun d os => cell_regrown q5 d os
            have s6 := fun d os => cell_regrown q6 d os
            have s7 := fun d os => cell_regrown q7 d os
            have s8 := fun d os => cell_regrown q8 d os
            refine wp_region_lex [6] 7 (by kernel_rfl) (by kernel_rfl) ?_
            simp only [List.take_succ_cons, List.take_zero, List.drop_succ_cons, List.drop_zero]
            with_reducible refine lex_seg 6 _ _ _ _ (by kernel_rfl) ?_
            simp only [List.take_succ_cons, List.take_zero, List.drop_succ_cons, List.drop_zero]
            try simp only [Act.put, List.setIfInBounds_toArray, List.set_cons_succ, List.set_cons_zero]
            repeat (go_big_quiet_step (fail))
            with_reducible refine wpQuiet_nil ?_
            refine lex_call 64 rfl rfl (by simp [go_sem]; rfl) ?_
            refine (conflict_any ⟨x.b, x.ms⟩ ⟨y.q.b, y.ms⟩ _ (hmX.bel bI) (hmY.bel bI)).mono ?_; rintro e w1 ⟨rfl, hb1⟩
            refine ⟨_, rfl, hb1, ?_⟩
            with_reducible refine lex_nil ?_
            clear r0 r1 r2 r3 r4 r5 r6 r7 r8
            clear s0 s1 s2 s3 s4 s5 s6 s7 s8
            clear p0 p1 p2 p3 p4 p5 p6 p7 p8
            clear q0 q1 q2 q3 q4 q5 q6 q7 q8
            clear hbx hrW
            cases hcf : confB x y.bm
            · have e1 : confB ⟨x.b, x.ms⟩ ⟨y.q.b, y.ms⟩ = false := hcf
              rw [e1]
              have HA3 : Hid ((B.take (m + 1)).any (fun x => confB x y.bm) = false) := by show _ = _; rw [HA2.out, HB.out, hcf]; rfl
              clear e1 hcf
              go_wp2
              go_roundw
              case rel => exact ⟨m + 1, by go_num, by omega, HA3, bI⟩
              case measure => simp [intOf]; omega
            · have e1 : confB ⟨x.b, x.ms⟩ ⟨y.q.b, y.ms⟩ = true := hcf
              rw [e1]
              have HF : Hid (V = true) := by
                show _ = _
                have : B.any (fun x => confB x y.bm) = true := by
                  rw [List.any_eq_true]
                  exact ⟨x, List.mem_of_getElem? HX.out, hcf⟩
                rw [HVj.out, this]
              clear e1 hcf
              go_wp2
              go_ret
              exact ⟨ret_bool HF.out.symm, bI⟩
          · obtain rfl : m = n' := by omega
            have jk2 : decide ((m : Int) < (m : Int)) = false := by simp
            have HF : Hid (V = false) := by
              show _ = _
              rw [HVj.out, ← HB.out, List.take_of_length_le (by have := Hn'.out; omega)]
            go_wp2
            go_ret
            exact ⟨ret_bool HF.out.symm, bI⟩
  · have hd : decide (0 ≤ i ∧ i < (n : Int)) = false := by simpa using hi
    have HF : Hid (V = true) := by
      show _ = _
      rw [HV.out, blk]
      by_cases h0 : 0 ≤ i
      · rw [if_pos h0, blkN, List.getElem?_eq_none (by have := Hn.out; omega)]
      · rw [if_neg h0]
    have HD := Lib.hid hd
    clear hd HV hi hv hb
    go_enter Tryz.func38, Tryz.ntmps38
    go_wp2_with fail
    refine (dlHas_any A n c _ _).mono ?_; rw [HD.out]; rintro e w1 ⟨rfl, rfl⟩
    go_wp2
    go_ret
    exact ⟨ret_bool HF.out.symm, bI⟩
end Go.Proofs.YtpgjbocjhconoaaGreat

/- The least due of an entry and of those that wait for it. -/
namespace Go.Proofs.YtpgjbocjhconoaaGreat
open Go.RowKit Go.Maps

def confAt (L : List QM) (i j : Nat) : Bool := match L[i]?, L[j]? with
  | some x, some y => confB x.bm y.bm
  | _, _ => false
def dueAt (L : List QM) (i : Nat) : Int := match L[i]? with
  | some x => x.q.due
  | none => 0
/-- Entry i and those that wait for it, among the k entries behind it. -/
def chn (L : List QM) (i : Nat) : Nat → List Nat
  | 0 => [i]
  | k + 1 => if (chn L i k).any (fun n => confAt L n (i + 1 + k)) then chn L i k ++ [i + 1 + k] else chn L i k
/-- Their least due. -/
def lst (L : List QM) (i : Nat) : Nat → Int
  | 0 => dueAt L i
  | k + 1 => if (chn L i k).any (fun n => confAt L n (i + 1 + k)) then min (lst L i k) (dueAt L (i + 1 + k)) else lst L i k
def urgN (L : List QM) (i : Nat) : Int := lst L i (L.length - (i + 1))
def urg (L : List QM) (i : Int) : Int := if 0 ≤ i ∧ i < (L.length : Int) then urgN L i.toNat else 0
theorem chn_bd (L : List QM) (i : Nat) : ∀ k, ∀ n ∈ chn L i k, i ≤ n ∧ n < i + 1 + k
  | 0, n, h => by simp [chn] at h; omega
  | k + 1, n, h => by
    unfold chn at h
    split at h
    · rw [List.mem_append] at h
      rcases h with h | h
      · have := chn_bd L i k n h; omega
      · simp at h; omega
    · have := chn_bd L i k n h; omega
def ncells (l : List Nat) : List Value := l.map fun (n : Nat) => Value.int .i64 (n : Int)
theorem ncells_at {l : List Nat} {k n : Nat} (h : l[k]? = some n) : (ncells l)[k]? = some (.int .i64 (n : Int)) := by simp [ncells, h]
end Go.Proofs.YtpgjbocjhconoaaGreat

/- deadline.Urgent. -/
namespace Go.Proofs.YtpgjbocjhconoaaGreat
open Go.RowKit Go.Maps
set_option linter.unusedSimpArgs false

theorem Tryz.infoInt : (Tryz.prog.info? 3).map (fun i => (i.zero, i.size, i.bytes)) = some (some (.int .i64 0), 1, 8) := by kernel_rfl
theorem own_made1 (w : World) (base : Nat) (hb : base ≤ w.heap.size) (t : TypeId) (u : Value) : (w.alloc (.cells #[u] t)).ownsRow base t 1 (.slice (some ⟨w.heap.size, 0, none⟩) 1 1) 1 [u] :=
  ⟨by simp, .inr ⟨w.heap.size, 1, #[u], rfl, hb, heap_alloc_new w _, Nat.le_refl _, by unfold maxLen; omega, by simp, by simp⟩⟩

set_option maxRecDepth 100000 in
set_option maxHeartbeats 8000000 in
theorem dlUrgent_any (L : List QM) (i : Int) (v : Value) (w : World) (hv : QL w v L) (hL : L.length ≤ 1000) :
    Calls Tryz.prog 99 #[v, .int .i64 i] w fun e w' => e = .returned (.int .i64 (urg L i)) ∧ Bel w w' := by
  obtain ⟨i0, hi0, hz0, hz1, hz2⟩ := info_parts Tryz.infoInt
  obtain ⟨A, c, rfl, hc1, hc2⟩ := hv.form
  obtain ⟨n, Hn⟩ : ∃ n, Hid (n = L.length) := ⟨_, rfl⟩
  obtain ⟨V, HV⟩ : ∃ V, Hid (V = urg L i) := ⟨_, rfl⟩
  rw [← HV.out]
  rw [← Hn.out] at hc1 hL ⊢
  unfold maxLen at hc2
  by_cases hi : 0 ≤ i ∧ i < (n : Int)
  · obtain ⟨k, rfl⟩ : ∃ k : Nat, i = (k : Int) := ⟨i.toNat, by omega⟩
    have hkn : k < n := by omega
    have hkn2 : (k : Int) < (n : Int) := by omega
    have hd : decide (0 ≤ (k : Int) ∧ (k : Int) < (n : Int)) = true := by simpa using hi
    obtain ⟨y, hy⟩ : ∃ y, L[k]? = some y := ⟨L[k]'(by have := Hn.out; omega), List.getElem?_eq_getElem _⟩
    have HVk : Hid (V = lst L k (n - (k + 1))) := by
      show _ = _
      rw [HV.out, urg, if_pos (by have := Hn.out; omega), Int.toNat_natCast, urgN, Hn.out]
    have HAT := Lib.hid (fun j m x z (hj : L[j]? = some x) (hm : L[m]? = some z) => hv.at2 hj hm)
    have HDU : Hid (y.q.due = lst L k 0) := by show _ = _; rw [lst, dueAt, hy]
    obtain ⟨b, o, c9, hY⟩ := hv.at hy
    rw [← Hn.out] at HAT hY
    have hf := hY.form
    simp only [Value.slice.injEq] at hf
    obtain ⟨rfl, _, rfl⟩ := hf
    have p9 := hY.row.cell 9 rfl
    have HD := Lib.hid hd
    clear hi hd HV hv hY hy
    go_enter Tryz.func99, Tryz.ntmps99
    go_wp2_with fail
    refine (dlHas_any _ n c _ _).mono ?_; rw [HD.out]; rintro e w1 ⟨rfl, rfl⟩
    go_wp2
    have hown0 := own_made1 w w.heap.size (Nat.le_refl _) 3 (.int .i64 (k : Int))
    have hb0 : Bel w (w.alloc (.cells #[.int .i64 (k : Int)] 3)) := (Bel.refl w).alloc _
    generalize w.alloc (.cells #[.int .i64 (k : Int)] 3) = W0 at *
    clear p9
    go_loopw [5, 6, 7] (fun lv cv xv wr => ∃ (x : Nat) (z : Int) (l : List Nat), xv = .int .i64 x ∧ k < x ∧ x ≤ n ∧ lv = .int .i64 z ∧ Hid (z = lst L k (x - (k + 1))) ∧ Hid (l = chn L k (x - (k + 1))) ∧ l.length ≤ x - k ∧ wr.ownsRow w.heap.size 3 1 cv l.length (ncells l) ∧ Bel w wr) (fun _ _ xv _ => n - (intOf xv).toNat)
    case atStart => exact ⟨k + 1, y.q.due, [k], by go_num, by omega, by omega, rfl, by rw [Nat.sub_self]; exact HDU, by simp [Hid, chn], by simp, hown0, hb0⟩
    case round =>
      obtain ⟨x, z, l, rfl, x1, x2, rfl, HZ, HCH, hl, hown, hbr⟩ := hrel
      obtain ⟨W, rfl⟩ : ∃ W, W = wr := ⟨_, rfl⟩
      clear hown0 hb0
      obtain ⟨A', c', rfl⟩ := own_slice hown
      by_cases hxn : x < n
      · obtain ⟨zz, hzz⟩ : ∃ y, L[x]? = some y := ⟨L[x]'(by have := Hn.out; omega), List.getElem?_eq_getElem _⟩
        have x3 : (x : Int) < (n : Int) := by omega
        have hsucc : x + 1 - (k + 1) = (x - (k + 1)) + 1 := by omega
        have hxe : k + 1 + (x - (k + 1)) = x := by omega
        have HS1 := Lib.hid (show lst L k (x + 1 - (k + 1)) = if l.any (fun n => confAt L n x) then min z (dueAt L x) else z by rw [hsucc, lst, hxe, ← HCH.out, ← HZ.out])
        have HS2 := Lib.hid (show chn L k (x + 1 - (k + 1)) = if l.any (fun n => confAt L n x) then l ++ [x] else l by rw [hsucc, chn, hxe, ← HCH.out])
        have HDX := Lib.hid (show dueAt L x = zz.q.due by rw [dueAt, hzz])
        have HBD := Lib.hid (fun j (h : j ∈ l) => chn_bd L k (x - (k + 1)) j (by rw [← HCH.out]; exact h))
        have HZZ := Lib.hid hzz
        clear hzz hsucc hxe
        obtain ⟨m, Hm⟩ : ∃ m, Hid (m = l.length) := ⟨_, rfl⟩
        rw [← Hm.out] at hl hown ⊢
        go_wp2
        go_loopw [5, 6, 31] (fun lv cv jv wq => ∃ j : Nat, jv = .int .i64 j ∧ lv = .int .i64 z ∧ cv = .slice A' m c' ∧ j ≤ m ∧ Hid ((l.take j).any (fun n => confAt L n x) = false) ∧ Bel W wq) (fun _ _ jv _ => m - (intOf jv).toNat)
        case atStart => exact ⟨0, rfl, rfl, rfl, by omega, by simp [Hid], Bel.refl _⟩
        case round =>
          obtain ⟨j, rfl, rfl, rfl, j1, HA, hbq⟩ := hrel
          have howq := own_keep hown hbq
          by_cases hjm : j < m
          · obtain ⟨e, he⟩ : ∃ e, l[j]? = some e := ⟨l[j]'(by have := Hm.out; omega), List.getElem?_eq_getElem _⟩
            obtain ⟨e1, e2⟩ := HBD.out e (List.mem_of_getElem? he)
            obtain ⟨xx, hxx⟩ : ∃ y, L[e]? = some y := ⟨L[e]'(by have := Hn.out; omega), List.getElem?_eq_getElem _⟩
            obtain ⟨b9, o9, c99, hX, hY⟩ := HAT.out e x xx zz hxx HZZ.out
            have hf := hX.form
            simp only [Value.slice.injEq, Option.some.injEq, Addr.mk.injEq] at hf
            obtain ⟨⟨rfl, rfl, _⟩, _, rfl⟩ := hf
            obtain ⟨b', o', c9', hv', hlb', hcell'⟩ := (Rd.own howq).at (by omega)
            cases hv'
            have m0 := hcell' _ _ (ncells_at he)
            have HA2 := Lib.hid (any_take_succ (p := fun n => confAt L n x) he)
            have hcfE : confAt L e x = confB xx.bm zz.bm := by unfold confAt; rw [hxx, HZZ.out]
            have HCF := Lib.hid hcfE
            have HE := Lib.hid he
            have hbw := hbr.trans hbq
            have HQ9 := Lib.hid (hY.row.cell 9 rfl)
            have hYl := hY.lt
            have hX := hX.bel hbw
            have hY := hY.bel hbw
            have jm : (j : Int) < (m : Int) := by omega
            have en : (e : Int) < (n : Int) := by omega
            clear hcell' he hxx hcfE
            go_wp2_with fail
            clear m0
            have p0 := (hX.row).cell 0 rfl
            have p1 := (hX.row).cell 1 rfl
            have p2 := (hX.row).cell 2 rfl
            have p3 := (hX.row).cell 3 rfl
            have p4 := (hX.row).cell 4 rfl
            have p5 := (hX.row).cell 5 rfl
            have p6 := (hX.row).cell 6 rfl
            have p7 := (hX.row).cell 7 rfl
            have p8 := (hX.row).cell 8 rfl
            rw [Nat.add_zero] at p0
            have q0 := (hY.row).cell 0 rfl
            have q1 := (hY.row).cell 1 rfl
            have q2 := (hY.row).cell 2 rfl
            have q3 := (hY.row).cell 3 rfl
            have q4 := (hY.row).cell 4 rfl
            have q5 := (hY.row).cell 5 rfl
            have q6 := (hY.row).cell 6 rfl
            have q7 := (hY.row).cell 7 rfl
            have q8 := (hY.row).cell 8 rfl
            rw [Nat.add_zero] at q0
            have hmX := hX.mem
            have hmY := hY.mem
            have r0 := fun d os => cell_regrown p0 d os
            have r1 := fun d os => cell_regrown p1 d os
            have r2 := fun d os => cell_regrown p2 d os
            have r3 := fun d os => cell_regrown p3 d os
            have r4 := fun d os => cell_regrown p4 d os
            have r5 := fun d os => cell_regrown p5 d os
            have r6 := fun d os => cell_regrown p6 d os
            have r7 := fun d os => cell_regrown p7 d os
            have r8 := fun d os => cell_regrown p8 d os
            have s0 := fun d os => cell_regrown q0 d os
            have s1 := fun d os => cell_regrown q1 d os
            have s2 := fun d os => cell_regrown q2 d os
            have s3 := fun d os => cell_regrown q3 d os
            have s4 := fun d os => cell_regrown q4 d os
            have s5 := fun d os => cell_regrown q5 d os
            have s6 := fun d os => cell_regrown q6 d os
            have s7 := fun d os => cell_regrown q7 d os
            have s8 := fun d os => cell_regrown q8 d os
            refine wp_region_lex [10] 11 (by kernel_rfl) (by kernel_rfl) ?_
            simp only [List.take_succ_cons, List.take_zero, List.drop_succ_cons, List.drop_zero]
            with_reducible refine lex_seg 10 _ _ _ _ (by kernel_rfl) ?_
            simp only [List.take_succ_cons, List.take_zero, List.drop_succ_cons, List.drop_zero]
            try simp only [Act.put, List.setIfInBounds_toArray, List.set_cons_succ, List.set_cons_zero]
            repeat (go_big_quiet_step (fail))
            with_reducible refine wpQuiet_nil ?_
            refine lex_call 64 rfl rfl (by simp [go_sem]; rfl) ?_
            refine (conflict_any ⟨xx.q.b, xx.ms⟩ ⟨zz.q.b, zz.ms⟩ _ (hmX.bel bI) (hmY.bel bI)).mono ?_; rintro e w1 ⟨rfl, hb1⟩
            refine ⟨_, rfl, hb1, ?_⟩
            with_reducible refine lex_nil ?_
            clear r0 r1 r2 r3 r4 r5 r6 r7 r8
            clear s0 s1 s2 s3 s4 s5 s6 s7 s8
            clear p0 p1 p2 p3 p4 p5 p6 p7 p8
            clear q0 q1 q2 q3 q4 q5 q6 q7 q8
            have hb1w : Bel wr w1 := bI
            cases hcf : confB xx.bm zz.bm
            · have e9 : confB ⟨xx.q.b, xx.ms⟩ ⟨zz.q.b, zz.ms⟩ = false := hcf
              rw [e9]
              have HA3 : Hid ((l.take (j + 1)).any (fun n => confAt L n x) = false) := by show _ = _; rw [HA2.out, HA.out, HCF.out, hcf]; rfl
              clear e9 hcf
              go_wp2
              go_roundw
              case rel => exact ⟨j + 1, by go_num, rfl, rfl, by omega, HA3, hbq.trans hb1w⟩
              case measure => simp [intOf]; omega
            · have e9 : confB ⟨xx.q.b, xx.ms⟩ ⟨zz.q.b, zz.ms⟩ = true := hcf
              rw [e9]
              have hany : l.any (fun n => confAt L n x) = true := List.any_eq_true.2 ⟨e, List.mem_of_getElem? HE.out, by rw [HCF.out]; exact hcf⟩
              obtain ⟨z', Hz'⟩ : ∃ z', Hid (z' = min z zz.q.due) := ⟨_, rfl⟩
              have HZ2 : Hid (z' = lst L k (x + 1 - (k + 1))) := by show _ = _; rw [HS1.out, if_pos hany, HDX.out, Hz'.out]
              have HC2 : Hid (l ++ [x] = chn L k (x + 1 - (k + 1))) := by show _ = _; rw [HS2.out, if_pos hany]
              have hmin : (if zz.q.due < z then zz.q.due else z) = z' := by rw [Hz'.out]; split <;> omega
              have how1 := own_keep howq hb1w
              have hY1 := hY.bel hb1w
              have hwl := (hbw.trans hb1w).size
              have q90 := HQ9.out
              have hY9 := hY1.row.cell 9 rfl
              clear e9 hcf hany
              go_wp2_with (at_builtin; go_must (refine wpList_append_own_at _ rfl _ _ 22 rfl w.heap.size 3 i0 _ 1 8 Tryz.underlying22 hi0 hz0 hz1 hz2 rfl (by omega) (.slice (some ⟨b', o', none⟩) m c') _ _ rfl (how1.alloc _) ⟨w1.heap.size, 0, none⟩ 1 1 [.int .i64 (x : Int)] rfl rfl (World.news_of_block (cs := #[.int .i64 (x : Int)]) (t := 3) (fr := (0, 0)) (heap_alloc_new w1 _)) (by simp [Value.oneCell']) (by unfold maxLen; omega) (by omega) (by simp; omega) ?_); intro v' w3 hown' hg' _ _; obtain ⟨gn, cn, hvn, _, _⟩ := hown'.form (by omega); subst hvn; have hb3 : Bel w w3 := bel_own (((hbw.trans hb1w)).alloc _) (how1.alloc _) hg' (Nat.le_refl _); have p9 : w3.cell? ⟨b, o + x * 12 + 9, none⟩ = some (.int .i64 zz.q.due) := (hb3.cellAt b _ hYl).trans q90)
              go_roundw
              case rel =>
                have hk2 : (l ++ [x]).length = m + 1 := by rw [List.length_append, ← Hm.out]; rfl
                exact ⟨x + 1, z', l ++ [x], by go_num, by omega, by omega, rfl, HZ2, HC2, by omega, by rw [hk2, show ncells (l ++ [x]) = ncells l ++ [.int .i64 (x : Int)] by simp [ncells]]; exact hown', hb3⟩
              case measure => simp [intOf]; omega
          · obtain rfl : j = m := by omega
            have hany : l.any (fun n => confAt L n x) = false := by rw [← HA.out, List.take_of_length_le (by have := Hm.out; omega)]
            have HZ2 : Hid (z = lst L k (x + 1 - (k + 1))) := by show _ = _; rw [HS1.out, hany]; rfl
            have HC2 : Hid (l = chn L k (x + 1 - (k + 1))) := by show _ = _; rw [HS2.out, hany]; rfl
            have hk2 := Hm.out
            have HLE : Hid (l.length = j) := hk2.symm
            have jm : decide ((j : Int) < (j : Int)) = false := by simp
            have HN := Lib.hid hk2
            clear hany hk2
            go_wp2
            go_roundw
            case rel => exact ⟨x + 1, z, l, by go_num, by omega, by omega, rfl, HZ2, HC2, by have := HLE.out; omega, by rw [HLE.out]; exact howq, hbr.trans hbq⟩
            case measure => simp [intOf]; omega
      · obtain rfl : x = n := by omega
        have x3 : decide ((x : Int) < (x : Int)) = false := by simp
        have HF : Hid (V = z) := by show _ = _; rw [HVk.out, HZ.out]
        go_wp2
        go_ret
        exact ⟨ret_int HF.out.symm, bI⟩
  · have hd : decide (0 ≤ i ∧ i < (n : Int)) = false := by simpa using hi
    have HF : Hid (V = 0) := by show _ = _; rw [HV.out, urg, if_neg (by have := Hn.out; omega)]
    have HD := Lib.hid hd
    clear hd HV hi hv
    go_enter Tryz.func99, Tryz.ntmps99
    go_wp2_with fail
    refine (dlHas_any A n c _ _).mono ?_; rw [HD.out]; rintro e w1 ⟨rfl, rfl⟩
    go_wp2
    go_ret
    exact ⟨ret_int HF.out.symm, bI⟩
end Go.Proofs.YtpgjbocjhconoaaGreat

/- deadline.pick, over any two closures. -/
namespace Go.Proofs.YtpgjbocjhconoaaGreat
open Go.RowKit Go.Maps
set_option linter.unusedSimpArgs false

/-- The least key among the first entries for which a condition holds. -/
def pickB (good : Nat → Bool) (key : Nat → Int) : Nat → Option Nat
  | 0 => none
  | k + 1 => if good k = true then (match pickB good key k with
      | none => some k
      | some b => if key k < key b then some k else some b) else pickB good key k
theorem pickB_lt (good : Nat → Bool) (key : Nat → Int) : ∀ k b, pickB good key k = some b → b < k ∧ good b = true
  | 0, b, h => by simp [pickB] at h
  | k + 1, b, h => by
    have ih := pickB_lt good key k
    unfold pickB at h
    split at h
    · rename_i hg
      split at h
      · cases h; exact ⟨by omega, hg⟩
      · rename_i b' hb'
        have := ih b' hb'
        split at h <;> cases h
        · exact ⟨by omega, hg⟩
        · exact ⟨by omega, this.2⟩
    · have := ih b h; exact ⟨by omega, this.2⟩

set_option maxHeartbeats 4000000 in
theorem dlPick_any (A : Option Addr) (n c : Nat) (g g' : Nat) (lb lb' : Array Value) (good : Nat → Bool) (key : Nat → Int) (w : World) (hn : n ≤ 1000)
    (eg : ∀ args w, (callFunc g args).run Tryz.prog w = .ok (.enter g args) w) (eg' : ∀ args w, (callFunc g' args).run Tryz.prog w = .ok (.enter g' args) w)
    (hg : ∀ W (i : Nat), Bel w W → i < n → Calls Tryz.prog g (#[.int .i64 (i : Int)] ++ lb) W fun e w' => e = .returned (.bool (good i)) ∧ Bel W w')
    (hk : ∀ W (i : Nat), Bel w W → i < n → Calls Tryz.prog g' (#[.int .i64 (i : Int)] ++ lb') W fun e w' => e = .returned (.int .i64 (key i)) ∧ Bel W w') :
    Calls Tryz.prog 101 #[.slice A n c, .func (.func g) #[] lb, .func (.func g') #[] lb'] w fun e w' =>
      e = .returned (.tuple #[.int .i64 ((pickB good key n).getD 0 : Nat), .bool (pickB good key n).isSome]) ∧ Bel w w' := by
  have HG := Lib.hid hg
  have HK := Lib.hid hk
  clear hg hk
  obtain ⟨R, HR⟩ : ∃ R, Hid (R = pickB good key n) := ⟨_, rfl⟩
  rw [← HR.out]
  go_enter Tryz.func101, Tryz.ntmps101
  go_wp2
  go_loopw [8, 9, 10, 15] (fun bv lv fv iv wr => ∃ (i : Nat) (o : Option Nat) (z : Int), bv = .int .i64 (o.getD 0 : Nat) ∧ lv = .int .i64 z ∧ fv = .bool o.isSome ∧ iv = .int .i64 i ∧ i ≤ n ∧ Hid (∀ b, o = some b → z = key b) ∧ Hid (pickB good key i = o) ∧ Bel w wr) (fun _ _ _ iv _ => n - (intOf iv).toNat)
  case atStart => exact ⟨0, none, 0, rfl, rfl, rfl, rfl, by omega, Lib.hid (fun _ h => by cases h), rfl, bI⟩
  case round =>
    obtain ⟨i, o, z, rfl, rfl, rfl, rfl, p1, HZ, HO, hbr⟩ := hrel
    by_cases hlt : i < n
    · have i1 : (i : Int) < (n : Int) := by omega
      cases hgi : good i
      · have HS : Hid (pickB good key (i + 1) = o) := by show _ = _; rw [pickB, if_neg (by rw [hgi]; simp)]; exact HO.out
        have HGI := Lib.hid hgi
        clear hgi
        go_wp2_with fail
        refine (HG.out _ i bI hlt).mono ?_; rw [HGI.out]; rintro e w1 ⟨rfl, hb1⟩
        go_wp2
        go_roundw
        case rel => exact ⟨i + 1, o, z, rfl, rfl, rfl, by go_num, by omega, HZ, HS, bI⟩
        case measure => simp [intOf]; omega
      · have HGI := Lib.hid hgi
        obtain ⟨ki, HKI⟩ : ∃ ki, Hid (ki = key i) := ⟨_, rfl⟩
        cases o with
        | none =>
          have HS : Hid (pickB good key (i + 1) = some i) := by show _ = _; rw [pickB, if_pos hgi, HO.out]
          clear hgi
          go_wp2_with fail
          refine (HG.out _ i bI hlt).mono ?_; rw [HGI.out]; rintro e w1 ⟨rfl, hb1⟩
          go_wp2_with fail
          refine (HK.out _ i bI hlt).mono ?_; rw [← HKI.out]; rintro e w2 ⟨rfl, hb2⟩
          go_wp2
          go_roundw
          case rel => exact ⟨i + 1, some i, ki, rfl, rfl, rfl, by go_num, by omega, Lib.hid (fun b h => by cases h; exact HKI.out), HS, bI⟩
          case measure => simp [intOf]; omega
        | some b =>
          have hz := HZ.out b rfl
          by_cases hlk : ki < z
          · have HS : Hid (pickB good key (i + 1) = some i) := by show _ = _; rw [pickB, if_pos hgi, HO.out]; simp only; rw [if_pos (by rw [← HKI.out, ← hz]; exact hlk)]
            clear hgi hz
            go_wp2_with fail
            refine (HG.out _ i bI hlt).mono ?_; rw [HGI.out]; rintro e w1 ⟨rfl, hb1⟩
            go_wp2_with fail
            refine (HK.out _ i bI hlt).mono ?_; rw [← HKI.out]; rintro e w2 ⟨rfl, hb2⟩
            go_wp2
            go_roundw
            case rel => exact ⟨i + 1, some i, ki, rfl, rfl, rfl, by go_num, by omega, Lib.hid (fun b h => by cases h; exact HKI.out), HS, bI⟩
            case measure => simp [intOf]; omega
          · have HS : Hid (pickB good key (i + 1) = some b) := by show _ = _; rw [pickB, if_pos hgi, HO.out]; simp only; rw [if_neg (by rw [← HKI.out, ← hz]; exact hlk)]
            clear hgi hz
            go_wp2_with fail
            refine (HG.out _ i bI hlt).mono ?_; rw [HGI.out]; rintro e w1 ⟨rfl, hb1⟩
            go_wp2_with fail
            refine (HK.out _ i bI hlt).mono ?_; rw [← HKI.out]; rintro e w2 ⟨rfl, hb2⟩
            go_wp2
            go_roundw
            case rel => exact ⟨i + 1, some b, z, rfl, rfl, rfl, by go_num, by omega, HZ, HS, bI⟩
            case measure => simp [intOf]; omega
    · have i2 : decide ((i : Int) < (n : Int)) = false := by simp; omega
      have i1 : (n : Int) ≤ (i : Int) := by omega
      have HE : Hid (R = o) := by show _ = _; rw [HR.out, ← HO.out]; congr 1; omega
      have hE := HE.out
      subst hE
      go_wp2
      go_ret2
      exact ⟨rfl, bI⟩
end Go.Proofs.YtpgjbocjhconoaaGreat

/- deadline.Pick. -/
namespace Go.Proofs.YtpgjbocjhconoaaGreat
open Go.RowKit Go.Maps
set_option linter.unusedSimpArgs false

def mayAt (may : List Bool) (i : Nat) : Bool := (may[i]?).getD false
def secAt (L : List QM) (i : Nat) : Int := match L[i]? with
  | some x => x.q.b.sec
  | none => 0

set_option maxHeartbeats 2000000 in
theorem pk1_any (may : List Bool) (mv : Value) (B i : Nat) (w : World) (hc : w.cell? ⟨B, 0, none⟩ = some mv) (hm : Rd w mv 1 may.length (bcells may)) (hi : i ≤ 1000) :
    Calls Tryz.prog 97 #[.int .i64 (i : Int), .pointer (some ⟨B, 0, none⟩)] w fun e w' => e = .returned (.bool (mayAt may i)) ∧ Bel w w' := by
  obtain ⟨_, A', cp', rfl, hcp', hmx', hr'⟩ := hm
  unfold maxLen at hmx'
  by_cases hlt : i < may.length
  · obtain ⟨b', o', rfl, hlb', hcell'⟩ := hr' (by omega)
    obtain ⟨y, hy⟩ : ∃ y, may[i]? = some y := ⟨may[i], List.getElem?_eq_getElem _⟩
    have m0 := hcell' _ _ (bcells_at hy)
    have HV := Lib.hid (show mayAt may i = y by simp [mayAt, hy])
    rw [HV.out]
    have j1 : (i : Int) < (may.length : Int) := by omega
    obtain ⟨m, Hm⟩ : ∃ m, Hid (m = may.length) := ⟨_, rfl⟩
    rw [← Hm.out] at j1 hc hcp' hlt
    clear hcell' hr' hy
    go_enter Tryz.func97, Tryz.ntmps97
    go_wp2
    go_ret
    exact ⟨rfl, bI⟩
  · have HV := Lib.hid (show mayAt may i = false by simp [mayAt, List.getElem?_eq_none (Nat.le_of_not_lt hlt)])
    rw [HV.out]
    have j1 : decide ((i : Int) < (may.length : Int)) = false := by simp; omega
    have j2 : (may.length : Int) ≤ (i : Int) := by omega
    obtain ⟨m, Hm⟩ : ∃ m, Hid (m = may.length) := ⟨_, rfl⟩
    rw [← Hm.out] at j1 j2 hc hcp' hlt
    clear hr'
    go_enter Tryz.func97, Tryz.ntmps97
    go_wp2
    go_ret
    exact ⟨rfl, bI⟩

set_option maxHeartbeats 2000000 in
theorem pk2_any (L : List QM) (v : Value) (B i : Nat) (w : World) (hc : w.cell? ⟨B, 0, none⟩ = some v) (hv : QL w v L) (hL : L.length ≤ 1000) :
    Calls Tryz.prog 98 #[.int .i64 (i : Int), .pointer (some ⟨B, 0, none⟩)] w fun e w' => e = .returned (.int .i64 (urg L i)) ∧ Bel w w' := by
  have HU := Lib.hid (dlUrgent_any L i v w hv hL)
  generalize urg L i = u at *
  clear hv
  go_enter Tryz.func98, Tryz.ntmps98
  go_wp2_with fail
  refine HU.out.mono ?_; rintro e w2 ⟨rfl, hb2⟩
  go_wp2
  go_ret
  exact ⟨rfl, bI⟩

set_option maxHeartbeats 2000000 in
theorem pk3_any (L : List QM) (v : Value) (B i : Nat) (w : World) (hc : w.cell? ⟨B, 0, none⟩ = some v) (hv : QL w v L) (hi : i < L.length) :
    Calls Tryz.prog 100 #[.int .i64 (i : Int), .pointer (some ⟨B, 0, none⟩)] w fun e w' => e = .returned (.int .i64 (secAt L i)) ∧ Bel w w' := by
  obtain ⟨x, hx⟩ : ∃ x, L[i]? = some x := ⟨L[i], List.getElem?_eq_getElem _⟩
  obtain ⟨b, o, c, hX⟩ := hv.at hx
  have hf := hX.form
  subst hf
  have c3 := hX.row.cell 3 rfl
  have HV := Lib.hid (show secAt L i = x.q.b.sec by simp [secAt, hx])
  rw [HV.out]
  have j1 : (i : Int) < (L.length : Int) := by omega
  obtain ⟨m, Hm⟩ : ∃ m, Hid (m = L.length) := ⟨_, rfl⟩
  rw [← Hm.out] at j1 hc hi
  clear hv hX hx
  go_enter Tryz.func100, Tryz.ntmps100
  go_wp2
  go_ret
  exact ⟨rfl, bI⟩

set_option maxRecDepth 100000 in
set_option maxHeartbeats 2000000 in
theorem pk4_any (g : Bool) (u now : Int) (A B C i f1 f2 : Nat) (l1 l2 : Array Value) (w : World)
    (hA : w.cell? ⟨A, 0, none⟩ = some (.func (.func f1) #[] l1)) (hB : w.cell? ⟨B, 0, none⟩ = some (.func (.func f2) #[] l2)) (hC : w.cell? ⟨C, 0, none⟩ = some (.int .i64 now))
    (e1 : ∀ args w, (callFunc f1 args).run Tryz.prog w = .ok (.enter f1 args) w) (e2 : ∀ args w, (callFunc f2 args).run Tryz.prog w = .ok (.enter f2 args) w)
    (h1 : ∀ W, Bel w W → Calls Tryz.prog f1 (#[.int .i64 (i : Int)] ++ l1) W fun e w' => e = .returned (.bool g) ∧ Bel W w')
    (h2 : ∀ W, Bel w W → Calls Tryz.prog f2 (#[.int .i64 (i : Int)] ++ l2) W fun e w' => e = .returned (.int .i64 u) ∧ Bel W w') :
    Calls Tryz.prog 102 #[.int .i64 (i : Int), .pointer (some ⟨A, 0, none⟩), .pointer (some ⟨B, 0, none⟩), .pointer (some ⟨C, 0, none⟩)] w fun e w' => e = .returned (.bool (g && decide (u ≤ now))) ∧ Bel w w' := by
  have H1 := Lib.hid h1
  have H2 := Lib.hid h2
  clear h1 h2
  go_enter Tryz.func102, Tryz.ntmps102
  go_wp2_with fail
  have r0 := fun d os => cell_regrown hA d os
  have r1 := fun d os => cell_regrown hB d os
  have r2 := fun d os => cell_regrown hC d os
  cases g
  · skip
    refine wp_region_lex [2, 6] 10 (by kernel_rfl) (by kernel_rfl) ?_
    simp only [List.take_succ_cons, List.take_zero, List.drop_succ_cons, List.drop_zero]
    with_reducible refine lex_seg 2 _ _ _ _ (by kernel_rfl) ?_
    simp only [List.take_succ_cons, List.take_zero, List.drop_succ_cons, List.drop_zero]
    try simp only [Act.put, List.setIfInBounds_toArray, List.set_cons_succ, List.set_cons_zero]
    repeat (go_big_quiet_step (fail))
    with_reducible refine wpQuiet_nil ?_
    refine lex_call f1 rfl rfl (by simp [go_sem, e1]; rfl) ?_
    refine (H1.out _ bI).mono ?_; rintro e w1 ⟨rfl, hb1⟩
    refine ⟨_, rfl, hb1, ?_⟩
    with_reducible refine lex_seg 3 _ _ _ _ (by kernel_rfl) ?_
    simp only [List.take_succ_cons, List.take_zero, List.drop_succ_cons, List.drop_zero]
    try simp only [Act.put, List.setIfInBounds_toArray, List.set_cons_succ, List.set_cons_zero]
    repeat (go_big_quiet_step (fail))
    with_reducible refine wpQuiet_nil ?_
    with_reducible refine lex_skip (by kernel_rfl) ?_
    try simp only [Act.put, List.setIfInBounds_toArray, List.set_cons_succ, List.set_cons_zero]
    with_reducible refine lex_seg 3 _ _ _ _ (by kernel_rfl) ?_
    simp only [List.take_succ_cons, List.take_zero, List.drop_succ_cons, List.drop_zero]
    try simp only [Act.put, List.setIfInBounds_toArray, List.set_cons_succ, List.set_cons_zero]
    repeat (go_big_quiet_step (fail))
    with_reducible refine wpQuiet_nil ?_
    with_reducible refine lex_nil ?_
    go_wp2
    go_ret
    exact ⟨rfl, bI⟩
  · skip
    refine wp_region_lex [2, 6] 10 (by kernel_rfl) (by kernel_rfl) ?_
    simp only [List.take_succ_cons, List.take_zero, List.drop_succ_cons, List.drop_zero]
    with_reducible refine lex_seg 2 _ _ _ _ (by kernel_rfl) ?_
    simp only [List.take_succ_cons, List.take_zero, List.drop_succ_cons, List.drop_zero]
    try simp only [Act.put, List.setIfInBounds_toArray, List.set_cons_succ, List.set_cons_zero]
    repeat (go_big_quiet_step (fail))
    with_reducible refine wpQuiet_nil ?_
    refine lex_call f1 rfl rfl (by simp [go_sem, e1]; rfl) ?_
    refine (H1.out _ bI).mono ?_; rintro e w1 ⟨rfl, hb1⟩
    refine ⟨_, rfl, hb1, ?_⟩
    with_reducible refine lex_seg 3 _ _ _ _ (by kernel_rfl) ?_
    simp only [List.take_succ_cons, List.take_zero, List.drop_succ_cons, List.drop_zero]
    try simp only [Act.put, List.setIfInBounds_toArray, List.set_cons_succ, List.set_cons_zero]
    repeat (go_big_quiet_step (fail))
    with_reducible refine wpQuiet_nil ?_
    refine lex_call f2 rfl rfl (by simp [go_sem, e2]; rfl) ?_
    refine (H2.out _ bI).mono ?_; rintro e w2 ⟨rfl, hb2⟩
    refine ⟨_, rfl, hb2, ?_⟩
    with_reducible refine lex_seg 3 _ _ _ _ (by kernel_rfl) ?_
    simp only [List.take_succ_cons, List.take_zero, List.drop_succ_cons, List.drop_zero]
    try simp only [Act.put, List.setIfInBounds_toArray, List.set_cons_succ, List.set_cons_zero]
    repeat (go_big_quiet_step (fail))
    with_reducible refine wpQuiet_nil ?_
    with_reducible refine lex_nil ?_
    go_wp2
    go_ret
    exact ⟨rfl, bI⟩
set_option maxRecDepth 100000 in
set_option maxHeartbeats 2000000 in
theorem pk5_any (g : Bool) (u now : Int) (A B C i f1 f2 : Nat) (l1 l2 : Array Value) (w : World)
    (hA : w.cell? ⟨A, 0, none⟩ = some (.func (.func f1) #[] l1)) (hB : w.cell? ⟨B, 0, none⟩ = some (.func (.func f2) #[] l2)) (hC : w.cell? ⟨C, 0, none⟩ = some (.int .i64 now))
    (e1 : ∀ args w, (callFunc f1 args).run Tryz.prog w = .ok (.enter f1 args) w) (e2 : ∀ args w, (callFunc f2 args).run Tryz.prog w = .ok (.enter f2 args) w)
    (h1 : ∀ W, Bel w W → Calls Tryz.prog f1 (#[.int .i64 (i : Int)] ++ l1) W fun e w' => e = .returned (.bool g) ∧ Bel W w')
    (h2 : ∀ W, Bel w W → Calls Tryz.prog f2 (#[.int .i64 (i : Int)] ++ l2) W fun e w' => e = .returned (.int .i64 u) ∧ Bel W w') :
    Calls Tryz.prog 103 #[.int .i64 (i : Int), .pointer (some ⟨A, 0, none⟩), .pointer (some ⟨B, 0, none⟩), .pointer (some ⟨C, 0, none⟩)] w fun e w' => e = .returned (.bool (g && decide (now ≤ u))) ∧ Bel w w' := by
  have H1 := Lib.hid h1
  have H2 := Lib.hid h2
  clear h1 h2
  go_enter Tryz.func103, Tryz.ntmps103
  go_wp2_with fail
  have r0 := fun d os => cell_regrown hA d os
  have r1 := fun d os => cell_regrown hB d os
  have r2 := fun d os => cell_regrown hC d os
  cases g
  · skip
    refine wp_region_lex [2, 6] 10 (by kernel_rfl) (by kernel_rfl) ?_
    simp only [List.take_succ_cons, List.take_zero, List.drop_succ_cons, List.drop_zero]
    with_reducible refine lex_seg 2 _ _ _ _ (by kernel_rfl) ?_
    simp only [List.take_succ_cons, List.take_zero, List.drop_succ_cons, List.drop_zero]
    try simp only [Act.put, List.setIfInBounds_toArray, List.set_cons_succ, List.set_cons_zero]
    repeat (go_big_quiet_step (fail))
    with_reducible refine wpQuiet_nil ?_
    refine lex_call f1 rfl rfl (by simp [go_sem, e1]; rfl) ?_
    refine (H1.out _ bI).mono ?_; rintro e w1 ⟨rfl, hb1⟩
    refine ⟨_, rfl, hb1, ?_⟩
    with_reducible refine lex_seg 3 _ _ _ _ (by kernel_rfl) ?_
    simp only [List.take_succ_cons, List.take_zero, List.drop_succ_cons, List.drop_zero]
    try simp only [Act.put, List.setIfInBounds_toArray, List.set_cons_succ, List.set_cons_zero]
    repeat (go_big_quiet_step (fail))
    with_reducible refine wpQuiet_nil ?_
    with_reducible refine lex_skip (by kernel_rfl) ?_
    try simp only [Act.put, List.setIfInBounds_toArray, List.set_cons_succ, List.set_cons_zero]
    with_reducible refine lex_seg 3 _ _ _ _ (by kernel_rfl) ?_
    simp only [List.take_succ_cons, List.take_zero, List.drop_succ_cons, List.drop_zero]
    try simp only [Act.put, List.setIfInBounds_toArray, List.set_cons_succ, List.set_cons_zero]
    repeat (go_big_quiet_step (fail))
    with_reducible refine wpQuiet_nil ?_
    with_reducible refine lex_nil ?_
    go_wp2
    go_ret
    exact ⟨rfl, bI⟩
  · skip
    refine wp_region_lex [2, 6] 10 (by kernel_rfl) (by kernel_rfl) ?_
    simp only [List.take_succ_cons, List.take_zero, List.drop_succ_cons, List.drop_zero]
    with_reducible refine lex_seg 2 _ _ _ _ (by kernel_rfl) ?_
    simp only [List.take_succ_cons, List.take_zero, List.drop_succ_cons, List.drop_zero]
    try simp only [Act.put, List.setIfInBounds_toArray, List.set_cons_succ, List.set_cons_zero]
    repeat (go_big_quiet_step (fail))
    with_reducible refine wpQuiet_nil ?_
    refine lex_call f1 rfl rfl (by simp [go_sem, e1]; rfl) ?_
    refine (H1.out _ bI).mono ?_; rintro e w1 ⟨rfl, hb1⟩
    refine ⟨_, rfl, hb1, ?_⟩
    with_reducible refine lex_seg 3 _ _ _ _ (by kernel_rfl) ?_
    simp only [List.take_succ_cons, List.take_zero, List.drop_succ_cons, List.drop_zero]
    try simp only [Act.put, List.setIfInBounds_toArray, List.set_cons_succ, List.set_cons_zero]
    repeat (go_big_quiet_step (fail))
    with_reducible refine wpQuiet_nil ?_
    refine lex_call f2 rfl rfl (by simp [go_sem, e2]; rfl) ?_
    refine (H2.out _ bI).mono ?_; rintro e w2 ⟨rfl, hb2⟩
    refine ⟨_, rfl, hb2, ?_⟩
    with_reducible refine lex_seg 3 _ _ _ _ (by kernel_rfl) ?_
    simp only [List.take_succ_cons, List.take_zero, List.drop_succ_cons, List.drop_zero]
    try simp only [Act.put, List.setIfInBounds_toArray, List.set_cons_succ, List.set_cons_zero]
    repeat (go_big_quiet_step (fail))
    with_reducible refine wpQuiet_nil ?_
    with_reducible refine lex_nil ?_
    go_wp2
    go_ret
    exact ⟨rfl, bI⟩

def pickD (L : List QM) (may : List Bool) (head now : Int) (n : Nat) : Option Nat :=
  match pickB (fun i => mayAt may i && decide (urg L i ≤ now)) (fun i => urg L i) n with
  | some k => some k
  | none => match pickB (fun i => mayAt may i && decide (head ≤ secAt L i)) (secAt L) n with
    | some k => some k
    | none => pickB (mayAt may) (secAt L) n

set_option maxRecDepth 100000 in
set_option maxHeartbeats 4000000 in
theorem dlPickAll_any (L : List QM) (may : List Bool) (head now : Int) (v mv : Value) (w : World) (hv : QL w v L) (hm : Rd w mv 1 may.length (bcells may)) (hL : L.length ≤ 1000) :
    Calls Tryz.prog 77 #[v, mv, .int .i64 head, .int .i64 now] w fun e w' => e = .returned (.tuple #[.int .i64 ((pickD L may head now L.length).getD 0 : Nat), .bool (pickD L may head now L.length).isSome]) ∧ Bel w w' := by
  obtain ⟨A, c, rfl, _, _⟩ := hv.form
  obtain ⟨A', c', rfl, _, _⟩ := hm.form
  obtain ⟨R, HR⟩ : ∃ R, Hid (R = pickD L may head now L.length) := ⟨_, rfl⟩
  rw [← HR.out]
  have hR := HR.out
  unfold pickD at hR
  have eg1 := enters_of Tryz.func97 (by kernel_rfl) rfl
  have eg2 := enters_of Tryz.func98 (by kernel_rfl) rfl
  have eg3 := enters_of Tryz.func100 (by kernel_rfl) rfl
  have eg4 := enters_of Tryz.func102 (by kernel_rfl) rfl
  have eg5 := enters_of Tryz.func103 (by kernel_rfl) rfl
  obtain ⟨m, Hm⟩ : ∃ m, m = L.length := ⟨_, rfl⟩
  obtain ⟨m', Hm'⟩ : ∃ m', m' = may.length := ⟨_, rfl⟩
  rw [← Hm] at hv ⊢
  rw [← Hm'] at hm ⊢
  have h0 : ((((((((w.alloc (.cells #[.slice A m c] 29)).alloc (.cells #[.slice A' m' c'] 77)).alloc (.cells #[.int .i64 head] 3)).alloc (.cells #[.int .i64 now] 3)).alloc (.cells #[.func (.func 97) #[] #[.pointer (some ⟨w.heap.size + 1, 0, none⟩)]] 91)).alloc (.cells #[.func (.func 98) #[] #[.pointer (some ⟨w.heap.size, 0, none⟩)]] 105)).alloc (.cells #[.func (.func 100) #[] #[.pointer (some ⟨w.heap.size, 0, none⟩)]] 105))).cell? ⟨w.heap.size, 0, none⟩ = some (.slice A m c) := by simp [go_sem]
  have h1 : ((((((((w.alloc (.cells #[.slice A m c] 29)).alloc (.cells #[.slice A' m' c'] 77)).alloc (.cells #[.int .i64 head] 3)).alloc (.cells #[.int .i64 now] 3)).alloc (.cells #[.func (.func 97) #[] #[.pointer (some ⟨w.heap.size + 1, 0, none⟩)]] 91)).alloc (.cells #[.func (.func 98) #[] #[.pointer (some ⟨w.heap.size, 0, none⟩)]] 105)).alloc (.cells #[.func (.func 100) #[] #[.pointer (some ⟨w.heap.size, 0, none⟩)]] 105))).cell? ⟨w.heap.size + 1, 0, none⟩ = some (.slice A' m' c') := by simp [go_sem]
  have h2 : ((((((((w.alloc (.cells #[.slice A m c] 29)).alloc (.cells #[.slice A' m' c'] 77)).alloc (.cells #[.int .i64 head] 3)).alloc (.cells #[.int .i64 now] 3)).alloc (.cells #[.func (.func 97) #[] #[.pointer (some ⟨w.heap.size + 1, 0, none⟩)]] 91)).alloc (.cells #[.func (.func 98) #[] #[.pointer (some ⟨w.heap.size, 0, none⟩)]] 105)).alloc (.cells #[.func (.func 100) #[] #[.pointer (some ⟨w.heap.size, 0, none⟩)]] 105))).cell? ⟨w.heap.size + 1 + 1, 0, none⟩ = some (.int .i64 head) := by simp [go_sem]
  have h3 : ((((((((w.alloc (.cells #[.slice A m c] 29)).alloc (.cells #[.slice A' m' c'] 77)).alloc (.cells #[.int .i64 head] 3)).alloc (.cells #[.int .i64 now] 3)).alloc (.cells #[.func (.func 97) #[] #[.pointer (some ⟨w.heap.size + 1, 0, none⟩)]] 91)).alloc (.cells #[.func (.func 98) #[] #[.pointer (some ⟨w.heap.size, 0, none⟩)]] 105)).alloc (.cells #[.func (.func 100) #[] #[.pointer (some ⟨w.heap.size, 0, none⟩)]] 105))).cell? ⟨w.heap.size + 1 + 1 + 1, 0, none⟩ = some (.int .i64 now) := by simp [go_sem]
  have h4 : ((((((((w.alloc (.cells #[.slice A m c] 29)).alloc (.cells #[.slice A' m' c'] 77)).alloc (.cells #[.int .i64 head] 3)).alloc (.cells #[.int .i64 now] 3)).alloc (.cells #[.func (.func 97) #[] #[.pointer (some ⟨w.heap.size + 1, 0, none⟩)]] 91)).alloc (.cells #[.func (.func 98) #[] #[.pointer (some ⟨w.heap.size, 0, none⟩)]] 105)).alloc (.cells #[.func (.func 100) #[] #[.pointer (some ⟨w.heap.size, 0, none⟩)]] 105))).cell? ⟨w.heap.size + 1 + 1 + 1 + 1, 0, none⟩ = some (.func (.func 97) #[] #[.pointer (some ⟨w.heap.size + 1, 0, none⟩)]) := by simp [go_sem]
  have h5 : ((((((((w.alloc (.cells #[.slice A m c] 29)).alloc (.cells #[.slice A' m' c'] 77)).alloc (.cells #[.int .i64 head] 3)).alloc (.cells #[.int .i64 now] 3)).alloc (.cells #[.func (.func 97) #[] #[.pointer (some ⟨w.heap.size + 1, 0, none⟩)]] 91)).alloc (.cells #[.func (.func 98) #[] #[.pointer (some ⟨w.heap.size, 0, none⟩)]] 105)).alloc (.cells #[.func (.func 100) #[] #[.pointer (some ⟨w.heap.size, 0, none⟩)]] 105))).cell? ⟨w.heap.size + 1 + 1 + 1 + 1 + 1, 0, none⟩ = some (.func (.func 98) #[] #[.pointer (some ⟨w.heap.size, 0, none⟩)]) := by simp [go_sem]
  have h6 : ((((((((w.alloc (.cells #[.slice A m c] 29)).alloc (.cells #[.slice A' m' c'] 77)).alloc (.cells #[.int .i64 head] 3)).alloc (.cells #[.int .i64 now] 3)).alloc (.cells #[.func (.func 97) #[] #[.pointer (some ⟨w.heap.size + 1, 0, none⟩)]] 91)).alloc (.cells #[.func (.func 98) #[] #[.pointer (some ⟨w.heap.size, 0, none⟩)]] 105)).alloc (.cells #[.func (.func 100) #[] #[.pointer (some ⟨w.heap.size, 0, none⟩)]] 105))).cell? ⟨w.heap.size + 1 + 1 + 1 + 1 + 1 + 1, 0, none⟩ = some (.func (.func 100) #[] #[.pointer (some ⟨w.heap.size, 0, none⟩)]) := by simp [go_sem]
  have hX : Bel w ((((((((w.alloc (.cells #[.slice A m c] 29)).alloc (.cells #[.slice A' m' c'] 77)).alloc (.cells #[.int .i64 head] 3)).alloc (.cells #[.int .i64 now] 3)).alloc (.cells #[.func (.func 97) #[] #[.pointer (some ⟨w.heap.size + 1, 0, none⟩)]] 91)).alloc (.cells #[.func (.func 98) #[] #[.pointer (some ⟨w.heap.size, 0, none⟩)]] 105)).alloc (.cells #[.func (.func 100) #[] #[.pointer (some ⟨w.heap.size, 0, none⟩)]] 105))) := bI
  have HHm := Lib.hid Hm
  have HHm' := Lib.hid Hm'
  clear Hm Hm'
  go_enter Tryz.func77, Tryz.ntmps77
  go_wp2_with fail
  have hvX := hv.bel hX
  have hmX : Rd ((((((((w.alloc (.cells #[.slice A m c] 29)).alloc (.cells #[.slice A' m' c'] 77)).alloc (.cells #[.int .i64 head] 3)).alloc (.cells #[.int .i64 now] 3)).alloc (.cells #[.func (.func 97) #[] #[.pointer (some ⟨w.heap.size + 1, 0, none⟩)]] 91)).alloc (.cells #[.func (.func 98) #[] #[.pointer (some ⟨w.heap.size, 0, none⟩)]] 105)).alloc (.cells #[.func (.func 100) #[] #[.pointer (some ⟨w.heap.size, 0, none⟩)]] 105))) (.slice A' m' c') 1 may.length (bcells may) := by have := hm.bel hX; rwa [HHm'.out] at this ⊢
  generalize (((((((w.alloc (.cells #[.slice A m c] 29)).alloc (.cells #[.slice A' m' c'] 77)).alloc (.cells #[.int .i64 head] 3)).alloc (.cells #[.int .i64 now] 3)).alloc (.cells #[.func (.func 97) #[] #[.pointer (some ⟨w.heap.size + 1, 0, none⟩)]] 91)).alloc (.cells #[.func (.func 98) #[] #[.pointer (some ⟨w.heap.size, 0, none⟩)]] 105)).alloc (.cells #[.func (.func 100) #[] #[.pointer (some ⟨w.heap.size, 0, none⟩)]] 105)) = X at *
  have HP1 := Lib.hid (fun W (i : Nat) (hW : Bel X W) (hi : i < L.length) => pk1_any may _ _ i W ((hW.cellAt _ _ (World.block_lt_of_cell? _ _ h1)).trans h1) (hmX.bel hW) (by omega))
  have HP2 := Lib.hid (fun W (i : Nat) (hW : Bel X W) (hi : i < L.length) => pk2_any L _ _ i W ((hW.cellAt _ _ (World.block_lt_of_cell? _ _ h0)).trans h0) (hvX.bel hW) hL)
  have HP3 := Lib.hid (fun W (i : Nat) (hW : Bel X W) (hi : i < L.length) => pk3_any L _ _ i W ((hW.cellAt _ _ (World.block_lt_of_cell? _ _ h0)).trans h0) (hvX.bel hW) hi)
  have HP4 := Lib.hid (fun W (i : Nat) (hW : Bel X W) (hi : i < L.length) => pk4_any (mayAt may i) (urg L i) now _ _ _ i _ _ _ _ W ((hW.cellAt _ _ (World.block_lt_of_cell? _ _ h4)).trans h4) ((hW.cellAt _ _ (World.block_lt_of_cell? _ _ h5)).trans h5) ((hW.cellAt _ _ (World.block_lt_of_cell? _ _ h3)).trans h3) eg1 eg2 (fun W' hW' => HP1.out W' i (hW.trans hW') hi) (fun W' hW' => HP2.out W' i (hW.trans hW') hi))
  have HP5 := Lib.hid (fun W (i : Nat) (hW : Bel X W) (hi : i < L.length) => pk5_any (mayAt may i) (secAt L i) head _ _ _ i _ _ _ _ W ((hW.cellAt _ _ (World.block_lt_of_cell? _ _ h4)).trans h4) ((hW.cellAt _ _ (World.block_lt_of_cell? _ _ h6)).trans h6) ((hW.cellAt _ _ (World.block_lt_of_cell? _ _ h2)).trans h2) eg1 eg3 (fun W' hW' => HP1.out W' i (hW.trans hW') hi) (fun W' hW' => HP3.out W' i (hW.trans hW') hi))
  have HC1 := Lib.hid (fun W (hW : Bel X W) => dlPick_any A L.length c 102 98 #[.pointer (some ⟨w.heap.size + 1 + 1 + 1 + 1, 0, none⟩), .pointer (some ⟨w.heap.size + 1 + 1 + 1 + 1 + 1, 0, none⟩), .pointer (some ⟨w.heap.size + 1 + 1 + 1, 0, none⟩)] #[.pointer (some ⟨w.heap.size, 0, none⟩)] (fun i => mayAt may i && decide (urg L i ≤ now)) (fun i => urg L i) W hL eg4 eg2 (fun W' i hW' hi => HP4.out W' i (hW.trans hW') hi) (fun W' i hW' hi => HP2.out W' i (hW.trans hW') hi))
  have HC2 := Lib.hid (fun W (hW : Bel X W) => dlPick_any A L.length c 103 100 #[.pointer (some ⟨w.heap.size + 1 + 1 + 1 + 1, 0, none⟩), .pointer (some ⟨w.heap.size + 1 + 1 + 1 + 1 + 1 + 1, 0, none⟩), .pointer (some ⟨w.heap.size + 1 + 1, 0, none⟩)] #[.pointer (some ⟨w.heap.size, 0, none⟩)] (fun i => mayAt may i && decide (head ≤ secAt L i)) (secAt L) W hL eg5 eg3 (fun W' i hW' hi => HP5.out W' i (hW.trans hW') hi) (fun W' i hW' hi => HP3.out W' i (hW.trans hW') hi))
  have HC3 := Lib.hid (fun W (hW : Bel X W) => dlPick_any A L.length c 97 100 #[.pointer (some ⟨w.heap.size + 1, 0, none⟩)] #[.pointer (some ⟨w.heap.size, 0, none⟩)] (mayAt may) (secAt L) W hL eg1 eg3 (fun W' i hW' hi => HP1.out W' i (hW.trans hW') hi) (fun W' i hW' hi => HP3.out W' i (hW.trans hW') hi))
  obtain ⟨R1, HR1⟩ : ∃ R1, Hid (R1 = pickB (fun i => mayAt may i && decide (urg L i ≤ now)) (fun i => urg L i) L.length) := ⟨_, rfl⟩
  obtain ⟨R2, HR2⟩ : ∃ R2, Hid (R2 = pickB (fun i => mayAt may i && decide (head ≤ secAt L i)) (secAt L) L.length) := ⟨_, rfl⟩
  obtain ⟨R3, HR3⟩ : ∃ R3, Hid (R3 = pickB (mayAt may) (secAt L) L.length) := ⟨_, rfl⟩
  rw [← HR1.out] at HC1 hR
  rw [← HR2.out] at HC2 hR
  rw [← HR3.out] at HC3 hR
  have g0 : ∀ W, Bel X W → W.cell? ⟨w.heap.size, 0, none⟩ = some (.slice A m c) := fun W (hW : Bel X W) => (hW.cellAt _ _ (World.block_lt_of_cell? _ _ h0)).trans h0
  have g4 : ∀ W, Bel X W → W.cell? ⟨w.heap.size + 1 + 1 + 1 + 1, 0, none⟩ = some (.func (.func 97) #[] #[.pointer (some ⟨w.heap.size + 1, 0, none⟩)]) := fun W (hW : Bel X W) => (hW.cellAt _ _ (World.block_lt_of_cell? _ _ h4)).trans h4
  have g5 : ∀ W, Bel X W → W.cell? ⟨w.heap.size + 1 + 1 + 1 + 1 + 1, 0, none⟩ = some (.func (.func 98) #[] #[.pointer (some ⟨w.heap.size, 0, none⟩)]) := fun W (hW : Bel X W) => (hW.cellAt _ _ (World.block_lt_of_cell? _ _ h5)).trans h5
  have g6 : ∀ W, Bel X W → W.cell? ⟨w.heap.size + 1 + 1 + 1 + 1 + 1 + 1, 0, none⟩ = some (.func (.func 100) #[] #[.pointer (some ⟨w.heap.size, 0, none⟩)]) := fun W (hW : Bel X W) => (hW.cellAt _ _ (World.block_lt_of_cell? _ _ h6)).trans h6
  have G0 := Lib.hid g0
  have G4 := Lib.hid g4
  have G5 := Lib.hid g5
  have G6 := Lib.hid g6
  rw [← HHm.out] at HC1 HC2 HC3 hL
  clear HP1 HP2 HP3 HP4 HP5 hv hm hvX hmX HR1 HR2 HR3 eg1 eg2 eg3 eg4 eg5 h0 h1 h2 h3 h4 h5 h6 g0 g4 g5 g6
  refine (HC1.out _ (Bel.refl _)).mono ?_; rintro e w1 ⟨rfl, hb1⟩
  cases R1 with
  | some k =>
    have HF := Lib.hid (show R = some k from hR)
    clear hR
    go_wp2
    go_ret2
    exact ⟨by rw [HF.out]; rfl, hX.trans hb1⟩
  | none =>
    have k0 := G0.out _ hb1
    have k4 := G4.out _ hb1
    have k6 := G6.out _ hb1
    have HF := Lib.hid hR
    clear hR
    go_wp2_with fail
    refine (HC2.out _ hb1).mono ?_; rintro e w2 ⟨rfl, hb2⟩
    clear k0 k4 k6
    cases R2 with
    | some k =>
      have HF := Lib.hid (show R = some k from HF.out)
      go_wp2
      go_ret2
      exact ⟨by rw [HF.out]; rfl, hX.trans (hb1.trans hb2)⟩
    | none =>
      have k0 := G0.out _ (hb1.trans hb2)
      have k4 := G4.out _ (hb1.trans hb2)
      have k6 := G6.out _ (hb1.trans hb2)
      have HF := Lib.hid (show R = R3 from HF.out)
      go_wp2_with fail
      refine (HC3.out _ (hb1.trans hb2)).mono ?_; rintro e w3 ⟨rfl, hb3⟩
      go_wp2
      go_ret2
      exact ⟨by rw [HF.out]; rfl, hX.trans ((hb1.trans hb2).trans hb3)⟩
end Go.Proofs.YtpgjbocjhconoaaGreat

/- deadline.Due and the reference's Due. -/
namespace Go.Proofs.YtpgjbocjhconoaaGreat
open Go.RowKit
set_option linter.unusedSimpArgs false

def clampI (n : Int) : Int := if n < 0 then 0 else if 1099511627776 < n then 1099511627776 else n
theorem clampI_bd (n : Int) : 0 ≤ clampI n ∧ clampI n ≤ 1099511627776 := by unfold clampI; split <;> (try split) <;> omega
def dueB (r x : Int) (b : Bun) : Int := clampI b.tim + clampI (if b.knd = 1 then r else x)

set_option maxHeartbeats 1000000 in
theorem dlClamp_any (n : Int) (w : World) : Calls Tryz.prog 62 #[.int .i64 n] w fun e w' => e = .returned (.int .i64 (clampI n)) ∧ w = w' := by
  obtain ⟨V, HV⟩ : ∃ V, Hid (V = clampI n) := ⟨_, rfl⟩
  rw [← HV.out]
  by_cases h1 : n < 0
  · have HF := Lib.hid (show V = 0 by rw [HV.out, clampI, if_pos h1])
    go_enter Tryz.func62, Tryz.ntmps62
    go_wp2
    all_goals
      go_ret
      exact ⟨ret_int (by rw [HF.out]; repeat (first | omega | split)), rfl⟩
  · by_cases h2 : 1099511627776 < n
    · have HF := Lib.hid (show V = 1099511627776 by rw [HV.out, clampI, if_neg h1, if_pos h2])
      go_enter Tryz.func62, Tryz.ntmps62
      go_wp2
      all_goals
        go_ret
        exact ⟨ret_int (by rw [HF.out]; repeat (first | omega | split)), rfl⟩
    · have HF := Lib.hid (show V = n by rw [HV.out, clampI, if_neg h1, if_neg h2])
      go_enter Tryz.func62, Tryz.ntmps62
      go_wp2
      all_goals
        go_ret
        exact ⟨ret_int (by rw [HF.out]; repeat (first | omega | split)), rfl⟩
set_option maxHeartbeats 1000000 in
theorem refSpan_any (n : Int) (w : World) : Calls Tryz.prog 71 #[.int .i64 n] w fun e w' => e = .returned (.int .i64 (clampI n)) ∧ w = w' := by
  obtain ⟨V, HV⟩ : ∃ V, Hid (V = clampI n) := ⟨_, rfl⟩
  rw [← HV.out]
  by_cases h1 : n < 0
  · have HF := Lib.hid (show V = 0 by rw [HV.out, clampI, if_pos h1])
    go_enter Tryz.func71, Tryz.ntmps71
    go_wp2
    all_goals
      go_ret
      exact ⟨ret_int (by rw [HF.out]; repeat (first | omega | split)), rfl⟩
  · by_cases h2 : 1099511627776 < n
    · have HF := Lib.hid (show V = 1099511627776 by rw [HV.out, clampI, if_neg h1, if_pos h2])
      go_enter Tryz.func71, Tryz.ntmps71
      go_wp2
      all_goals
        go_ret
        exact ⟨ret_int (by rw [HF.out]; repeat (first | omega | split)), rfl⟩
    · have HF := Lib.hid (show V = n by rw [HV.out, clampI, if_neg h1, if_neg h2])
      go_enter Tryz.func71, Tryz.ntmps71
      go_wp2
      all_goals
        go_ret
        exact ⟨ret_int (by rw [HF.out]; repeat (first | omega | split)), rfl⟩
set_option maxRecDepth 100000 in
set_option maxHeartbeats 2000000 in
theorem dlDue_any (r x : Int) (b : Bun) (w : World) :
    Calls Tryz.prog 21 #[.agg #[.int .i64 r, .int .i64 x], .agg #[.int .i64 (b).id, .int .i64 (b).ten, .int .i64 (b).knd, .int .i64 (b).sec, .int .i64 (b).cnt, .string (b).dat, .bool (b).fua, .slice (b).mA (b).mL (b).mC, .int .i64 (b).tim]] w fun e w' => e = .returned (.int .i64 (dueB r x b)) ∧ Bel w w' := by
  obtain ⟨V, HV⟩ : ∃ V, Hid (V = dueB r x b) := ⟨_, rfl⟩
  rw [← HV.out]
  have hv := HV.out
  unfold dueB at hv
  obtain ⟨id, ten, knd, sec, cnt, dat, fua, mA, mL, mC, tim⟩ := b
  simp only at hv ⊢
  clear HV
  have hX := (AtF.new w 24 [.int .i64 r, .int .i64 x]).alloc (.cells #[.int .i64 id, .int .i64 ten, .int .i64 knd, .int .i64 sec, .int .i64 cnt, .string dat, .bool fua, .slice mA mL mC, .int .i64 tim] 44)
  have hB := AtF.new_at (w := w.alloc (.cells #[.int .i64 r, .int .i64 x] 24)) (g := w.heap.size + 1) (by simp) 44 [.int .i64 id, .int .i64 ten, .int .i64 knd, .int .i64 sec, .int .i64 cnt, .string dat, .bool fua, .slice mA mL mC, .int .i64 tim]
  have hbw : Bel w ((w.alloc (.cells #[.int .i64 r, .int .i64 x] 24)).alloc (.cells #[.int .i64 id, .int .i64 ten, .int .i64 knd, .int .i64 sec, .int .i64 cnt, .string dat, .bool fua, .slice mA mL mC, .int .i64 tim] 44)) := bI
  simp only [List.toArray] at hX hB
  by_cases hk : knd = 1
  · subst hk
    simp only [if_true] at hv
    obtain ⟨p, Hp⟩ : ∃ p, Hid (p = clampI tim) := ⟨_, rfl⟩
    obtain ⟨q, Hq⟩ : ∃ q, Hid (q = clampI r) := ⟨_, rfl⟩
    rw [← Hp.out, ← Hq.out] at hv
    have hp := clampI_bd tim
    have hq := clampI_bd r
    rw [← Hp.out] at hp
    rw [← Hq.out] at hq
    obtain ⟨hp1, hp2⟩ := hp
    obtain ⟨hq1, hq2⟩ := hq
    have HF := Lib.hid hv
    clear hv
    go_enter Tryz.func21, Tryz.ntmps21
    go_wp2_with fail
    generalize (w.alloc (.cells #[.int .i64 r, .int .i64 x] 24)).alloc (.cells #[.int .i64 id, .int .i64 ten, .int .i64 _, .int .i64 sec, .int .i64 cnt, .string dat, .bool fua, .slice mA mL mC, .int .i64 tim] 44) = X at *
    have x0 := hX.1.2 0 _ rfl
    have x1 := hX.1.2 1 _ rfl
    have b8 := hB.1.2 8 _ rfl
    have rg0 := fun d os => cell_regrown x0 d os
    have rg1 := fun d os => cell_regrown x1 d os
    have rg2 := fun d os => cell_regrown b8 d os
    have e5 : IntKind.i64.wrap (p + q) = p + q := IntWalk.i64_in _ (by omega)
    refine wp_region_lex [2, 5] 7 (by kernel_rfl) (by kernel_rfl) ?_
    simp only [List.take_succ_cons, List.take_zero, List.drop_succ_cons, List.drop_zero]
    with_reducible refine lex_seg 2 _ _ _ _ (by kernel_rfl) ?_
    simp only [List.take_succ_cons, List.take_zero, List.drop_succ_cons, List.drop_zero]
    try simp only [Act.put, List.setIfInBounds_toArray, List.set_cons_succ, List.set_cons_zero]
    repeat (go_big_quiet_step (fail))
    with_reducible refine wpQuiet_nil ?_
    refine lex_call 62 rfl rfl (by simp [go_sem]; rfl) ?_
    refine (dlClamp_any tim _).mono ?_; rw [← Hp.out]; rintro e w1 ⟨rfl, rfl⟩
    refine ⟨_, rfl, Bel.refl _, ?_⟩
    with_reducible refine lex_seg 2 _ _ _ _ (by kernel_rfl) ?_
    simp only [List.take_succ_cons, List.take_zero, List.drop_succ_cons, List.drop_zero]
    try simp only [Act.put, List.setIfInBounds_toArray, List.set_cons_succ, List.set_cons_zero]
    repeat (go_big_quiet_step (fail))
    with_reducible refine wpQuiet_nil ?_
    refine lex_call 62 rfl rfl (by simp [go_sem]; rfl) ?_
    refine (dlClamp_any r _).mono ?_; rw [← Hq.out]; rintro e w1 ⟨rfl, rfl⟩
    refine ⟨_, rfl, Bel.refl _, ?_⟩
    with_reducible refine lex_seg 1 _ _ _ _ (by kernel_rfl) ?_
    simp only [List.take_succ_cons, List.take_zero, List.drop_succ_cons, List.drop_zero]
    try simp only [Act.put, List.setIfInBounds_toArray, List.set_cons_succ, List.set_cons_zero]
    repeat (go_big_quiet_step (fail))
    with_reducible refine wpQuiet_nil ?_
    with_reducible refine lex_nil ?_
    clear rg0 rg1 rg2 e5 x0 x1 b8
    go_wp2
    go_ret
    exact ⟨ret_int HF.out.symm, hbw.drew⟩
  · rw [if_neg hk] at hv
    have hk1 : (knd == 1) = false := by simpa using hk
    clear hk
    obtain ⟨p, Hp⟩ : ∃ p, Hid (p = clampI tim) := ⟨_, rfl⟩
    obtain ⟨q, Hq⟩ : ∃ q, Hid (q = clampI x) := ⟨_, rfl⟩
    rw [← Hp.out, ← Hq.out] at hv
    have hp := clampI_bd tim
    have hq := clampI_bd x
    rw [← Hp.out] at hp
    rw [← Hq.out] at hq
    obtain ⟨hp1, hp2⟩ := hp
    obtain ⟨hq1, hq2⟩ := hq
    have HF := Lib.hid hv
    clear hv
    go_enter Tryz.func21, Tryz.ntmps21
    go_wp2_with fail
    generalize (w.alloc (.cells #[.int .i64 r, .int .i64 x] 24)).alloc (.cells #[.int .i64 id, .int .i64 ten, .int .i64 _, .int .i64 sec, .int .i64 cnt, .string dat, .bool fua, .slice mA mL mC, .int .i64 tim] 44) = X at *
    have x0 := hX.1.2 0 _ rfl
    have x1 := hX.1.2 1 _ rfl
    have b8 := hB.1.2 8 _ rfl
    have rg0 := fun d os => cell_regrown x0 d os
    have rg1 := fun d os => cell_regrown x1 d os
    have rg2 := fun d os => cell_regrown b8 d os
    have e5 : IntKind.i64.wrap (p + q) = p + q := IntWalk.i64_in _ (by omega)
    refine wp_region_lex [2, 5] 7 (by kernel_rfl) (by kernel_rfl) ?_
    simp only [List.take_succ_cons, List.take_zero, List.drop_succ_cons, List.drop_zero]
    with_reducible refine lex_seg 2 _ _ _ _ (by kernel_rfl) ?_
    simp only [List.take_succ_cons, List.take_zero, List.drop_succ_cons, List.drop_zero]
    try simp only [Act.put, List.setIfInBounds_toArray, List.set_cons_succ, List.set_cons_zero]
    repeat (go_big_quiet_step (fail))
    with_reducible refine wpQuiet_nil ?_
    refine lex_call 62 rfl rfl (by simp [go_sem]; rfl) ?_
    refine (dlClamp_any tim _).mono ?_; rw [← Hp.out]; rintro e w1 ⟨rfl, rfl⟩
    refine ⟨_, rfl, Bel.refl _, ?_⟩
    with_reducible refine lex_seg 2 _ _ _ _ (by kernel_rfl) ?_
    simp only [List.take_succ_cons, List.take_zero, List.drop_succ_cons, List.drop_zero]
    try simp only [Act.put, List.setIfInBounds_toArray, List.set_cons_succ, List.set_cons_zero]
    repeat (go_big_quiet_step (fail))
    with_reducible refine wpQuiet_nil ?_
    refine lex_call 62 rfl rfl (by simp [go_sem]; rfl) ?_
    refine (dlClamp_any x _).mono ?_; rw [← Hq.out]; rintro e w1 ⟨rfl, rfl⟩
    refine ⟨_, rfl, Bel.refl _, ?_⟩
    with_reducible refine lex_seg 1 _ _ _ _ (by kernel_rfl) ?_
    simp only [List.take_succ_cons, List.take_zero, List.drop_succ_cons, List.drop_zero]
    try simp only [Act.put, List.setIfInBounds_toArray, List.set_cons_succ, List.set_cons_zero]
    repeat (go_big_quiet_step (fail))
    with_reducible refine wpQuiet_nil ?_
    with_reducible refine lex_nil ?_
    clear rg0 rg1 rg2 e5 x0 x1 b8
    go_wp2
    go_ret
    exact ⟨ret_int HF.out.symm, hbw.drew⟩
set_option maxRecDepth 100000 in
set_option maxHeartbeats 2000000 in
theorem refDue_any (r x : Int) (b : Bun) (w : World) :
    Calls Tryz.prog 28 #[.agg #[.int .i64 r, .int .i64 x], .agg #[.int .i64 (b).id, .int .i64 (b).ten, .int .i64 (b).knd, .int .i64 (b).sec, .int .i64 (b).cnt, .string (b).dat, .bool (b).fua, .slice (b).mA (b).mL (b).mC, .int .i64 (b).tim]] w fun e w' => e = .returned (.int .i64 (dueB r x b)) ∧ Bel w w' := by
  obtain ⟨V, HV⟩ : ∃ V, Hid (V = dueB r x b) := ⟨_, rfl⟩
  rw [← HV.out]
  have hv := HV.out
  unfold dueB at hv
  obtain ⟨id, ten, knd, sec, cnt, dat, fua, mA, mL, mC, tim⟩ := b
  simp only at hv ⊢
  clear HV
  have hX := (AtF.new w 24 [.int .i64 r, .int .i64 x]).alloc (.cells #[.int .i64 id, .int .i64 ten, .int .i64 knd, .int .i64 sec, .int .i64 cnt, .string dat, .bool fua, .slice mA mL mC, .int .i64 tim] 44)
  have hB := AtF.new_at (w := w.alloc (.cells #[.int .i64 r, .int .i64 x] 24)) (g := w.heap.size + 1) (by simp) 44 [.int .i64 id, .int .i64 ten, .int .i64 knd, .int .i64 sec, .int .i64 cnt, .string dat, .bool fua, .slice mA mL mC, .int .i64 tim]
  have hbw : Bel w ((w.alloc (.cells #[.int .i64 r, .int .i64 x] 24)).alloc (.cells #[.int .i64 id, .int .i64 ten, .int .i64 knd, .int .i64 sec, .int .i64 cnt, .string dat, .bool fua, .slice mA mL mC, .int .i64 tim] 44)) := bI
  simp only [List.toArray] at hX hB
  by_cases hk : knd = 1
  · subst hk
    simp only [if_true] at hv
    obtain ⟨p, Hp⟩ : ∃ p, Hid (p = clampI tim) := ⟨_, rfl⟩
    obtain ⟨q, Hq⟩ : ∃ q, Hid (q = clampI r) := ⟨_, rfl⟩
    rw [← Hp.out, ← Hq.out] at hv
    have hp := clampI_bd tim
    have hq := clampI_bd r
    rw [← Hp.out] at hp
    rw [← Hq.out] at hq
    obtain ⟨hp1, hp2⟩ := hp
    obtain ⟨hq1, hq2⟩ := hq
    have HF := Lib.hid hv
    clear hv
    go_enter Tryz.func28, Tryz.ntmps28
    go_wp2_with fail
    generalize (w.alloc (.cells #[.int .i64 r, .int .i64 x] 24)).alloc (.cells #[.int .i64 id, .int .i64 ten, .int .i64 _, .int .i64 sec, .int .i64 cnt, .string dat, .bool fua, .slice mA mL mC, .int .i64 tim] 44) = X at *
    have x0 := hX.1.2 0 _ rfl
    have x1 := hX.1.2 1 _ rfl
    have b8 := hB.1.2 8 _ rfl
    have rg0 := fun d os => cell_regrown x0 d os
    have rg1 := fun d os => cell_regrown x1 d os
    have rg2 := fun d os => cell_regrown b8 d os
    have e5 : IntKind.i64.wrap (p + q) = p + q := IntWalk.i64_in _ (by omega)
    refine wp_region_lex [2, 5] 7 (by kernel_rfl) (by kernel_rfl) ?_
    simp only [List.take_succ_cons, List.take_zero, List.drop_succ_cons, List.drop_zero]
    with_reducible refine lex_seg 2 _ _ _ _ (by kernel_rfl) ?_
    simp only [List.take_succ_cons, List.take_zero, List.drop_succ_cons, List.drop_zero]
    try simp only [Act.put, List.setIfInBounds_toArray, List.set_cons_succ, List.set_cons_zero]
    repeat (go_big_quiet_step (fail))
    with_reducible refine wpQuiet_nil ?_
    refine lex_call 71 rfl rfl (by simp [go_sem]; rfl) ?_
    refine (refSpan_any tim _).mono ?_; rw [← Hp.out]; rintro e w1 ⟨rfl, rfl⟩
    refine ⟨_, rfl, Bel.refl _, ?_⟩
    with_reducible refine lex_seg 2 _ _ _ _ (by kernel_rfl) ?_
    simp only [List.take_succ_cons, List.take_zero, List.drop_succ_cons, List.drop_zero]
    try simp only [Act.put, List.setIfInBounds_toArray, List.set_cons_succ, List.set_cons_zero]
    repeat (go_big_quiet_step (fail))
    with_reducible refine wpQuiet_nil ?_
    refine lex_call 71 rfl rfl (by simp [go_sem]; rfl) ?_
    refine (refSpan_any r _).mono ?_; rw [← Hq.out]; rintro e w1 ⟨rfl, rfl⟩
    refine ⟨_, rfl, Bel.refl _, ?_⟩
    with_reducible refine lex_seg 1 _ _ _ _ (by kernel_rfl) ?_
    simp only [List.take_succ_cons, List.take_zero, List.drop_succ_cons, List.drop_zero]
    try simp only [Act.put, List.setIfInBounds_toArray, List.set_cons_succ, List.set_cons_zero]
    repeat (go_big_quiet_step (fail))
    with_reducible refine wpQuiet_nil ?_
    with_reducible refine lex_nil ?_
    clear rg0 rg1 rg2 e5 x0 x1 b8
    go_wp2
    go_ret
    exact ⟨ret_int HF.out.symm, hbw.drew⟩
  · rw [if_neg hk] at hv
    have hk1 : (knd == 1) = false := by simpa using hk
    clear hk
    obtain ⟨p, Hp⟩ : ∃ p, Hid (p = clampI tim) := ⟨_, rfl⟩
    obtain ⟨q, Hq⟩ : ∃ q, Hid (q = clampI x) := ⟨_, rfl⟩
    rw [← Hp.out, ← Hq.out] at hv
    have hp := clampI_bd tim
    have hq := clampI_bd x
    rw [← Hp.out] at hp
    rw [← Hq.out] at hq
    obtain ⟨hp1, hp2⟩ := hp
    obtain ⟨hq1, hq2⟩ := hq
    have HF := Lib.hid hv
    clear hv
    go_enter Tryz.func28, Tryz.ntmps28
    go_wp2_with fail
    generalize (w.alloc (.cells #[.int .i64 r, .int .i64 x] 24)).alloc (.cells #[.int .i64 id, .int .i64 ten, .int .i64 _, .int .i64 sec, .int .i64 cnt, .string dat, .bool fua, .slice mA mL mC, .int .i64 tim] 44) = X at *
    have x0 := hX.1.2 0 _ rfl
    have x1 := hX.1.2 1 _ rfl
    have b8 := hB.1.2 8 _ rfl
    have rg0 := fun d os => cell_regrown x0 d os
    have rg1 := fun d os => cell_regrown x1 d os
    have rg2 := fun d os => cell_regrown b8 d os
    have e5 : IntKind.i64.wrap (p + q) = p + q := IntWalk.i64_in _ (by omega)
    refine wp_region_lex [2, 5] 7 (by kernel_rfl) (by kernel_rfl) ?_
    simp only [List.take_succ_cons, List.take_zero, List.drop_succ_cons, List.drop_zero]
    with_reducible refine lex_seg 2 _ _ _ _ (by kernel_rfl) ?_
    simp only [List.take_succ_cons, List.take_zero, List.drop_succ_cons, List.drop_zero]
    try simp only [Act.put, List.setIfInBounds_toArray, List.set_cons_succ, List.set_cons_zero]
    repeat (go_big_quiet_step (fail))
    with_reducible refine wpQuiet_nil ?_
    refine lex_call 71 rfl rfl (by simp [go_sem]; rfl) ?_
    refine (refSpan_any tim _).mono ?_; rw [← Hp.out]; rintro e w1 ⟨rfl, rfl⟩
    refine ⟨_, rfl, Bel.refl _, ?_⟩
    with_reducible refine lex_seg 2 _ _ _ _ (by kernel_rfl) ?_
    simp only [List.take_succ_cons, List.take_zero, List.drop_succ_cons, List.drop_zero]
    try simp only [Act.put, List.setIfInBounds_toArray, List.set_cons_succ, List.set_cons_zero]
    repeat (go_big_quiet_step (fail))
    with_reducible refine wpQuiet_nil ?_
    refine lex_call 71 rfl rfl (by simp [go_sem]; rfl) ?_
    refine (refSpan_any x _).mono ?_; rw [← Hq.out]; rintro e w1 ⟨rfl, rfl⟩
    refine ⟨_, rfl, Bel.refl _, ?_⟩
    with_reducible refine lex_seg 1 _ _ _ _ (by kernel_rfl) ?_
    simp only [List.take_succ_cons, List.take_zero, List.drop_succ_cons, List.drop_zero]
    try simp only [Act.put, List.setIfInBounds_toArray, List.set_cons_succ, List.set_cons_zero]
    repeat (go_big_quiet_step (fail))
    with_reducible refine wpQuiet_nil ?_
    with_reducible refine lex_nil ?_
    clear rg0 rg1 rg2 e5 x0 x1 b8
    go_wp2
    go_ret
    exact ⟨ret_int HF.out.symm, hbw.drew⟩
end Go.Proofs.YtpgjbocjhconoaaGreat
