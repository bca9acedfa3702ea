/- cmp.Compare, cmp.Or of two ints; fair.Pick. -/
import Derived.Test.YtacbljfpcchbbaaRows2
namespace Go.Proofs.Ytacbljfpcchbbaa
open Go.RowKit
set_option linter.unusedSimpArgs false

def cmpI (a b : Int) : Int := if a < b then -1 else if b < a then 1 else 0

set_option maxHeartbeats 1000000 in
theorem isNaN_any (a : Int) (w : World) :
    Calls Try.prog 42 #[.int .i64 a] w fun e w' => e = .returned (.bool false) ∧ w = w' := by
  go_enter Try.func42, Try.ntmps42
  go_wp2
  go_ret
  exact ⟨rfl, rfl⟩

set_option maxHeartbeats 1000000 in
theorem compare_any (a b : Int) (w : World) :
    Calls Try.prog 40 #[.int .i64 a, .int .i64 b] w fun e w' => e = .returned (.int .i64 (cmpI a b)) ∧ w = w' := by
  by_cases h1 : a < b
  · have HF := Lib.hid (show cmpI a b = -1 by simp [cmpI, h1])
    rw [HF.out]
    go_enter Try.func40, Try.ntmps40
    go_wp2_with (go_at_call 42; refine (isNaN_any _ _).mono ?_; rintro e w' ⟨rfl, rfl⟩)
    go_ret
    exact ⟨rfl, rfl⟩
  · by_cases h2 : b < a
    · have HF := Lib.hid (show cmpI a b = 1 by simp [cmpI, h1, h2])
      rw [HF.out]
      go_enter Try.func40, Try.ntmps40
      go_wp2_with (go_at_call 42; refine (isNaN_any _ _).mono ?_; rintro e w' ⟨rfl, rfl⟩)
      go_ret
      exact ⟨rfl, rfl⟩
    · obtain rfl : a = b := by omega
      have HF := Lib.hid (show cmpI a a = 0 by simp [cmpI])
      rw [HF.out]
      go_enter Try.func40, Try.ntmps40
      go_wp2_with (go_at_call 42; refine (isNaN_any _ _).mono ?_; rintro e w' ⟨rfl, rfl⟩)
      go_ret
      exact ⟨rfl, rfl⟩

set_option maxHeartbeats 1000000 in
theorem orTwo_any (a b : Int) (B : Nat) (w : World) (h0 : w.cell? ⟨B, 0, none⟩ = some (.int .i64 a)) (h1 : w.cell? ⟨B, 1, none⟩ = some (.int .i64 b)) :
    Calls Try.prog 39 #[.slice (some ⟨B, 0, none⟩) 2 2] w fun e w' => e = .returned (.int .i64 (if a = 0 then b else a)) ∧ w = w' := by
  obtain ⟨r, Hr⟩ : ∃ r, Hid (r = if a = 0 then b else a) := ⟨_, rfl⟩
  rw [← Hr.out]
  go_enter Try.func39, Try.ntmps39
  go_wp2
  go_loop [8] (fun iv => ∃ i : Nat, iv = .int .i64 i ∧ i ≤ 2 ∧ Hid (0 < i → a = 0) ∧ Hid (1 < i → b = 0)) (fun iv => 2 - (intOf iv).toNat)
  case atStart => exact ⟨0, rfl, by omega, fun h => absurd h (by omega), fun h => absurd h (by omega)⟩
  case round =>
    obtain ⟨i, rfl, p1, HA, HB⟩ := hrel
    match i, p1 with
    | 0, _ =>
      clear HA HB
      by_cases ha : a = 0
      · subst ha
        go_wp2
        go_round
        case rel => exact ⟨1, rfl, by omega, Lib.hid (by simp), Lib.hid (by simp)⟩
        case measure => simp [intOf]
      · have ha' : (a == 0) = false := by simpa using ha
        have ha2 : (a != 0) = true := by simpa using ha
        have HN := Lib.hid ha
        clear ha
        go_wp2
        go_ret
        exact ⟨ret_int (by rw [Hr.out, if_neg HN.out]), rfl⟩
    | 1, _ =>
      have ha := HA.out (by omega)
      subst ha
      clear HA HB
      by_cases hb : b = 0
      · subst hb
        go_wp2
        go_round
        case rel => exact ⟨2, rfl, by omega, Lib.hid (by simp), Lib.hid (by simp)⟩
        case measure => simp [intOf]
      · have hb' : (b == 0) = false := by simpa using hb
        have hb2 : (b != 0) = true := by simpa using hb
        have HN := Lib.hid hb
        clear hb
        go_wp2
        go_ret
        exact ⟨ret_int (by rw [Hr.out]; simp), rfl⟩
    | 2, _ =>
      have ha := HA.out (by omega)
      have hb := HB.out (by omega)
      subst ha hb
      clear HA HB
      go_wp2
      go_ret
      exact ⟨ret_int (by rw [Hr.out]; simp), rfl⟩

def lessQ (a b : Qd) : Bool := decide (a.sta < b.sta ∨ (a.sta = b.sta ∧ a.b.ten < b.b.ten))
theorem lessQ_or (a b : Qd) : decide ((if cmpI a.sta b.sta = 0 then cmpI a.b.ten b.b.ten else cmpI a.sta b.sta) < 0) = lessQ a b := by
  rw [Bool.eq_iff_iff]
  simp only [lessQ, decide_eq_true_eq]
  unfold cmpI
  by_cases h1 : a.sta < b.sta
  · simp [h1]
  · by_cases h2 : b.sta < a.sta
    · simp [h1, h2]; omega
    · have : a.sta = b.sta := by omega
      by_cases h3 : a.b.ten < b.b.ten
      · simp [this, h3]
      · by_cases h4 : b.b.ten < a.b.ten
        · simp [this, h3, h4]
        · simp [this, h3, h4]
def lessAt (l : List Qd) (i j : Nat) : Bool := match l[i]?, l[j]? with
  | some a, some b => lessQ a b
  | _, _ => false
/-- The entry that is picked among the first k. -/
def pickN (l : List Qd) (may : List Bool) : Nat → Option Nat
  | 0 => none
  | k + 1 => if may[k]? = some true then (match pickN l may k with
      | none => some k
      | some b => if lessAt l k b then some k else some b) else pickN l may k
theorem pickN_lt (l : List Qd) (may : List Bool) : ∀ k b, pickN l may k = some b → b < k
  | 0, b, h => by simp [pickN] at h
  | k + 1, b, h => by
    have ih := pickN_lt l may k
    unfold pickN at h
    split at h
    · split at h
      · cases h; omega
      · rename_i b' hb'
        have := ih b' hb'
        split at h <;> cases h <;> omega
    · have := ih b h; omega
def bcells (l : List Bool) : List Value := l.map .bool
theorem bcells_at {l : List Bool} {k : Nat} {b : Bool} (h : l[k]? = some b) : (bcells l)[k]? = some (.bool b) := by simp [bcells, h]

set_option maxRecDepth 100000 in
set_option maxHeartbeats 4000000 in
theorem fairPick_any (l : List Qd) (may : List Bool) (v mv : Value) (w : World) (h : Rd w v 12 l.length (qcells l)) (hm : Rd w mv 1 may.length (bcells may)) :
    Calls Try.prog 22 #[v, mv] w fun e w' => e = .returned (.tuple #[.int .i64 ((pickN l may l.length).getD 0 : Nat), .bool (pickN l may l.length).isSome]) ∧ Bel w w' := by
  obtain ⟨_, A, cp, rfl, hcp, hmx, hr⟩ := h
  obtain ⟨_, A', cp', rfl, hcp', hmx', hr'⟩ := hm
  unfold maxLen at hmx hmx'
  obtain ⟨n, Hn⟩ : ∃ n, Hid (n = l.length) := ⟨_, rfl⟩
  obtain ⟨m, Hm⟩ : ∃ m, Hid (m = may.length) := ⟨_, rfl⟩
  obtain ⟨R, HRes⟩ : ∃ R, Hid (R = pickN l may l.length) := ⟨_, rfl⟩
  rw [← HRes.out]
  rw [← Hn.out] at hcp hr ⊢
  rw [← Hm.out] at hcp' hr' ⊢
  have HR := Lib.hid hr
  have HR' := Lib.hid hr'
  clear hr hr'
  go_enter Try.func22, Try.ntmps22
  go_wp2
  go_loopw [6, 7, 13] (fun bv fv iv wr => ∃ (i : Nat) (o : Option Nat), bv = .int .i64 (o.getD 0 : Nat) ∧ fv = .bool o.isSome ∧ iv = .int .i64 i ∧ i ≤ n ∧ Hid (pickN l may i = o) ∧ Bel w wr) (fun _ _ iv _ => n - (intOf iv).toNat)
  case atStart => exact ⟨0, none, rfl, rfl, rfl, by omega, rfl, (by repeat (first | (with_reducible exact Bel.refl _) | (with_reducible assumption) | (with_reducible refine Bel.drewN ?_ _) | (with_reducible refine Bel.drew ?_) | (with_reducible refine Bel.alloc ?_ _) | (with_reducible refine Bel.setNew ?_ ?_ _) | (with_reducible refine Bel.trans ?_ (by assumption)) | (focus (simp; done)) | (focus (simp; omega))))⟩
  case round =>
    obtain ⟨i, o, rfl, rfl, rfl, p1, HO, hbr⟩ := hrel
    by_cases hlt : i < n
    · obtain ⟨b, of, rfl, hlb, hcell⟩ := HR.out (by omega)
      obtain ⟨q, hq⟩ : ∃ q, l[i]? = some q := ⟨l[i]'(by have := Hn.out; omega), List.getElem?_eq_getElem _⟩
      have hrow := (row_at Qd.cells_len hcell hq).bel hbr hlb
      have HQ := Lib.hid hq
      have i1 : (i : Int) < (n : Int) := by omega
      have HC := Lib.hid hcell
      clear hcell hq
      by_cases hmi : i < m
      · obtain ⟨b', o', rfl, hlb', hcell'⟩ := HR'.out (by omega)
        obtain ⟨y, hy⟩ : ∃ y, may[i]? = some y := ⟨may[i]'(by have := Hm.out; omega), List.getElem?_eq_getElem _⟩
        have m0 : wr.cell? ⟨b', o' + i, none⟩ = some (.bool y) := by rw [hbr.cellAt _ _ hlb']; exact hcell' _ _ (bcells_at hy)
        have HY := Lib.hid hy
        have j1 : (i : Int) < (m : Int) := by omega
        clear hcell' hy
        cases y
        · have HS : Hid (pickN l may (i + 1) = o) := by show _ = _; rw [pickN, if_neg (by rw [HY.out]; simp)]; exact HO.out
          have c0 := (hrow).cell 0 rfl
          have c1 := (hrow).cell 1 rfl
          have c2 := (hrow).cell 2 rfl
          have c3 := (hrow).cell 3 rfl
          have c4 := (hrow).cell 4 rfl
          have c5 := (hrow).cell 5 rfl
          have c6 := (hrow).cell 6 rfl
          have c7 := (hrow).cell 7 rfl
          have c8 := (hrow).cell 8 rfl
          have c9 := (hrow).cell 9 rfl
          have ca := (hrow).cell 10 rfl
          have cb := (hrow).cell 11 rfl
          rw [Nat.add_zero] at c0
          clear hrow
          have lk := World.block_lt_of_cell? _ _ m0
          go_wp2
          go_roundw
          case rel => exact ⟨i + 1, o, rfl, rfl, by go_num, by omega, HS, (by repeat (first | (with_reducible exact Bel.refl _) | (with_reducible assumption) | (with_reducible refine Bel.drewN ?_ _) | (with_reducible refine Bel.drew ?_) | (with_reducible refine Bel.alloc ?_ _) | (with_reducible refine Bel.setNew ?_ ?_ _) | (with_reducible refine Bel.trans ?_ (by assumption)) | (focus (simp; done)) | (focus (simp; omega))))⟩
          case measure => simp [intOf]; omega
        · cases o with
          | none =>
            have HS : Hid (pickN l may (i + 1) = some i) := by show _ = _; rw [pickN, if_pos HY.out, HO.out]
            obtain ⟨qb, hqb⟩ : ∃ q, l[0]? = some q := ⟨l[0]'(by have := Hn.out; omega), List.getElem?_eq_getElem _⟩
            have hrow2 := (row_at Qd.cells_len HC.out hqb).bel hbr hlb
            rw [show of + 0 * 12 = of by omega] at hrow2
            have c0 := (hrow).cell 0 rfl
            have c1 := (hrow).cell 1 rfl
            have c2 := (hrow).cell 2 rfl
            have c3 := (hrow).cell 3 rfl
            have c4 := (hrow).cell 4 rfl
            have c5 := (hrow).cell 5 rfl
            have c6 := (hrow).cell 6 rfl
            have c7 := (hrow).cell 7 rfl
            have c8 := (hrow).cell 8 rfl
            have c9 := (hrow).cell 9 rfl
            have ca := (hrow).cell 10 rfl
            have cb := (hrow).cell 11 rfl
            rw [Nat.add_zero] at c0
            have d0 := (hrow2).cell 0 rfl
            have d1 := (hrow2).cell 1 rfl
            have d2 := (hrow2).cell 2 rfl
            have d3 := (hrow2).cell 3 rfl
            have d4 := (hrow2).cell 4 rfl
            have d5 := (hrow2).cell 5 rfl
            have d6 := (hrow2).cell 6 rfl
            have d7 := (hrow2).cell 7 rfl
            have d8 := (hrow2).cell 8 rfl
            have d9 := (hrow2).cell 9 rfl
            have da := (hrow2).cell 10 rfl
            have db := (hrow2).cell 11 rfl
            rw [Nat.add_zero] at d0
            clear hrow hrow2 hqb
            have lk := World.block_lt_of_cell? _ _ m0
            have hlw : b < wr.heap.size := Nat.lt_of_lt_of_le hlb hbr.size
            have hA := (AtF.new wr 53 [.int .i64 (q).b.id, .int .i64 (q).b.ten, .int .i64 (q).b.knd, .int .i64 (q).b.sec, .int .i64 (q).b.cnt, .string (q).b.dat, .bool (q).b.fua, .slice (q).b.mA (q).b.mL (q).b.mC, .int .i64 (q).b.tim, .int .i64 (q).due, .int .i64 (q).sta, .int .i64 (q).tri]).alloc (.cells #[.int .i64 (qb).b.id, .int .i64 (qb).b.ten, .int .i64 (qb).b.knd, .int .i64 (qb).b.sec, .int .i64 (qb).b.cnt, .string (qb).b.dat, .bool (qb).b.fua, .slice (qb).b.mA (qb).b.mL (qb).b.mC, .int .i64 (qb).b.tim, .int .i64 (qb).due, .int .i64 (qb).sta, .int .i64 (qb).tri] 53)
            have hB := AtF.new (wr.alloc (.cells #[.int .i64 (q).b.id, .int .i64 (q).b.ten, .int .i64 (q).b.knd, .int .i64 (q).b.sec, .int .i64 (q).b.cnt, .string (q).b.dat, .bool (q).b.fua, .slice (q).b.mA (q).b.mL (q).b.mC, .int .i64 (q).b.tim, .int .i64 (q).due, .int .i64 (q).sta, .int .i64 (q).tri] 53)) 53 [.int .i64 (qb).b.id, .int .i64 (qb).b.ten, .int .i64 (qb).b.knd, .int .i64 (qb).b.sec, .int .i64 (qb).b.cnt, .string (qb).b.dat, .bool (qb).b.fua, .slice (qb).b.mA (qb).b.mL (qb).b.mC, .int .i64 (qb).b.tim, .int .i64 (qb).due, .int .i64 (qb).sta, .int .i64 (qb).tri]
            have hbW : Bel w ((wr.alloc (.cells #[.int .i64 (q).b.id, .int .i64 (q).b.ten, .int .i64 (q).b.knd, .int .i64 (q).b.sec, .int .i64 (q).b.cnt, .string (q).b.dat, .bool (q).b.fua, .slice (q).b.mA (q).b.mL (q).b.mC, .int .i64 (q).b.tim, .int .i64 (q).due, .int .i64 (q).sta, .int .i64 (q).tri] 53)).alloc (.cells #[.int .i64 (qb).b.id, .int .i64 (qb).b.ten, .int .i64 (qb).b.knd, .int .i64 (qb).b.sec, .int .i64 (qb).b.cnt, .string (qb).b.dat, .bool (qb).b.fua, .slice (qb).b.mA (qb).b.mL (qb).b.mC, .int .i64 (qb).b.tim, .int .i64 (qb).due, .int .i64 (qb).sta, .int .i64 (qb).tri] 53)) := (hbr.alloc _).alloc _
            simp only [World.size_alloc] at hB
            go_wp2_with fail
            clear c0 c1 c2 c3 c4 c5 c6 c7 c8 c9 ca cb
            clear d0 d1 d2 d3 d4 d5 d6 d7 d8 d9 da db
            clear m0 lk
            generalize (wr.alloc (.cells #[.int .i64 (q).b.id, .int .i64 (q).b.ten, .int .i64 (q).b.knd, .int .i64 (q).b.sec, .int .i64 (q).b.cnt, .string (q).b.dat, .bool (q).b.fua, .slice (q).b.mA (q).b.mL (q).b.mC, .int .i64 (q).b.tim, .int .i64 (q).due, .int .i64 (q).sta, .int .i64 (q).tri] 53)).alloc (.cells #[.int .i64 (qb).b.id, .int .i64 (qb).b.ten, .int .i64 (qb).b.knd, .int .i64 (qb).b.sec, .int .i64 (qb).b.cnt, .string (qb).b.dat, .bool (qb).b.fua, .slice (qb).b.mA (qb).b.mL (qb).b.mC, .int .i64 (qb).b.tim, .int .i64 (qb).due, .int .i64 (qb).sta, .int .i64 (qb).tri] 53) = W at *
            refine wp_region_lex [7, 14, 15, 16] 19 (by kernel_rfl) (by kernel_rfl) ?_
            simp only [List.take_succ_cons, List.take_zero, List.drop_succ_cons, List.drop_zero]
            with_reducible refine lex_seg 7 _ _ _ _ (by kernel_rfl) ?_
            simp only [List.take_succ_cons, List.take_zero, List.drop_succ_cons, List.drop_zero]
            try simp only [Act.put, List.setIfInBounds_toArray, List.set_cons_succ, List.set_cons_zero]
            repeat (go_big_quiet_step (fail))
            with_reducible refine wpQuiet_nil ?_
            with_reducible refine lex_skip (by kernel_rfl) ?_
            try simp only [Act.put, List.setIfInBounds_toArray, List.set_cons_succ, List.set_cons_zero]
            with_reducible refine lex_seg 6 _ _ _ _ (by kernel_rfl) ?_
            simp only [List.take_succ_cons, List.take_zero, List.drop_succ_cons, List.drop_zero]
            try simp only [Act.put, List.setIfInBounds_toArray, List.set_cons_succ, List.set_cons_zero]
            repeat (go_big_quiet_step (fail))
            with_reducible refine wpQuiet_nil ?_
            with_reducible refine lex_skip (by kernel_rfl) ?_
            try simp only [Act.put, List.setIfInBounds_toArray, List.set_cons_succ, List.set_cons_zero]
            with_reducible refine lex_skip (by kernel_rfl) ?_
            try simp only [Act.put, List.setIfInBounds_toArray, List.set_cons_succ, List.set_cons_zero]
            with_reducible refine lex_skip (by kernel_rfl) ?_
            try simp only [Act.put, List.setIfInBounds_toArray, List.set_cons_succ, List.set_cons_zero]
            with_reducible refine lex_seg 2 _ _ _ _ (by kernel_rfl) ?_
            simp only [List.take_succ_cons, List.take_zero, List.drop_succ_cons, List.drop_zero]
            try simp only [Act.put, List.setIfInBounds_toArray, List.set_cons_succ, List.set_cons_zero]
            repeat (go_big_quiet_step (fail))
            with_reducible refine wpQuiet_nil ?_
            with_reducible refine lex_nil ?_
            go_wp2
            go_roundw
            case rel => exact ⟨i + 1, some i, rfl, rfl, by go_num, by omega, HS, (by repeat (first | (with_reducible exact Bel.refl _) | (with_reducible assumption) | (with_reducible refine Bel.drewN ?_ _) | (with_reducible refine Bel.drew ?_) | (with_reducible refine Bel.alloc ?_ _) | (with_reducible refine Bel.setNew ?_ ?_ _) | (with_reducible refine Bel.trans ?_ (by assumption)) | (focus (simp; done)) | (focus (simp; omega))))⟩
            case measure => simp [intOf]; omega
          | some k =>
            have hk := pickN_lt l may i k HO.out
            obtain ⟨qb, hqb⟩ : ∃ q, l[k]? = some q := ⟨l[k]'(by have := Hn.out; omega), List.getElem?_eq_getElem _⟩
            have hle : lessAt l i k = lessQ q qb := by unfold lessAt; rw [HQ.out, hqb]
            have hor := lessQ_or q qb
            obtain ⟨r, HR5⟩ : ∃ r, Hid (r = if cmpI q.sta qb.sta = 0 then cmpI q.b.ten qb.b.ten else cmpI q.sta qb.sta) := ⟨_, rfl⟩
            rw [← HR5.out] at hor
            have i3 : (k : Int) < (n : Int) := by omega
            cases hz : lessQ q qb
            · rw [hz] at hle hor
              have HS : Hid (pickN l may (i + 1) = some k) := by show _ = _; rw [pickN, if_pos HY.out, HO.out]; simp [hle]
              have hr5 : 0 ≤ r := by simp at hor; exact hor
              clear hle hor hz
              have hrow2 := (row_at Qd.cells_len HC.out hqb).bel hbr hlb
              rw [show of + k * 12 = of + k * 12 from rfl] at hrow2
              have c0 := (hrow).cell 0 rfl
              have c1 := (hrow).cell 1 rfl
              have c2 := (hrow).cell 2 rfl
              have c3 := (hrow).cell 3 rfl
              have c4 := (hrow).cell 4 rfl
              have c5 := (hrow).cell 5 rfl
              have c6 := (hrow).cell 6 rfl
              have c7 := (hrow).cell 7 rfl
              have c8 := (hrow).cell 8 rfl
              have c9 := (hrow).cell 9 rfl
              have ca := (hrow).cell 10 rfl
              have cb := (hrow).cell 11 rfl
              rw [Nat.add_zero] at c0
              have d0 := (hrow2).cell 0 rfl
              have d1 := (hrow2).cell 1 rfl
              have d2 := (hrow2).cell 2 rfl
              have d3 := (hrow2).cell 3 rfl
              have d4 := (hrow2).cell 4 rfl
              have d5 := (hrow2).cell 5 rfl
              have d6 := (hrow2).cell 6 rfl
              have d7 := (hrow2).cell 7 rfl
              have d8 := (hrow2).cell 8 rfl
              have d9 := (hrow2).cell 9 rfl
              have da := (hrow2).cell 10 rfl
              have db := (hrow2).cell 11 rfl
              rw [Nat.add_zero] at d0
              clear hrow hrow2 hqb
              have lk := World.block_lt_of_cell? _ _ m0
              have hlw : b < wr.heap.size := Nat.lt_of_lt_of_le hlb hbr.size
              have hA := (AtF.new wr 53 [.int .i64 (q).b.id, .int .i64 (q).b.ten, .int .i64 (q).b.knd, .int .i64 (q).b.sec, .int .i64 (q).b.cnt, .string (q).b.dat, .bool (q).b.fua, .slice (q).b.mA (q).b.mL (q).b.mC, .int .i64 (q).b.tim, .int .i64 (q).due, .int .i64 (q).sta, .int .i64 (q).tri]).alloc (.cells #[.int .i64 (qb).b.id, .int .i64 (qb).b.ten, .int .i64 (qb).b.knd, .int .i64 (qb).b.sec, .int .i64 (qb).b.cnt, .string (qb).b.dat, .bool (qb).b.fua, .slice (qb).b.mA (qb).b.mL (qb).b.mC, .int .i64 (qb).b.tim, .int .i64 (qb).due, .int .i64 (qb).sta, .int .i64 (qb).tri] 53)
              have hB := AtF.new (wr.alloc (.cells #[.int .i64 (q).b.id, .int .i64 (q).b.ten, .int .i64 (q).b.knd, .int .i64 (q).b.sec, .int .i64 (q).b.cnt, .string (q).b.dat, .bool (q).b.fua, .slice (q).b.mA (q).b.mL (q).b.mC, .int .i64 (q).b.tim, .int .i64 (q).due, .int .i64 (q).sta, .int .i64 (q).tri] 53)) 53 [.int .i64 (qb).b.id, .int .i64 (qb).b.ten, .int .i64 (qb).b.knd, .int .i64 (qb).b.sec, .int .i64 (qb).b.cnt, .string (qb).b.dat, .bool (qb).b.fua, .slice (qb).b.mA (qb).b.mL (qb).b.mC, .int .i64 (qb).b.tim, .int .i64 (qb).due, .int .i64 (qb).sta, .int .i64 (qb).tri]
              have hbW : Bel w ((wr.alloc (.cells #[.int .i64 (q).b.id, .int .i64 (q).b.ten, .int .i64 (q).b.knd, .int .i64 (q).b.sec, .int .i64 (q).b.cnt, .string (q).b.dat, .bool (q).b.fua, .slice (q).b.mA (q).b.mL (q).b.mC, .int .i64 (q).b.tim, .int .i64 (q).due, .int .i64 (q).sta, .int .i64 (q).tri] 53)).alloc (.cells #[.int .i64 (qb).b.id, .int .i64 (qb).b.ten, .int .i64 (qb).b.knd, .int .i64 (qb).b.sec, .int .i64 (qb).b.cnt, .string (qb).b.dat, .bool (qb).b.fua, .slice (qb).b.mA (qb).b.mL (qb).b.mC, .int .i64 (qb).b.tim, .int .i64 (qb).due, .int .i64 (qb).sta, .int .i64 (qb).tri] 53)) := (hbr.alloc _).alloc _
              simp only [World.size_alloc] at hB
              go_wp2_with fail
              clear c0 c1 c2 c3 c4 c5 c6 c7 c8 c9 ca cb
              clear d0 d1 d2 d3 d4 d5 d6 d7 d8 d9 da db
              clear m0 lk
              generalize (wr.alloc (.cells #[.int .i64 (q).b.id, .int .i64 (q).b.ten, .int .i64 (q).b.knd, .int .i64 (q).b.sec, .int .i64 (q).b.cnt, .string (q).b.dat, .bool (q).b.fua, .slice (q).b.mA (q).b.mL (q).b.mC, .int .i64 (q).b.tim, .int .i64 (q).due, .int .i64 (q).sta, .int .i64 (q).tri] 53)).alloc (.cells #[.int .i64 (qb).b.id, .int .i64 (qb).b.ten, .int .i64 (qb).b.knd, .int .i64 (qb).b.sec, .int .i64 (qb).b.cnt, .string (qb).b.dat, .bool (qb).b.fua, .slice (qb).b.mA (qb).b.mL (qb).b.mC, .int .i64 (qb).b.tim, .int .i64 (qb).due, .int .i64 (qb).sta, .int .i64 (qb).tri] 53) = W at *
              have a1 := hA.1.2 1 _ rfl
              have a2 := hA.1.2 10 _ rfl
              have b1 := hB.1.2 1 _ rfl
              have b2 := hB.1.2 10 _ rfl
              have rg0 := fun d os => cell_regrown a1 d os
              have rg1 := fun d os => cell_regrown a2 d os
              have rg2 := fun d os => cell_regrown b1 d os
              have rg3 := fun d os => cell_regrown b2 d os
              refine wp_region_lex [7, 14, 15, 16] 19 (by kernel_rfl) (by kernel_rfl) ?_
              simp only [List.take_succ_cons, List.take_zero, List.drop_succ_cons, List.drop_zero]
              with_reducible refine lex_seg 7 _ _ _ _ (by kernel_rfl) ?_
              simp only [List.take_succ_cons, List.take_zero, List.drop_succ_cons, List.drop_zero]
              try simp only [Act.put, List.setIfInBounds_toArray, List.set_cons_succ, List.set_cons_zero]
              repeat (go_big_quiet_step (fail))
              with_reducible refine wpQuiet_nil ?_
              refine lex_call 40 rfl rfl (by simp [go_sem]; rfl) ?_
              refine (compare_any q.sta qb.sta _).mono ?_; rintro e w1 ⟨rfl, rfl⟩
              refine ⟨_, rfl, Bel.refl _, ?_⟩
              with_reducible refine lex_seg 6 _ _ _ _ (by kernel_rfl) ?_
              simp only [List.take_succ_cons, List.take_zero, List.drop_succ_cons, List.drop_zero]
              try simp only [Act.put, List.setIfInBounds_toArray, List.set_cons_succ, List.set_cons_zero]
              repeat (go_big_quiet_step (fail))
              with_reducible refine wpQuiet_nil ?_
              refine lex_call 40 rfl rfl (by simp [go_sem]; rfl) ?_
              refine (compare_any q.b.ten qb.b.ten _).mono ?_; rintro e w2 ⟨rfl, rfl⟩
              refine ⟨_, rfl, Bel.refl _, ?_⟩
              try simp only [Act.put, List.setIfInBounds_toArray, List.set_cons_succ, List.set_cons_zero]
              refine lex_made rfl rfl (by simp [go_sem]; exact ⟨rfl, rfl⟩) (Bel.alloc (Bel.refl _) _) ?_
              try simp only [Act.put, List.setIfInBounds_toArray, List.set_cons_succ, List.set_cons_zero]
              refine lex_call 39 rfl rfl (by simp [go_sem]; rfl) ?_
              refine (orTwo_any (cmpI q.sta qb.sta) (cmpI q.b.ten qb.b.ten) W.heap.size _ (by simp [go_sem]) (by simp [go_sem])).mono ?_; rw [← HR5.out]; rintro e w7 ⟨rfl, rfl⟩
              refine ⟨_, rfl, Bel.refl _, ?_⟩
              with_reducible refine lex_seg 2 _ _ _ _ (by kernel_rfl) ?_
              simp only [List.take_succ_cons, List.take_zero, List.drop_succ_cons, List.drop_zero]
              try simp only [Act.put, List.setIfInBounds_toArray, List.set_cons_succ, List.set_cons_zero]
              repeat (go_big_quiet_step (fail))
              with_reducible refine wpQuiet_nil ?_
              with_reducible refine lex_nil ?_
              clear rg0 rg1 rg2 rg3
              go_wp2
              go_roundw
              case rel => exact ⟨i + 1, some k, rfl, rfl, by go_num, by omega, HS, (by repeat (first | (with_reducible exact Bel.refl _) | (with_reducible assumption) | (with_reducible refine Bel.drewN ?_ _) | (with_reducible refine Bel.drew ?_) | (with_reducible refine Bel.alloc ?_ _) | (with_reducible refine Bel.setNew ?_ ?_ _) | (with_reducible refine Bel.trans ?_ (by assumption)) | (focus (simp; done)) | (focus (simp; omega))))⟩
              case measure => simp [intOf]; omega
            · rw [hz] at hle hor
              have HS : Hid (pickN l may (i + 1) = some i) := by show _ = _; rw [pickN, if_pos HY.out, HO.out]; simp [hle]
              have hr5 : r < 0 := by simpa using hor
              clear hle hor hz
              have hrow2 := (row_at Qd.cells_len HC.out hqb).bel hbr hlb
              rw [show of + k * 12 = of + k * 12 from rfl] at hrow2
              have c0 := (hrow).cell 0 rfl
              have c1 := (hrow).cell 1 rfl
              have c2 := (hrow).cell 2 rfl
              have c3 := (hrow).cell 3 rfl
              have c4 := (hrow).cell 4 rfl
              have c5 := (hrow).cell 5 rfl
              have c6 := (hrow).cell 6 rfl
              have c7 := (hrow).cell 7 rfl
              have c8 := (hrow).cell 8 rfl
              have c9 := (hrow).cell 9 rfl
              have ca := (hrow).cell 10 rfl
              have cb := (hrow).cell 11 rfl
              rw [Nat.add_zero] at c0
              have d0 := (hrow2).cell 0 rfl
              have d1 := (hrow2).cell 1 rfl
              have d2 := (hrow2).cell 2 rfl
              have d3 := (hrow2).cell 3 rfl
              have d4 := (hrow2).cell 4 rfl
              have d5 := (hrow2).cell 5 rfl
              have d6 := (hrow2).cell 6 rfl
              have d7 := (hrow2).cell 7 rfl
              have d8 := (hrow2).cell 8 rfl
              have d9 := (hrow2).cell 9 rfl
              have da := (hrow2).cell 10 rfl
              have db := (hrow2).cell 11 rfl
              rw [Nat.add_zero] at d0
              clear hrow hrow2 hqb
              have lk := World.block_lt_of_cell? _ _ m0
              have hlw : b < wr.heap.size := Nat.lt_of_lt_of_le hlb hbr.size
              have hA := (AtF.new wr 53 [.int .i64 (q).b.id, .int .i64 (q).b.ten, .int .i64 (q).b.knd, .int .i64 (q).b.sec, .int .i64 (q).b.cnt, .string (q).b.dat, .bool (q).b.fua, .slice (q).b.mA (q).b.mL (q).b.mC, .int .i64 (q).b.tim, .int .i64 (q).due, .int .i64 (q).sta, .int .i64 (q).tri]).alloc (.cells #[.int .i64 (qb).b.id, .int .i64 (qb).b.ten, .int .i64 (qb).b.knd, .int .i64 (qb).b.sec, .int .i64 (qb).b.cnt, .string (qb).b.dat, .bool (qb).b.fua, .slice (qb).b.mA (qb).b.mL (qb).b.mC, .int .i64 (qb).b.tim, .int .i64 (qb).due, .int .i64 (qb).sta, .int .i64 (qb).tri] 53)
              have hB := AtF.new (wr.alloc (.cells #[.int .i64 (q).b.id, .int .i64 (q).b.ten, .int .i64 (q).b.knd, .int .i64 (q).b.sec, .int .i64 (q).b.cnt, .string (q).b.dat, .bool (q).b.fua, .slice (q).b.mA (q).b.mL (q).b.mC, .int .i64 (q).b.tim, .int .i64 (q).due, .int .i64 (q).sta, .int .i64 (q).tri] 53)) 53 [.int .i64 (qb).b.id, .int .i64 (qb).b.ten, .int .i64 (qb).b.knd, .int .i64 (qb).b.sec, .int .i64 (qb).b.cnt, .string (qb).b.dat, .bool (qb).b.fua, .slice (qb).b.mA (qb).b.mL (qb).b.mC, .int .i64 (qb).b.tim, .int .i64 (qb).due, .int .i64 (qb).sta, .int .i64 (qb).tri]
              have hbW : Bel w ((wr.alloc (.cells #[.int .i64 (q).b.id, .int .i64 (q).b.ten, .int .i64 (q).b.knd, .int .i64 (q).b.sec, .int .i64 (q).b.cnt, .string (q).b.dat, .bool (q).b.fua, .slice (q).b.mA (q).b.mL (q).b.mC, .int .i64 (q).b.tim, .int .i64 (q).due, .int .i64 (q).sta, .int .i64 (q).tri] 53)).alloc (.cells #[.int .i64 (qb).b.id, .int .i64 (qb).b.ten, .int .i64 (qb).b.knd, .int .i64 (qb).b.sec, .int .i64 (qb).b.cnt, .string (qb).b.dat, .bool (qb).b.fua, .slice (qb).b.mA (qb).b.mL (qb).b.mC, .int .i64 (qb).b.tim, .int .i64 (qb).due, .int .i64 (qb).sta, .int .i64 (qb).tri] 53)) := (hbr.alloc _).alloc _
              simp only [World.size_alloc] at hB
              go_wp2_with fail
              clear c0 c1 c2 c3 c4 c5 c6 c7 c8 c9 ca cb
              clear d0 d1 d2 d3 d4 d5 d6 d7 d8 d9 da db
              clear m0 lk
              generalize (wr.alloc (.cells #[.int .i64 (q).b.id, .int .i64 (q).b.ten, .int .i64 (q).b.knd, .int .i64 (q).b.sec, .int .i64 (q).b.cnt, .string (q).b.dat, .bool (q).b.fua, .slice (q).b.mA (q).b.mL (q).b.mC, .int .i64 (q).b.tim, .int .i64 (q).due, .int .i64 (q).sta, .int .i64 (q).tri] 53)).alloc (.cells #[.int .i64 (qb).b.id, .int .i64 (qb).b.ten, .int .i64 (qb).b.knd, .int .i64 (qb).b.sec, .int .i64 (qb).b.cnt, .string (qb).b.dat, .bool (qb).b.fua, .slice (qb).b.mA (qb).b.mL (qb).b.mC, .int .i64 (qb).b.tim, .int .i64 (qb).due, .int .i64 (qb).sta, .int .i64 (qb).tri] 53) = W at *
              have a1 := hA.1.2 1 _ rfl
              have a2 := hA.1.2 10 _ rfl
              have b1 := hB.1.2 1 _ rfl
              have b2 := hB.1.2 10 _ rfl
              have rg0 := fun d os => cell_regrown a1 d os
              have rg1 := fun d os => cell_regrown a2 d os
              have rg2 := fun d os => cell_regrown b1 d os
              have rg3 := fun d os => cell_regrown b2 d os
              refine wp_region_lex [7, 14, 15, 16] 19 (by kernel_rfl) (by kernel_rfl) ?_
              simp only [List.take_succ_cons, List.take_zero, List.drop_succ_cons, List.drop_zero]
              with_reducible refine lex_seg 7 _ _ _ _ (by kernel_rfl) ?_
              simp only [List.take_succ_cons, List.take_zero, List.drop_succ_cons, List.drop_zero]
              try simp only [Act.put, List.setIfInBounds_toArray, List.set_cons_succ, List.set_cons_zero]
              repeat (go_big_quiet_step (fail))
              with_reducible refine wpQuiet_nil ?_
              refine lex_call 40 rfl rfl (by simp [go_sem]; rfl) ?_
              refine (compare_any q.sta qb.sta _).mono ?_; rintro e w1 ⟨rfl, rfl⟩
              refine ⟨_, rfl, Bel.refl _, ?_⟩
              with_reducible refine lex_seg 6 _ _ _ _ (by kernel_rfl) ?_
              simp only [List.take_succ_cons, List.take_zero, List.drop_succ_cons, List.drop_zero]
              try simp only [Act.put, List.setIfInBounds_toArray, List.set_cons_succ, List.set_cons_zero]
              repeat (go_big_quiet_step (fail))
              with_reducible refine wpQuiet_nil ?_
              refine lex_call 40 rfl rfl (by simp [go_sem]; rfl) ?_
              refine (compare_any q.b.ten qb.b.ten _).mono ?_; rintro e w2 ⟨rfl, rfl⟩
              refine ⟨_, rfl, Bel.refl _, ?_⟩
              try simp only [Act.put, List.setIfInBounds_toArray, List.set_cons_succ, List.set_cons_zero]
              refine lex_made rfl rfl (by simp [go_sem]; exact ⟨rfl, rfl⟩) (Bel.alloc (Bel.refl _) _) ?_
              try simp only [Act.put, List.setIfInBounds_toArray, List.set_cons_succ, List.set_cons_zero]
              refine lex_call 39 rfl rfl (by simp [go_sem]; rfl) ?_
              refine (orTwo_any (cmpI q.sta qb.sta) (cmpI q.b.ten qb.b.ten) W.heap.size _ (by simp [go_sem]) (by simp [go_sem])).mono ?_; rw [← HR5.out]; rintro e w7 ⟨rfl, rfl⟩
              refine ⟨_, rfl, Bel.refl _, ?_⟩
              with_reducible refine lex_seg 2 _ _ _ _ (by kernel_rfl) ?_
              simp only [List.take_succ_cons, List.take_zero, List.drop_succ_cons, List.drop_zero]
              try simp only [Act.put, List.setIfInBounds_toArray, List.set_cons_succ, List.set_cons_zero]
              repeat (go_big_quiet_step (fail))
              with_reducible refine wpQuiet_nil ?_
              with_reducible refine lex_nil ?_
              clear rg0 rg1 rg2 rg3
              go_wp2
              go_roundw
              case rel => exact ⟨i + 1, some i, rfl, rfl, by go_num, by omega, HS, (by repeat (first | (with_reducible exact Bel.refl _) | (with_reducible assumption) | (with_reducible refine Bel.drewN ?_ _) | (with_reducible refine Bel.drew ?_) | (with_reducible refine Bel.alloc ?_ _) | (with_reducible refine Bel.setNew ?_ ?_ _) | (with_reducible refine Bel.trans ?_ (by assumption)) | (focus (simp; done)) | (focus (simp; omega))))⟩
              case measure => simp [intOf]; omega
      · have j1 : (m : Int) ≤ (i : Int) := by omega
        have HS : Hid (pickN l may (i + 1) = o) := by show _ = _; rw [pickN, if_neg (by rw [List.getElem?_eq_none (by have := Hm.out; omega)]; simp)]; exact HO.out
        have c0 := (hrow).cell 0 rfl
        have c1 := (hrow).cell 1 rfl
        have c2 := (hrow).cell 2 rfl
        have c3 := (hrow).cell 3 rfl
        have c4 := (hrow).cell 4 rfl
        have c5 := (hrow).cell 5 rfl
        have c6 := (hrow).cell 6 rfl
        have c7 := (hrow).cell 7 rfl
        have c8 := (hrow).cell 8 rfl
        have c9 := (hrow).cell 9 rfl
        have ca := (hrow).cell 10 rfl
        have cb := (hrow).cell 11 rfl
        rw [Nat.add_zero] at c0
        clear hrow
        go_wp2
        go_roundw
        case rel => exact ⟨i + 1, o, rfl, rfl, by go_num, by omega, HS, (by repeat (first | (with_reducible exact Bel.refl _) | (with_reducible assumption) | (with_reducible refine Bel.drewN ?_ _) | (with_reducible refine Bel.drew ?_) | (with_reducible refine Bel.alloc ?_ _) | (with_reducible refine Bel.setNew ?_ ?_ _) | (with_reducible refine Bel.trans ?_ (by assumption)) | (focus (simp; done)) | (focus (simp; omega))))⟩
        case measure => simp [intOf]; omega
    · have i2 : decide ((i : Int) < (n : Int)) = false := by simp; omega
      have i1 : (n : Int) ≤ (i : Int) := by omega
      have HE : Hid (R = o) := by show _ = _; rw [HRes.out, ← HO.out]; congr 1; have := Hn.out; omega
      have hE := HE.out
      subst hE
      go_wp2
      go_ret2
      exact ⟨rfl, (by repeat (first | (with_reducible exact Bel.refl _) | (with_reducible assumption) | (with_reducible refine Bel.drewN ?_ _) | (with_reducible refine Bel.drew ?_) | (with_reducible refine Bel.alloc ?_ _) | (with_reducible refine Bel.setNew ?_ ?_ _) | (with_reducible refine Bel.trans ?_ (by assumption)) | (focus (simp; done)) | (focus (simp; omega))))⟩
end Go.Proofs.Ytacbljfpcchbbaa
