/- deadline.Pick. -/
import Derived.Test.YtdffpnogfinehaaDpk
import Derived.Shelf.Abstract
import Derived.Laws.EntriesVeiled
namespace Go.Proofs.Ytdffpnogfinehaa
open Go.RowKit Go.Maps
set_option linter.unusedSimpArgs false

def mayAt (may : List Bool) (i : Nat) : Bool := (may[i]?).getD false
def secAt (L : List QM) (i : Nat) : Int := match L[i]? with
  | some x => x.q.b.sec
  | none => 0

set_option maxHeartbeats 2000000 in
theorem pk1_any (may : List Bool) (mv : Value) (B i : Nat) (w : World) (hc : w.cell? ⟨B, 0, none⟩ = some mv) (hm : Rd w mv 1 may.length (bcells may)) (hi : i ≤ 1000) :
    Calls Try.prog 26 #[.int .i64 (i : Int), .pointer (some ⟨B, 0, none⟩)] w fun e w' => e = .returned (.bool (mayAt may i)) ∧ Bel w w' := by
  obtain ⟨_, A', cp', rfl, hcp', hmx', hr'⟩ := hm
  unfold maxLen at hmx'
  by_cases hlt : i < may.length
  · obtain ⟨b', o', rfl, hlb', hcell'⟩ := hr' (by omega)
    obtain ⟨y, hy⟩ : ∃ y, may[i]? = some y := ⟨may[i], List.getElem?_eq_getElem _⟩
    have m0 := hcell' _ _ (bcells_at hy)
    have HV := Lib.hid (show mayAt may i = y by simp [mayAt, hy])
    rw [HV.out]
    have j1 : (i : Int) < (may.length : Int) := by omega
    obtain ⟨m, Hm⟩ : ∃ m, Hid (m = may.length) := ⟨_, rfl⟩
    rw [← Hm.out] at j1 hc hcp' hlt
    clear hcell' hr' hy
    go_enter Try.func26, Try.ntmps26
    go_wp2
    go_ret
    exact ⟨rfl, (by repeat (first | (with_reducible exact Bel.refl _) | (with_reducible assumption) | (with_reducible refine Bel.drewN ?_ _) | (with_reducible refine Bel.drew ?_) | (with_reducible refine Bel.alloc ?_ _) | (with_reducible refine Bel.setNew ?_ ?_ _) | (with_reducible refine Bel.trans ?_ (by assumption)) | (focus (simp; done)) | (focus (simp; omega))))⟩
  · have HV := Lib.hid (show mayAt may i = false by simp [mayAt, List.getElem?_eq_none (Nat.le_of_not_lt hlt)])
    rw [HV.out]
    have j1 : decide ((i : Int) < (may.length : Int)) = false := by simp; omega
    have j2 : (may.length : Int) ≤ (i : Int) := by omega
    obtain ⟨m, Hm⟩ : ∃ m, Hid (m = may.length) := ⟨_, rfl⟩
    rw [← Hm.out] at j1 j2 hc hcp' hlt
    clear hr'
    go_enter Try.func26, Try.ntmps26
    go_wp2
    go_ret
    exact ⟨rfl, (by repeat (first | (with_reducible exact Bel.refl _) | (with_reducible assumption) | (with_reducible refine Bel.drewN ?_ _) | (with_reducible refine Bel.drew ?_) | (with_reducible refine Bel.alloc ?_ _) | (with_reducible refine Bel.setNew ?_ ?_ _) | (with_reducible refine Bel.trans ?_ (by assumption)) | (focus (simp; done)) | (focus (simp; omega))))⟩

set_option maxHeartbeats 2000000 in
theorem pk2_any (L : List QM) (v : Value) (B i : Nat) (w : World) (hc : w.cell? ⟨B, 0, none⟩ = some v) (hv : QL w v L) (hL : L.length ≤ 1000) :
    Calls Try.prog 27 #[.int .i64 (i : Int), .pointer (some ⟨B, 0, none⟩)] w fun e w' => e = .returned (.int .i64 (urg L i)) ∧ Bel w w' := by
  have HU := Lib.hid (dlUrgent_any L i v w hv hL)
  generalize urg L i = u at *
  clear hv
  go_enter Try.func27, Try.ntmps27
  go_wp2_with fail
  refine HU.out.mono ?_; rintro e w2 ⟨rfl, hb2⟩
  go_wp2
  go_ret
  exact ⟨rfl, (by repeat (first | (with_reducible exact Bel.refl _) | (with_reducible assumption) | (with_reducible refine Bel.drewN ?_ _) | (with_reducible refine Bel.drew ?_) | (with_reducible refine Bel.alloc ?_ _) | (with_reducible refine Bel.setNew ?_ ?_ _) | (with_reducible refine Bel.trans ?_ (by assumption)) | (focus (simp; done)) | (focus (simp; omega))))⟩

set_option maxHeartbeats 2000000 in
theorem pk3_any (L : List QM) (v : Value) (B i : Nat) (w : World) (hc : w.cell? ⟨B, 0, none⟩ = some v) (hv : QL w v L) (hi : i < L.length) :
    Calls Try.prog 28 #[.int .i64 (i : Int), .pointer (some ⟨B, 0, none⟩)] w fun e w' => e = .returned (.int .i64 (secAt L i)) ∧ Bel w w' := by
  obtain ⟨x, hx⟩ : ∃ x, L[i]? = some x := ⟨L[i], List.getElem?_eq_getElem _⟩
  obtain ⟨b, o, c, hX⟩ := hv.at hx
  have hf := hX.form
  subst hf
  have c3 := hX.row.cell 3 rfl
  have HV := Lib.hid (show secAt L i = x.q.b.sec by simp [secAt, hx])
  rw [HV.out]
  have j1 : (i : Int) < (L.length : Int) := by omega
  obtain ⟨m, Hm⟩ : ∃ m, Hid (m = L.length) := ⟨_, rfl⟩
  rw [← Hm.out] at j1 hc hi
  clear hv hX hx
  go_enter Try.func28, Try.ntmps28
  go_wp2
  go_ret
  exact ⟨rfl, (by repeat (first | (with_reducible exact Bel.refl _) | (with_reducible assumption) | (with_reducible refine Bel.drewN ?_ _) | (with_reducible refine Bel.drew ?_) | (with_reducible refine Bel.alloc ?_ _) | (with_reducible refine Bel.setNew ?_ ?_ _) | (with_reducible refine Bel.trans ?_ (by assumption)) | (focus (simp; done)) | (focus (simp; omega))))⟩

set_option maxHeartbeats 2000000 in
theorem pk4_any (g : Bool) (u now : Int) (A B C i f1 f2 : Nat) (l1 l2 : Array Value) (w : World)
    (hA : w.cell? ⟨A, 0, none⟩ = some (.func (.func f1) #[] l1)) (hB : w.cell? ⟨B, 0, none⟩ = some (.func (.func f2) #[] l2)) (hC : w.cell? ⟨C, 0, none⟩ = some (.int .i64 now))
    (e1 : ∀ args w, (callFunc f1 args).run Try.prog w = .ok (.enter f1 args) w) (e2 : ∀ args w, (callFunc f2 args).run Try.prog w = .ok (.enter f2 args) w)
    (h1 : ∀ W, Bel w W → Calls Try.prog f1 (#[.int .i64 (i : Int)] ++ l1) W fun e w' => e = .returned (.bool g) ∧ Bel W w')
    (h2 : ∀ W, Bel w W → Calls Try.prog f2 (#[.int .i64 (i : Int)] ++ l2) W fun e w' => e = .returned (.int .i64 u) ∧ Bel W w') :
    Calls Try.prog 30 #[.int .i64 (i : Int), .pointer (some ⟨A, 0, none⟩), .pointer (some ⟨B, 0, none⟩), .pointer (some ⟨C, 0, none⟩)] w fun e w' => e = .returned (.bool (g && decide (u ≤ now))) ∧ Bel w w' := by
  have H1 := Lib.hid h1
  have H2 := Lib.hid h2
  clear h1 h2
  go_enter Try.func30, Try.ntmps30
  go_wp2_with fail
  have r0 := fun d os => cell_regrown hA d os
  have r1 := fun d os => cell_regrown hB d os
  have r2 := fun d os => cell_regrown hC d os
  cases g
  · skip
    refine wp_region_lex [2, 6] 10 (by kernel_rfl) (by kernel_rfl) ?_
    simp only [List.take_succ_cons, List.take_zero, List.drop_succ_cons, List.drop_zero]
    with_reducible refine lex_seg 2 _ _ _ _ (by kernel_rfl) ?_
    simp only [List.take_succ_cons, List.take_zero, List.drop_succ_cons, List.drop_zero]
    try simp only [Act.put, List.setIfInBounds_toArray, List.set_cons_succ, List.set_cons_zero]
    repeat (go_big_quiet_step (fail))
    with_reducible refine wpQuiet_nil ?_
    refine lex_call f1 rfl rfl (by simp [go_sem, e1]; rfl) ?_
    refine (H1.out _ (by repeat (first | (with_reducible exact Bel.refl _) | (with_reducible assumption) | (with_reducible refine Bel.drewN ?_ _) | (with_reducible refine Bel.drew ?_) | (with_reducible refine Bel.alloc ?_ _) | (with_reducible refine Bel.setNew ?_ ?_ _) | (with_reducible refine Bel.trans ?_ (by assumption)) | (focus (simp; done)) | (focus (simp; omega))))).mono ?_; rintro e w1 ⟨rfl, hb1⟩
    refine ⟨_, rfl, hb1, ?_⟩
    with_reducible refine lex_seg 3 _ _ _ _ (by kernel_rfl) ?_
    simp only [List.take_succ_cons, List.take_zero, List.drop_succ_cons, List.drop_zero]
    try simp only [Act.put, List.setIfInBounds_toArray, List.set_cons_succ, List.set_cons_zero]
    repeat (go_big_quiet_step (fail))
    with_reducible refine wpQuiet_nil ?_
    with_reducible refine lex_skip (by kernel_rfl) ?_
    try simp only [Act.put, List.setIfInBounds_toArray, List.set_cons_succ, List.set_cons_zero]
    with_reducible refine lex_seg 3 _ _ _ _ (by kernel_rfl) ?_
    simp only [List.take_succ_cons, List.take_zero, List.drop_succ_cons, List.drop_zero]
    try simp only [Act.put, List.setIfInBounds_toArray, List.set_cons_succ, List.set_cons_zero]
    repeat (go_big_quiet_step (fail))
    with_reducible refine wpQuiet_nil ?_
    with_reducible refine lex_nil ?_
    go_wp2
    go_ret
    exact ⟨rfl, (by repeat (first | (with_reducible exact Bel.refl _) | (with_reducible assumption) | (with_reducible refine Bel.drewN ?_ _) | (with_reducible refine Bel.drew ?_) | (with_reducible refine Bel.alloc ?_ _) | (with_reducible refine Bel.setNew ?_ ?_ _) | (with_reducible refine Bel.trans ?_ (by assumption)) | (focus (simp; done)) | (focus (simp; omega))))⟩
  · skip
    refine wp_region_lex [2, 6] 10 (by kernel_rfl) (by kernel_rfl) ?_
    simp only [List.take_succ_cons, List.take_zero, List.drop_succ_cons, List.drop_zero]
    with_reducible refine lex_seg 2 _ _ _ _ (by kernel_rfl) ?_
    simp only [List.take_succ_cons, List.take_zero, List.drop_succ_cons, List.drop_zero]
    try simp only [Act.put, List.setIfInBounds_toArray, List.set_cons_succ, List.set_cons_zero]
    repeat (go_big_quiet_step (fail))
    with_reducible refine wpQuiet_nil ?_
    refine lex_call f1 rfl rfl (by simp [go_sem, e1]; rfl) ?_
    refine (H1.out _ (by repeat (first | (with_reducible exact Bel.refl _) | (with_reducible assumption) | (with_reducible refine Bel.drewN ?_ _) | (with_reducible refine Bel.drew ?_) | (with_reducible refine Bel.alloc ?_ _) | (with_reducible refine Bel.setNew ?_ ?_ _) | (with_reducible refine Bel.trans ?_ (by assumption)) | (focus (simp; done)) | (focus (simp; omega))))).mono ?_; rintro e w1 ⟨rfl, hb1⟩
    refine ⟨_, rfl, hb1, ?_⟩
    with_reducible refine lex_seg 3 _ _ _ _ (by kernel_rfl) ?_
    simp only [List.take_succ_cons, List.take_zero, List.drop_succ_cons, List.drop_zero]
    try simp only [Act.put, List.setIfInBounds_toArray, List.set_cons_succ, List.set_cons_zero]
    repeat (go_big_quiet_step (fail))
    with_reducible refine wpQuiet_nil ?_
    refine lex_call f2 rfl rfl (by simp [go_sem, e2]; rfl) ?_
    refine (H2.out _ (by repeat (first | (with_reducible exact Bel.refl _) | (with_reducible assumption) | (with_reducible refine Bel.drewN ?_ _) | (with_reducible refine Bel.drew ?_) | (with_reducible refine Bel.alloc ?_ _) | (with_reducible refine Bel.setNew ?_ ?_ _) | (with_reducible refine Bel.trans ?_ (by assumption)) | (focus (simp; done)) | (focus (simp; omega))))).mono ?_; rintro e w2 ⟨rfl, hb2⟩
    refine ⟨_, rfl, hb2, ?_⟩
    with_reducible refine lex_seg 3 _ _ _ _ (by kernel_rfl) ?_
    simp only [List.take_succ_cons, List.take_zero, List.drop_succ_cons, List.drop_zero]
    try simp only [Act.put, List.setIfInBounds_toArray, List.set_cons_succ, List.set_cons_zero]
    repeat (go_big_quiet_step (fail))
    with_reducible refine wpQuiet_nil ?_
    with_reducible refine lex_nil ?_
    go_wp2
    go_ret
    exact ⟨rfl, (by repeat (first | (with_reducible exact Bel.refl _) | (with_reducible assumption) | (with_reducible refine Bel.drewN ?_ _) | (with_reducible refine Bel.drew ?_) | (with_reducible refine Bel.alloc ?_ _) | (with_reducible refine Bel.setNew ?_ ?_ _) | (with_reducible refine Bel.trans ?_ (by assumption)) | (focus (simp; done)) | (focus (simp; omega))))⟩
set_option maxHeartbeats 2000000 in
theorem pk5_any (g : Bool) (u now : Int) (A B C i f1 f2 : Nat) (l1 l2 : Array Value) (w : World)
    (hA : w.cell? ⟨A, 0, none⟩ = some (.func (.func f1) #[] l1)) (hB : w.cell? ⟨B, 0, none⟩ = some (.func (.func f2) #[] l2)) (hC : w.cell? ⟨C, 0, none⟩ = some (.int .i64 now))
    (e1 : ∀ args w, (callFunc f1 args).run Try.prog w = .ok (.enter f1 args) w) (e2 : ∀ args w, (callFunc f2 args).run Try.prog w = .ok (.enter f2 args) w)
    (h1 : ∀ W, Bel w W → Calls Try.prog f1 (#[.int .i64 (i : Int)] ++ l1) W fun e w' => e = .returned (.bool g) ∧ Bel W w')
    (h2 : ∀ W, Bel w W → Calls Try.prog f2 (#[.int .i64 (i : Int)] ++ l2) W fun e w' => e = .returned (.int .i64 u) ∧ Bel W w') :
    Calls Try.prog 31 #[.int .i64 (i : Int), .pointer (some ⟨A, 0, none⟩), .pointer (some ⟨B, 0, none⟩), .pointer (some ⟨C, 0, none⟩)] w fun e w' => e = .returned (.bool (g && decide (now ≤ u))) ∧ Bel w w' := by
  have H1 := Lib.hid h1
  have H2 := Lib.hid h2
  clear h1 h2
  go_enter Try.func31, Try.ntmps31
  go_wp2_with fail
  have r0 := fun d os => cell_regrown hA d os
  have r1 := fun d os => cell_regrown hB d os
  have r2 := fun d os => cell_regrown hC d os
  cases g
  · skip
    refine wp_region_lex [2, 6] 10 (by kernel_rfl) (by kernel_rfl) ?_
    simp only [List.take_succ_cons, List.take_zero, List.drop_succ_cons, List.drop_zero]
    with_reducible refine lex_seg 2 _ _ _ _ (by kernel_rfl) ?_
    simp only [List.take_succ_cons, List.take_zero, List.drop_succ_cons, List.drop_zero]
    try simp only [Act.put, List.setIfInBounds_toArray, List.set_cons_succ, List.set_cons_zero]
    repeat (go_big_quiet_step (fail))
    with_reducible refine wpQuiet_nil ?_
    refine lex_call f1 rfl rfl (by simp [go_sem, e1]; rfl) ?_
    refine (H1.out _ (by repeat (first | (with_reducible exact Bel.refl _) | (with_reducible assumption) | (with_reducible refine Bel.drewN ?_ _) | (with_reducible refine Bel.drew ?_) | (with_reducible refine Bel.alloc ?_ _) | (with_reducible refine Bel.setNew ?_ ?_ _) | (with_reducible refine Bel.trans ?_ (by assumption)) | (focus (simp; done)) | (focus (simp; omega))))).mono ?_; rintro e w1 ⟨rfl, hb1⟩
    refine ⟨_, rfl, hb1, ?_⟩
    with_reducible refine lex_seg 3 _ _ _ _ (by kernel_rfl) ?_
    simp only [List.take_succ_cons, List.take_zero, List.drop_succ_cons, List.drop_zero]
    try simp only [Act.put, List.setIfInBounds_toArray, List.set_cons_succ, List.set_cons_zero]
    repeat (go_big_quiet_step (fail))
    with_reducible refine wpQuiet_nil ?_
    with_reducible refine lex_skip (by kernel_rfl) ?_
    try simp only [Act.put, List.setIfInBounds_toArray, List.set_cons_succ, List.set_cons_zero]
    with_reducible refine lex_seg 3 _ _ _ _ (by kernel_rfl) ?_
    simp only [List.take_succ_cons, List.take_zero, List.drop_succ_cons, List.drop_zero]
    try simp only [Act.put, List.setIfInBounds_toArray, List.set_cons_succ, List.set_cons_zero]
    repeat (go_big_quiet_step (fail))
    with_reducible refine wpQuiet_nil ?_
    with_reducible refine lex_nil ?_
    go_wp2
    go_ret
    exact ⟨rfl, (by repeat (first | (with_reducible exact Bel.refl _) | (with_reducible assumption) | (with_reducible refine Bel.drewN ?_ _) | (with_reducible refine Bel.drew ?_) | (with_reducible refine Bel.alloc ?_ _) | (with_reducible refine Bel.setNew ?_ ?_ _) | (with_reducible refine Bel.trans ?_ (by assumption)) | (focus (simp; done)) | (focus (simp; omega))))⟩
  · skip
    refine wp_region_lex [2, 6] 10 (by kernel_rfl) (by kernel_rfl) ?_
    simp only [List.take_succ_cons, List.take_zero, List.drop_succ_cons, List.drop_zero]
    with_reducible refine lex_seg 2 _ _ _ _ (by kernel_rfl) ?_
    simp only [List.take_succ_cons, List.take_zero, List.drop_succ_cons, List.drop_zero]
    try simp only [Act.put, List.setIfInBounds_toArray, List.set_cons_succ, List.set_cons_zero]
    repeat (go_big_quiet_step (fail))
    with_reducible refine wpQuiet_nil ?_
    refine lex_call f1 rfl rfl (by simp [go_sem, e1]; rfl) ?_
    refine (H1.out _ (by repeat (first | (with_reducible exact Bel.refl _) | (with_reducible assumption) | (with_reducible refine Bel.drewN ?_ _) | (with_reducible refine Bel.drew ?_) | (with_reducible refine Bel.alloc ?_ _) | (with_reducible refine Bel.setNew ?_ ?_ _) | (with_reducible refine Bel.trans ?_ (by assumption)) | (focus (simp; done)) | (focus (simp; omega))))).mono ?_; rintro e w1 ⟨rfl, hb1⟩
    refine ⟨_, rfl, hb1, ?_⟩
    with_reducible refine lex_seg 3 _ _ _ _ (by kernel_rfl) ?_
    simp only [List.take_succ_cons, List.take_zero, List.drop_succ_cons, List.drop_zero]
    try simp only [Act.put, List.setIfInBounds_toArray, List.set_cons_succ, List.set_cons_zero]
    repeat (go_big_quiet_step (fail))
    with_reducible refine wpQuiet_nil ?_
    refine lex_call f2 rfl rfl (by simp [go_sem, e2]; rfl) ?_
    refine (H2.out _ (by repeat (first | (with_reducible exact Bel.refl _) | (with_reducible assumption) | (with_reducible refine Bel.drewN ?_ _) | (with_reducible refine Bel.drew ?_) | (with_reducible refine Bel.alloc ?_ _) | (with_reducible refine Bel.setNew ?_ ?_ _) | (with_reducible refine Bel.trans ?_ (by assumption)) | (focus (simp; done)) | (focus (simp; omega))))).mono ?_; rintro e w2 ⟨rfl, hb2⟩
    refine ⟨_, rfl, hb2, ?_⟩
    with_reducible refine lex_seg 3 _ _ _ _ (by kernel_rfl) ?_
    simp only [List.take_succ_cons, List.take_zero, List.drop_succ_cons, List.drop_zero]
    try simp only [Act.put, List.setIfInBounds_toArray, List.set_cons_succ, List.set_cons_zero]
    repeat (go_big_quiet_step (fail))
    with_reducible refine wpQuiet_nil ?_
    with_reducible refine lex_nil ?_
    go_wp2
    go_ret
    exact ⟨rfl, (by repeat (first | (with_reducible exact Bel.refl _) | (with_reducible assumption) | (with_reducible refine Bel.drewN ?_ _) | (with_reducible refine Bel.drew ?_) | (with_reducible refine Bel.alloc ?_ _) | (with_reducible refine Bel.setNew ?_ ?_ _) | (with_reducible refine Bel.trans ?_ (by assumption)) | (focus (simp; done)) | (focus (simp; omega))))⟩

def pickD (L : List QM) (may : List Bool) (head now : Int) (n : Nat) : Option Nat :=
  match pickB (fun i => mayAt may i && decide (urg L i ≤ now)) (fun i => urg L i) n with
  | some k => some k
  | none => match pickB (fun i => mayAt may i && decide (head ≤ secAt L i)) (secAt L) n with
    | some k => some k
    | none => pickB (mayAt may) (secAt L) n

set_option maxRecDepth 100000 in
set_option maxHeartbeats 4000000 in
theorem dlPickAll_any (L : List QM) (may : List Bool) (head now : Int) (v mv : Value) (w : World) (hv : QL w v L) (hm : Rd w mv 1 may.length (bcells may)) (hL : L.length ≤ 1000) :
    Calls Try.prog 11 #[v, mv, .int .i64 head, .int .i64 now] w fun e w' => e = .returned (.tuple #[.int .i64 ((pickD L may head now L.length).getD 0 : Nat), .bool (pickD L may head now L.length).isSome]) ∧ Bel w w' := by
  obtain ⟨A, c, rfl, _, _⟩ := hv.form
  obtain ⟨A', c', rfl, _, _⟩ := hm.form
  obtain ⟨R, HR⟩ : ∃ R, Hid (R = pickD L may head now L.length) := ⟨_, rfl⟩
  rw [← HR.out]
  have hR := HR.out
  unfold pickD at hR
  have eg1 := enters_of Try.func26 (by kernel_rfl) rfl
  have eg2 := enters_of Try.func27 (by kernel_rfl) rfl
  have eg3 := enters_of Try.func28 (by kernel_rfl) rfl
  have eg4 := enters_of Try.func30 (by kernel_rfl) rfl
  have eg5 := enters_of Try.func31 (by kernel_rfl) rfl
  obtain ⟨m, Hm⟩ : ∃ m, m = L.length := ⟨_, rfl⟩
  obtain ⟨m', Hm'⟩ : ∃ m', m' = may.length := ⟨_, rfl⟩
  rw [← Hm] at hv ⊢
  rw [← Hm'] at hm ⊢
  have h0 : ((((((((w.alloc (.cells #[.slice A m c] 23)).alloc (.cells #[.slice A' m' c'] 29)).alloc (.cells #[.int .i64 head] 3)).alloc (.cells #[.int .i64 now] 3)).alloc (.cells #[.func (.func 26) #[] #[.pointer (some ⟨w.heap.size + 1, 0, none⟩)]] 52)).alloc (.cells #[.func (.func 27) #[] #[.pointer (some ⟨w.heap.size, 0, none⟩)]] 53)).alloc (.cells #[.func (.func 28) #[] #[.pointer (some ⟨w.heap.size, 0, none⟩)]] 53))).cell? ⟨w.heap.size, 0, none⟩ = some (.slice A m c) := by simp [go_sem]
  have h1 : ((((((((w.alloc (.cells #[.slice A m c] 23)).alloc (.cells #[.slice A' m' c'] 29)).alloc (.cells #[.int .i64 head] 3)).alloc (.cells #[.int .i64 now] 3)).alloc (.cells #[.func (.func 26) #[] #[.pointer (some ⟨w.heap.size + 1, 0, none⟩)]] 52)).alloc (.cells #[.func (.func 27) #[] #[.pointer (some ⟨w.heap.size, 0, none⟩)]] 53)).alloc (.cells #[.func (.func 28) #[] #[.pointer (some ⟨w.heap.size, 0, none⟩)]] 53))).cell? ⟨w.heap.size + 1, 0, none⟩ = some (.slice A' m' c') := by simp [go_sem]
  have h2 : ((((((((w.alloc (.cells #[.slice A m c] 23)).alloc (.cells #[.slice A' m' c'] 29)).alloc (.cells #[.int .i64 head] 3)).alloc (.cells #[.int .i64 now] 3)).alloc (.cells #[.func (.func 26) #[] #[.pointer (some ⟨w.heap.size + 1, 0, none⟩)]] 52)).alloc (.cells #[.func (.func 27) #[] #[.pointer (some ⟨w.heap.size, 0, none⟩)]] 53)).alloc (.cells #[.func (.func 28) #[] #[.pointer (some ⟨w.heap.size, 0, none⟩)]] 53))).cell? ⟨w.heap.size + 1 + 1, 0, none⟩ = some (.int .i64 head) := by simp [go_sem]
  have h3 : ((((((((w.alloc (.cells #[.slice A m c] 23)).alloc (.cells #[.slice A' m' c'] 29)).alloc (.cells #[.int .i64 head] 3)).alloc (.cells #[.int .i64 now] 3)).alloc (.cells #[.func (.func 26) #[] #[.pointer (some ⟨w.heap.size + 1, 0, none⟩)]] 52)).alloc (.cells #[.func (.func 27) #[] #[.pointer (some ⟨w.heap.size, 0, none⟩)]] 53)).alloc (.cells #[.func (.func 28) #[] #[.pointer (some ⟨w.heap.size, 0, none⟩)]] 53))).cell? ⟨w.heap.size + 1 + 1 + 1, 0, none⟩ = some (.int .i64 now) := by simp [go_sem]
  have h4 : ((((((((w.alloc (.cells #[.slice A m c] 23)).alloc (.cells #[.slice A' m' c'] 29)).alloc (.cells #[.int .i64 head] 3)).alloc (.cells #[.int .i64 now] 3)).alloc (.cells #[.func (.func 26) #[] #[.pointer (some ⟨w.heap.size + 1, 0, none⟩)]] 52)).alloc (.cells #[.func (.func 27) #[] #[.pointer (some ⟨w.heap.size, 0, none⟩)]] 53)).alloc (.cells #[.func (.func 28) #[] #[.pointer (some ⟨w.heap.size, 0, none⟩)]] 53))).cell? ⟨w.heap.size + 1 + 1 + 1 + 1, 0, none⟩ = some (.func (.func 26) #[] #[.pointer (some ⟨w.heap.size + 1, 0, none⟩)]) := by simp [go_sem]
  have h5 : ((((((((w.alloc (.cells #[.slice A m c] 23)).alloc (.cells #[.slice A' m' c'] 29)).alloc (.cells #[.int .i64 head] 3)).alloc (.cells #[.int .i64 now] 3)).alloc (.cells #[.func (.func 26) #[] #[.pointer (some ⟨w.heap.size + 1, 0, none⟩)]] 52)).alloc (.cells #[.func (.func 27) #[] #[.pointer (some ⟨w.heap.size, 0, none⟩)]] 53)).alloc (.cells #[.func (.func 28) #[] #[.pointer (some ⟨w.heap.size, 0, none⟩)]] 53))).cell? ⟨w.heap.size + 1 + 1 + 1 + 1 + 1, 0, none⟩ = some (.func (.func 27) #[] #[.pointer (some ⟨w.heap.size, 0, none⟩)]) := by simp [go_sem]
  have h6 : ((((((((w.alloc (.cells #[.slice A m c] 23)).alloc (.cells #[.slice A' m' c'] 29)).alloc (.cells #[.int .i64 head] 3)).alloc (.cells #[.int .i64 now] 3)).alloc (.cells #[.func (.func 26) #[] #[.pointer (some ⟨w.heap.size + 1, 0, none⟩)]] 52)).alloc (.cells #[.func (.func 27) #[] #[.pointer (some ⟨w.heap.size, 0, none⟩)]] 53)).alloc (.cells #[.func (.func 28) #[] #[.pointer (some ⟨w.heap.size, 0, none⟩)]] 53))).cell? ⟨w.heap.size + 1 + 1 + 1 + 1 + 1 + 1, 0, none⟩ = some (.func (.func 28) #[] #[.pointer (some ⟨w.heap.size, 0, none⟩)]) := by simp [go_sem]
  have hX : Bel w ((((((((w.alloc (.cells #[.slice A m c] 23)).alloc (.cells #[.slice A' m' c'] 29)).alloc (.cells #[.int .i64 head] 3)).alloc (.cells #[.int .i64 now] 3)).alloc (.cells #[.func (.func 26) #[] #[.pointer (some ⟨w.heap.size + 1, 0, none⟩)]] 52)).alloc (.cells #[.func (.func 27) #[] #[.pointer (some ⟨w.heap.size, 0, none⟩)]] 53)).alloc (.cells #[.func (.func 28) #[] #[.pointer (some ⟨w.heap.size, 0, none⟩)]] 53))) := (by repeat (first | (with_reducible exact Bel.refl _) | (with_reducible assumption) | (with_reducible refine Bel.drewN ?_ _) | (with_reducible refine Bel.drew ?_) | (with_reducible refine Bel.alloc ?_ _) | (with_reducible refine Bel.setNew ?_ ?_ _) | (with_reducible refine Bel.trans ?_ (by assumption)) | (focus (simp; done)) | (focus (simp; omega))))
  have HHm := Lib.hid Hm
  have HHm' := Lib.hid Hm'
  clear Hm Hm'
  go_enter Try.func11, Try.ntmps11
  go_wp2_with fail
  have hvX := hv.bel hX
  have hmX : Rd ((((((((w.alloc (.cells #[.slice A m c] 23)).alloc (.cells #[.slice A' m' c'] 29)).alloc (.cells #[.int .i64 head] 3)).alloc (.cells #[.int .i64 now] 3)).alloc (.cells #[.func (.func 26) #[] #[.pointer (some ⟨w.heap.size + 1, 0, none⟩)]] 52)).alloc (.cells #[.func (.func 27) #[] #[.pointer (some ⟨w.heap.size, 0, none⟩)]] 53)).alloc (.cells #[.func (.func 28) #[] #[.pointer (some ⟨w.heap.size, 0, none⟩)]] 53))) (.slice A' m' c') 1 may.length (bcells may) := by have := hm.bel hX; rwa [HHm'.out] at this ⊢
  generalize (((((((w.alloc (.cells #[.slice A m c] 23)).alloc (.cells #[.slice A' m' c'] 29)).alloc (.cells #[.int .i64 head] 3)).alloc (.cells #[.int .i64 now] 3)).alloc (.cells #[.func (.func 26) #[] #[.pointer (some ⟨w.heap.size + 1, 0, none⟩)]] 52)).alloc (.cells #[.func (.func 27) #[] #[.pointer (some ⟨w.heap.size, 0, none⟩)]] 53)).alloc (.cells #[.func (.func 28) #[] #[.pointer (some ⟨w.heap.size, 0, none⟩)]] 53)) = X at *
  have HP1 := Lib.hid (fun W (i : Nat) (hW : Bel X W) (hi : i < L.length) => pk1_any may _ _ i W ((hW.cellAt _ _ (World.block_lt_of_cell? _ _ h1)).trans h1) (hmX.bel hW) (by omega))
  have HP2 := Lib.hid (fun W (i : Nat) (hW : Bel X W) (hi : i < L.length) => pk2_any L _ _ i W ((hW.cellAt _ _ (World.block_lt_of_cell? _ _ h0)).trans h0) (hvX.bel hW) hL)
  have HP3 := Lib.hid (fun W (i : Nat) (hW : Bel X W) (hi : i < L.length) => pk3_any L _ _ i W ((hW.cellAt _ _ (World.block_lt_of_cell? _ _ h0)).trans h0) (hvX.bel hW) hi)
  have HP4 := Lib.hid (fun W (i : Nat) (hW : Bel X W) (hi : i < L.length) => pk4_any (mayAt may i) (urg L i) now _ _ _ i _ _ _ _ W ((hW.cellAt _ _ (World.block_lt_of_cell? _ _ h4)).trans h4) ((hW.cellAt _ _ (World.block_lt_of_cell? _ _ h5)).trans h5) ((hW.cellAt _ _ (World.block_lt_of_cell? _ _ h3)).trans h3) eg1 eg2 (fun W' hW' => HP1.out W' i (hW.trans hW') hi) (fun W' hW' => HP2.out W' i (hW.trans hW') hi))
  have HP5 := Lib.hid (fun W (i : Nat) (hW : Bel X W) (hi : i < L.length) => pk5_any (mayAt may i) (secAt L i) head _ _ _ i _ _ _ _ W ((hW.cellAt _ _ (World.block_lt_of_cell? _ _ h4)).trans h4) ((hW.cellAt _ _ (World.block_lt_of_cell? _ _ h6)).trans h6) ((hW.cellAt _ _ (World.block_lt_of_cell? _ _ h2)).trans h2) eg1 eg3 (fun W' hW' => HP1.out W' i (hW.trans hW') hi) (fun W' hW' => HP3.out W' i (hW.trans hW') hi))
  have HC1 := Lib.hid (fun W (hW : Bel X W) => dlPick_any A L.length c 30 27 #[.pointer (some ⟨w.heap.size + 1 + 1 + 1 + 1, 0, none⟩), .pointer (some ⟨w.heap.size + 1 + 1 + 1 + 1 + 1, 0, none⟩), .pointer (some ⟨w.heap.size + 1 + 1 + 1, 0, none⟩)] #[.pointer (some ⟨w.heap.size, 0, none⟩)] (fun i => mayAt may i && decide (urg L i ≤ now)) (fun i => urg L i) W hL eg4 eg2 (fun W' i hW' hi => HP4.out W' i (hW.trans hW') hi) (fun W' i hW' hi => HP2.out W' i (hW.trans hW') hi))
  have HC2 := Lib.hid (fun W (hW : Bel X W) => dlPick_any A L.length c 31 28 #[.pointer (some ⟨w.heap.size + 1 + 1 + 1 + 1, 0, none⟩), .pointer (some ⟨w.heap.size + 1 + 1 + 1 + 1 + 1 + 1, 0, none⟩), .pointer (some ⟨w.heap.size + 1 + 1, 0, none⟩)] #[.pointer (some ⟨w.heap.size, 0, none⟩)] (fun i => mayAt may i && decide (head ≤ secAt L i)) (secAt L) W hL eg5 eg3 (fun W' i hW' hi => HP5.out W' i (hW.trans hW') hi) (fun W' i hW' hi => HP3.out W' i (hW.trans hW') hi))
  have HC3 := Lib.hid (fun W (hW : Bel X W) => dlPick_any A L.length c 26 28 #[.pointer (some ⟨w.heap.size + 1, 0, none⟩)] #[.pointer (some ⟨w.heap.size, 0, none⟩)] (mayAt may) (secAt L) W hL eg1 eg3 (fun W' i hW' hi => HP1.out W' i (hW.trans hW') hi) (fun W' i hW' hi => HP3.out W' i (hW.trans hW') hi))
  obtain ⟨R1, HR1⟩ : ∃ R1, Hid (R1 = pickB (fun i => mayAt may i && decide (urg L i ≤ now)) (fun i => urg L i) L.length) := ⟨_, rfl⟩
  obtain ⟨R2, HR2⟩ : ∃ R2, Hid (R2 = pickB (fun i => mayAt may i && decide (head ≤ secAt L i)) (secAt L) L.length) := ⟨_, rfl⟩
  obtain ⟨R3, HR3⟩ : ∃ R3, Hid (R3 = pickB (mayAt may) (secAt L) L.length) := ⟨_, rfl⟩
  rw [← HR1.out] at HC1 hR
  rw [← HR2.out] at HC2 hR
  rw [← HR3.out] at HC3 hR
  have g0 : ∀ W, Bel X W → W.cell? ⟨w.heap.size, 0, none⟩ = some (.slice A m c) := fun W (hW : Bel X W) => (hW.cellAt _ _ (World.block_lt_of_cell? _ _ h0)).trans h0
  have g4 : ∀ W, Bel X W → W.cell? ⟨w.heap.size + 1 + 1 + 1 + 1, 0, none⟩ = some (.func (.func 26) #[] #[.pointer (some ⟨w.heap.size + 1, 0, none⟩)]) := fun W (hW : Bel X W) => (hW.cellAt _ _ (World.block_lt_of_cell? _ _ h4)).trans h4
  have g5 : ∀ W, Bel X W → W.cell? ⟨w.heap.size + 1 + 1 + 1 + 1 + 1, 0, none⟩ = some (.func (.func 27) #[] #[.pointer (some ⟨w.heap.size, 0, none⟩)]) := fun W (hW : Bel X W) => (hW.cellAt _ _ (World.block_lt_of_cell? _ _ h5)).trans h5
  have g6 : ∀ W, Bel X W → W.cell? ⟨w.heap.size + 1 + 1 + 1 + 1 + 1 + 1, 0, none⟩ = some (.func (.func 28) #[] #[.pointer (some ⟨w.heap.size, 0, none⟩)]) := fun W (hW : Bel X W) => (hW.cellAt _ _ (World.block_lt_of_cell? _ _ h6)).trans h6
  have G0 := Lib.hid g0
  have G4 := Lib.hid g4
  have G5 := Lib.hid g5
  have G6 := Lib.hid g6
  rw [← HHm.out] at HC1 HC2 HC3 hL
  clear HP1 HP2 HP3 HP4 HP5 hv hm hvX hmX HR1 HR2 HR3 eg1 eg2 eg3 eg4 eg5 h0 h1 h2 h3 h4 h5 h6 g0 g4 g5 g6
  refine (HC1.out _ (Bel.refl _)).mono ?_; rintro e w1 ⟨rfl, hb1⟩
  cases R1 with
  | some k =>
    have HF := Lib.hid (show R = some k from hR)
    clear hR
    go_wp2
    go_ret2
    exact ⟨by rw [HF.out]; rfl, hX.trans hb1⟩
  | none =>
    have k0 := G0.out _ hb1
    have k4 := G4.out _ hb1
    have k6 := G6.out _ hb1
    have HF := Lib.hid hR
    clear hR
    go_wp2_with fail
    refine (HC2.out _ hb1).mono ?_; rintro e w2 ⟨rfl, hb2⟩
    clear k0 k4 k6
    cases R2 with
    | some k =>
      have HF := Lib.hid (show R = some k from HF.out)
      go_wp2
      go_ret2
      exact ⟨by rw [HF.out]; rfl, hX.trans (hb1.trans hb2)⟩
    | none =>
      have k0 := G0.out _ (hb1.trans hb2)
      have k4 := G4.out _ (hb1.trans hb2)
      have k6 := G6.out _ (hb1.trans hb2)
      have HF := Lib.hid (show R = R3 from HF.out)
      go_wp2_with fail
      refine (HC3.out _ (hb1.trans hb2)).mono ?_; rintro e w3 ⟨rfl, hb3⟩
      go_wp2
      go_ret2
      exact ⟨by rw [HF.out]; rfl, hX.trans ((hb1.trans hb2).trans hb3)⟩
end Go.Proofs.Ytdffpnogfinehaa
