/- The law's entry and awake. -/
import Derived.Test.YtdffpnogfinehaaFree
import Derived.Test.YtdffpnogfinehaaSetRow
import Derived.Test.YtdffpnogfinehaaBn
namespace Go.Proofs.Ytdffpnogfinehaa
open Go.RowKit Go.Maps
set_option linter.unusedSimpArgs false

def entQ (id sec due : Int) (A : Nat) : QM := ⟨⟨⟨id, 0, 1, sec, 1, ⟨#[]⟩, false, some ⟨A, 0, none⟩, 1, 1, 0⟩, due, 0, 0⟩, [⟨id, 0, 1⟩]⟩

set_option maxRecDepth 100000 in
set_option maxHeartbeats 2000000 in
theorem entry_any (id sec due : Int) (w : World) (hi : IsInt id) :
    Calls Try.prog 33 #[.int .i64 id, .int .i64 sec, .int .i64 due] w fun e w' => ∃ A, e = .returned (.agg #[.int .i64 id, .int .i64 0, .int .i64 1, .int .i64 sec, .int .i64 1, .string ⟨#[]⟩, .bool false, .slice (some ⟨A, 0, none⟩) 1 1, .int .i64 0, .int .i64 due, .int .i64 0, .int .i64 0]) ∧ Mems w' (entQ id sec due A).q.b [⟨id, 0, 1⟩] ∧ Bel w w' := by
  have HI := Lib.hid hi
  go_enter Try.func33, Try.ntmps33
  go_wp2
  refine bodyPost_ret (v := .agg #[.int .i64 id, .int .i64 0, .int .i64 1, .int .i64 sec, .int .i64 1, .string ⟨#[]⟩, .bool false, .slice (some ⟨w.heap.size + 1, 0, none⟩) 1 1, .int .i64 0, .int .i64 due, .int .i64 0, .int .i64 0]) (by simp [results, Try.results33, go_sem]) rfl ⟨w.heap.size + 1, rfl, ⟨rfl, ?_, fun m hm => ?_, by show (0 : Nat) ≤ _; omega⟩, (by repeat (first | (with_reducible exact Bel.refl _) | (with_reducible assumption) | (with_reducible refine Bel.drewN ?_ _) | (with_reducible refine Bel.drew ?_) | (with_reducible refine Bel.alloc ?_ _) | (with_reducible refine Bel.setNew ?_ ?_ _) | (with_reducible refine Bel.trans ?_ (by assumption)) | (focus (simp; done)) | (focus (simp; omega))))⟩
  · refine rd_made ?_ _ _ 3 1 ?_ (by unfold maxLen; omega)
    · simp
    · rfl
  · rw [List.mem_singleton] at hm
    subst hm
    exact HI.out

def awkL (A B C : Nat) : List QM := [entQ 1 9 50 A, entQ 2 2 50 B, entQ 3 5 50 C]
theorem awk_pick1 (A B C : Nat) : pickD (awkL A B C) [true, true, true] 4 10 3 = some 2 := by rfl
theorem awk_pick2 (A B C : Nat) : pickD (awkL A B C) [true, true, false] 6 50 3 = some 0 := by rfl
theorem awk_urg (A B C : Nat) : urg (awkL A B C) 1 = 50 := by rfl
theorem awk_blk (A B C : Nat) : blk (awkL A B C) 1 [] = false := by rfl

def awkC (A B C : Nat) : List Value := [.int .i64 1, .int .i64 0, .int .i64 1, .int .i64 9, .int .i64 1, .string ⟨#[]⟩, .bool false, .slice (some ⟨A, 0, none⟩) 1 1, .int .i64 0, .int .i64 50, .int .i64 0, .int .i64 0, .int .i64 2, .int .i64 0, .int .i64 1, .int .i64 2, .int .i64 1, .string ⟨#[]⟩, .bool false, .slice (some ⟨B, 0, none⟩) 1 1, .int .i64 0, .int .i64 50, .int .i64 0, .int .i64 0, .int .i64 3, .int .i64 0, .int .i64 1, .int .i64 5, .int .i64 1, .string ⟨#[]⟩, .bool false, .slice (some ⟨C, 0, none⟩) 1 1, .int .i64 0, .int .i64 50, .int .i64 0, .int .i64 0]
theorem awkC_eq (A B C : Nat) : qmc (awkL A B C) = awkC A B C := rfl

set_option maxRecDepth 100000 in
set_option maxHeartbeats 4000000 in
theorem awakeDl_any (w : World) :
    Calls Try.prog 15 #[] w fun e w' => e = .returned (.bool true) ∧ Bel w w' := by
  go_enter Try.func15, Try.ntmps15
  go_wp2_with fail
  refine (entry_any 1 9 50 _ (by unfold IsInt; omega)).mono ?_; rintro e w1 ⟨A, rfl, hm1, hb1⟩
  go_wp2_with fail
  refine (entry_any 2 2 50 _ (by unfold IsInt; omega)).mono ?_; rintro e w2 ⟨B, rfl, hm2, hb2⟩
  go_wp2_with fail
  refine (entry_any 3 5 50 _ (by unfold IsInt; omega)).mono ?_; rintro e w3 ⟨C, rfl, hm3, hb3⟩
  have hq : QL (w3.alloc (.cells (awkC A B C).toArray 36)) (.slice (some ⟨w3.heap.size, 0, none⟩) 3 3) (awkL A B C) := by
    refine ⟨?_, fun x hx => ?_⟩
    · rw [awkC_eq]; exact rd_made rfl _ _ 12 3 rfl (by unfold maxLen; omega)
    · simp only [awkL, List.mem_cons, List.not_mem_nil, or_false] at hx
      rcases hx with rfl | rfl | rfl
      · exact ((hm1.bel hb2).bel hb3).bel ((Bel.refl _).alloc _)
      · exact (hm2.bel hb3).bel ((Bel.refl _).alloc _)
      · exact hm3.bel ((Bel.refl _).alloc _)
  unfold awkC at hq
  simp only [List.toArray] at hq
  have hbw : Bel w w3 := (hb1.trans hb2).trans hb3
  have P1 := Lib.hid (awk_pick1 A B C)
  have P2 := Lib.hid (awk_pick2 A B C)
  have P3 := Lib.hid (awk_urg A B C)
  have P4 := Lib.hid (awk_blk A B C)
  have HL := Lib.hid (show (awkL A B C).length = 3 from rfl)
  generalize awkL A B C = L at *
  clear hm1 hm2 hm3 hb1 hb2 hb3
  go_wp2_with fail
  have hbW : Bel w (w3.alloc (.cells #[.int .i64 1, .int .i64 0, .int .i64 1, .int .i64 9, .int .i64 1, .string ⟨#[]⟩, .bool false, .slice (some ⟨A, 0, none⟩) 1 1, .int .i64 0, .int .i64 50, .int .i64 0, .int .i64 0, .int .i64 2, .int .i64 0, .int .i64 1, .int .i64 2, .int .i64 1, .string ⟨#[]⟩, .bool false, .slice (some ⟨B, 0, none⟩) 1 1, .int .i64 0, .int .i64 50, .int .i64 0, .int .i64 0, .int .i64 3, .int .i64 0, .int .i64 1, .int .i64 5, .int .i64 1, .string ⟨#[]⟩, .bool false, .slice (some ⟨C, 0, none⟩) 1 1, .int .i64 0, .int .i64 50, .int .i64 0, .int .i64 0] 36)) := hbw.alloc _
  have h1 : Rd ((w3.alloc (.cells #[.int .i64 1, .int .i64 0, .int .i64 1, .int .i64 9, .int .i64 1, .string ⟨#[]⟩, .bool false, .slice (some ⟨A, 0, none⟩) 1 1, .int .i64 0, .int .i64 50, .int .i64 0, .int .i64 0, .int .i64 2, .int .i64 0, .int .i64 1, .int .i64 2, .int .i64 1, .string ⟨#[]⟩, .bool false, .slice (some ⟨B, 0, none⟩) 1 1, .int .i64 0, .int .i64 50, .int .i64 0, .int .i64 0, .int .i64 3, .int .i64 0, .int .i64 1, .int .i64 5, .int .i64 1, .string ⟨#[]⟩, .bool false, .slice (some ⟨C, 0, none⟩) 1 1, .int .i64 0, .int .i64 50, .int .i64 0, .int .i64 0] 36)).alloc (.cells #[.bool true, .bool true, .bool true] 4)) (.slice (some ⟨w3.heap.size + 1, 0, none⟩) 3 3) 1 ([true, true, true] : List Bool).length (bcells [true, true, true]) := rd_made (by simp) _ _ 1 3 rfl (by unfold maxLen; omega)
  refine (dlPickAll_any L [true, true, true] 4 10 _ _ _ (hq.bel ((Bel.refl _).alloc _)) h1 (by rw [HL.out]; omega)).mono ?_; rw [HL.out, P1.out]; rintro e w4 ⟨rfl, hb4⟩
  have hq4 := (hq.bel ((Bel.refl _).alloc _)).bel hb4
  have hbw4 : Bel w w4 := (by repeat (first | (with_reducible exact Bel.refl _) | (with_reducible assumption) | (with_reducible refine Bel.drewN ?_ _) | (with_reducible refine Bel.drew ?_) | (with_reducible refine Bel.alloc ?_ _) | (with_reducible refine Bel.setNew ?_ ?_ _) | (with_reducible refine Bel.trans ?_ (by assumption)) | (focus (simp; done)) | (focus (simp; omega))))
  clear hb4 h1 hq hbW hbw
  go_wp2_with fail
  have h1 : Rd (w4.alloc (.cells #[.bool true, .bool true, .bool false] 4)) (.slice (some ⟨w4.heap.size, 0, none⟩) 3 3) 1 ([true, true, false] : List Bool).length (bcells [true, true, false]) := rd_made rfl _ _ 1 3 rfl (by unfold maxLen; omega)
  refine (dlPickAll_any L [true, true, false] 6 50 _ _ _ (hq4.bel ((Bel.refl _).alloc _)) h1 (by rw [HL.out]; omega)).mono ?_; rw [HL.out, P2.out]; rintro e w5 ⟨rfl, hb5⟩
  have hq5 := (hq4.bel ((Bel.refl _).alloc _)).bel hb5
  have hbw5 : Bel w w5 := (by repeat (first | (with_reducible exact Bel.refl _) | (with_reducible assumption) | (with_reducible refine Bel.drewN ?_ _) | (with_reducible refine Bel.drew ?_) | (with_reducible refine Bel.alloc ?_ _) | (with_reducible refine Bel.setNew ?_ ?_ _) | (with_reducible refine Bel.trans ?_ (by assumption)) | (focus (simp; done)) | (focus (simp; omega))))
  clear hb5 h1 hq4 hbw4
  go_wp2_with fail
  refine (dlUrgent_any L 1 _ _ hq5 (by rw [HL.out]; omega)).mono ?_; rw [P3.out]; rintro e w6 ⟨rfl, hb6⟩
  have hq6 := hq5.bel hb6
  go_wp2_with fail
  refine (dlBlocked_any L 1 [] _ _ _ hq6 (BL.nil _)).mono ?_; rw [P4.out]; rintro e w7 ⟨rfl, hb7⟩
  go_wp2
  go_ret
  exact ⟨rfl, (hbw5.trans hb6).trans hb7⟩
end Go.Proofs.Ytdffpnogfinehaa
