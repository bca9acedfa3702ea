/- The law's member: a bunch of one part. -/
import Derived.Test.YtbijfmpmgmfpgaaJoinP
import Derived.Test.YtbijfmpmgmfpgaaSetRow
import Derived.Test.YtbijfmpmgmfpgaaBn
namespace Go.Proofs.Ytbijfmpmgmfpgaa
open Go.RowKit
set_option linter.unusedSimpArgs false

def mbU (id ten knd sec : Int) (d : ByteArray) (cnt : Int) : Bu := ⟨id, ten, knd, sec, cnt, d, false, [⟨id, 0, cnt⟩], 0⟩

set_option maxRecDepth 100000 in
set_option maxHeartbeats 2000000 in
theorem memberF_any (id ten knd sec : Int) (d : ByteArray) (cnt : Int) (w : World) (hi : IsInt id) (hd : d.size ≤ maxLen) :
    Calls Try.prog 16 #[.int .i64 id, .int .i64 ten, .int .i64 knd, .int .i64 sec, .string d, .int .i64 cnt] w fun e w' => ∃ A, w.heap.size ≤ A ∧ e = .returned (.agg #[.int .i64 id, .int .i64 ten, .int .i64 knd, .int .i64 sec, .int .i64 cnt, .string d, .bool false, .slice (some ⟨A, 0, none⟩) 1 1, .int .i64 0]) ∧ Mems w' ⟨id, ten, knd, sec, cnt, d, false, some ⟨A, 0, none⟩, 1, 1, 0⟩ [⟨id, 0, cnt⟩] ∧ Bel w w' := by
  have HI := Lib.hid hi
  have HD := Lib.hid hd
  clear hi hd
  go_enter Try.func16, Try.ntmps16
  go_wp2
  refine bodyPost_ret (v := .agg #[.int .i64 id, .int .i64 ten, .int .i64 knd, .int .i64 sec, .int .i64 cnt, .string d, .bool false, .slice (some ⟨w.heap.size + 1, 0, none⟩) 1 1, .int .i64 0]) (by simp [results, Try.results16, go_sem]) rfl ⟨w.heap.size + 1, Nat.le_succ _, rfl, ⟨rfl, ?_, fun m hm => ?_, HD.out⟩, (by repeat (first | (with_reducible exact Bel.refl _) | (with_reducible assumption) | (with_reducible refine Bel.drewN ?_ _) | (with_reducible refine Bel.drew ?_) | (with_reducible refine Bel.alloc ?_ _) | (with_reducible refine Bel.setNew ?_ ?_ _) | (with_reducible refine Bel.trans ?_ (by assumption)) | (focus (simp; done)) | (focus (simp; omega))))⟩
  · refine rd_made ?_ _ _ 3 1 ?_ (by unfold maxLen; omega)
    · simp
    · rfl
  · rw [List.mem_singleton] at hm
    subst hm
    exact HI.out
theorem member_any (id ten knd sec : Int) (d : ByteArray) (cnt : Int) (w : World) (hi : IsInt id) (hd : d.size ≤ maxLen) :
    Calls Try.prog 16 #[.int .i64 id, .int .i64 ten, .int .i64 knd, .int .i64 sec, .string d, .int .i64 cnt] w fun e w' => ∃ A, e = .returned (.agg #[.int .i64 id, .int .i64 ten, .int .i64 knd, .int .i64 sec, .int .i64 cnt, .string d, .bool false, .slice (some ⟨A, 0, none⟩) 1 1, .int .i64 0]) ∧ Mems w' ⟨id, ten, knd, sec, cnt, d, false, some ⟨A, 0, none⟩, 1, 1, 0⟩ [⟨id, 0, cnt⟩] ∧ Bel w w' :=
  (memberF_any id ten knd sec d cnt w hi hd).mono fun _ _ ⟨A, _, h1, h2, h3⟩ => ⟨A, h1, h2, h3⟩
end Go.Proofs.Ytbijfmpmgmfpgaa
