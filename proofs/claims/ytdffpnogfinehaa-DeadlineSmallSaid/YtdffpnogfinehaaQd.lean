/- The law's queued. -/
import Derived.Test.YtdffpnogfinehaaBns
import Derived.Test.YtdffpnogfinehaaDue
import Derived.Test.YtdffpnogfinehaaFree
namespace Go.Proofs.Ytdffpnogfinehaa
open Go.RowKit Go.Maps
set_option linter.unusedSimpArgs false

def toQ (x : BM) : QM := ⟨⟨x.b, dueB 5 20 x.b, 0, 0⟩, x.ms⟩
theorem qmc_snoc (L : List QM) (x : QM) : qmc (L ++ [x]) = qmc L ++ x.q.cells := by simp [qmc, qcells]
theorem qd_one (q : Qd) : ∀ u ∈ q.cells, u.oneCell' = true := fun u hu => by
  simp only [Qd.cells, List.mem_cons, List.not_mem_nil, or_false] at hu
  rcases hu with rfl | rfl | rfl | rfl | rfl | rfl | rfl | rfl | rfl | rfl | rfl | rfl <;> rfl

set_option maxRecDepth 100000 in
set_option maxHeartbeats 4000000 in
theorem queued_any (v : Value) (zs : List Int) (w : World) (hz : Ints w v zs) :
    Calls Try.prog 9 #[v] w fun e w' => ∃ u L, e = .returned u ∧ BnsOk zs (min zs.length 8) L ∧ QL w' u (L.map toQ) ∧ Bel w w' := by
  obtain ⟨i0, hi0, hz0, hz1, hz2⟩ := info_parts Try.infoQd
  have HBS := Lib.hid (bunches_any v zs w hz)
  obtain ⟨m8, Hm8⟩ : ∃ m8, Hid (m8 = min zs.length 8) := ⟨_, rfl⟩
  rw [← Hm8.out] at HBS ⊢
  have h8 : m8 ≤ 8 := by rw [Hm8.out]; omega
  clear hz
  go_enter Try.func9, Try.ntmps9
  go_wp2_with fail
  refine HBS.out.mono ?_; rintro e w1 ⟨bv, L, rfl, hO, hBL, hb1⟩
  have HO := Lib.hid hO
  obtain ⟨A, c, rfl, hc1, hc2⟩ := hBL.form
  unfold maxLen at hc2
  have HAT := Lib.hid (fun k x (hk : L[k]? = some x) => hBL.at hk)
  have HMM := Lib.hid hBL.mem
  have hn8 : L.length ≤ 8 := by rw [hO.1]; exact h8
  obtain ⟨n, Hn⟩ : ∃ n, Hid (n = L.length) := ⟨_, rfl⟩
  rw [← Hn.out] at hc1 HAT hn8 ⊢
  clear hO hBL
  go_wp2
  go_loopw [4, 5] (fun ov iv wr => ∃ i : Nat, iv = .int .i64 i ∧ i ≤ n ∧ wr.ownsRow w1.heap.size 36 12 ov i (qmc ((L.take i).map toQ)) ∧ Bel w1 wr) (fun _ iv _ => n - (intOf iv).toNat)
  case atStart => exact ⟨0, rfl, by omega, ⟨by simp [qmc, qcells], Or.inl ⟨rfl, rfl⟩⟩, Bel.refl _⟩
  case round =>
    obtain ⟨i, rfl, p1, hown, hbr⟩ := hrel
    obtain ⟨Ao, co, rfl⟩ := own_slice hown
    by_cases hlt : i < n
    · have i1 : (i : Int) < (n : Int) := by omega
      obtain ⟨x, hx⟩ : ∃ x, L[i]? = some x := ⟨L[i]'(by have := Hn.out; omega), List.getElem?_eq_getElem _⟩
      obtain ⟨b, o, c9, hX⟩ := HAT.out i x hx
      have hf := hX.form
      simp only [Value.slice.injEq] at hf
      obtain ⟨rfl, _, rfl⟩ := hf
      have hrX := hX.row.bel hbr hX.lt
      have HTK := Lib.hid (show (L.take (i + 1)).map toQ = (L.take i).map toQ ++ [toQ x] by rw [List.take_add_one, hx, List.map_append]; rfl)
      obtain ⟨B, HB⟩ : ∃ B, Hid (B = x.b) := ⟨_, rfl⟩
      obtain ⟨d, HD⟩ : ∃ d, Hid (d = dueB 5 20 B) := ⟨_, rfl⟩
      have HTQ := Lib.hid (show (toQ x).q.cells = (⟨B, d, 0, 0⟩ : Qd).cells by rw [HD.out, HB.out]; rfl)
      rw [← HB.out] at hrX
      clear hX hx
      go_wp2_with fail
      have p0 := (hrX).cell 0 rfl
      have p1 := (hrX).cell 1 rfl
      have p2 := (hrX).cell 2 rfl
      have p3 := (hrX).cell 3 rfl
      have p4 := (hrX).cell 4 rfl
      have p5 := (hrX).cell 5 rfl
      have p6 := (hrX).cell 6 rfl
      have p7 := (hrX).cell 7 rfl
      have p8 := (hrX).cell 8 rfl
      rw [Nat.add_zero] at p0
      have r0 := fun d os => cell_regrown p0 d os
      have r1 := fun d os => cell_regrown p1 d os
      have r2 := fun d os => cell_regrown p2 d os
      have r3 := fun d os => cell_regrown p3 d os
      have r4 := fun d os => cell_regrown p4 d os
      have r5 := fun d os => cell_regrown p5 d os
      have r6 := fun d os => cell_regrown p6 d os
      have r7 := fun d os => cell_regrown p7 d os
      have r8 := fun d os => cell_regrown p8 d os
      refine wp_region_lex [10, 12] 13 (by kernel_rfl) (by kernel_rfl) ?_
      simp only [List.take_succ_cons, List.take_zero, List.drop_succ_cons, List.drop_zero]
      with_reducible refine lex_seg 10 _ _ _ _ (by kernel_rfl) ?_
      simp only [List.take_succ_cons, List.take_zero, List.drop_succ_cons, List.drop_zero]
      try simp only [Act.put, List.setIfInBounds_toArray, List.set_cons_succ, List.set_cons_zero]
      repeat (go_big_quiet_step (fail))
      with_reducible refine wpQuiet_nil ?_
      refine lex_call 21 rfl rfl (by simp [go_sem]; rfl) ?_
      refine (refDue_any 5 20 B _).mono ?_; rw [← HD.out]; rintro e w2 ⟨rfl, hb2⟩
      refine ⟨_, rfl, hb2, ?_⟩
      with_reducible refine lex_seg 1 _ _ _ _ (by kernel_rfl) ?_
      simp only [List.take_succ_cons, List.take_zero, List.drop_succ_cons, List.drop_zero]
      try simp only [Act.put, List.setIfInBounds_toArray, List.set_cons_succ, List.set_cons_zero]
      repeat (go_big_quiet_step (fail))
      with_reducible refine wpQuiet_nil ?_
      refine lex_made rfl rfl (by simp [go_sem]; exact ⟨rfl, rfl⟩) (Bel.alloc (Bel.refl _) _) ?_
      try simp only [Act.put, List.setIfInBounds_toArray, List.set_cons_succ, List.set_cons_zero]
      with_reducible refine lex_nil ?_
      clear r0 r1 r2 r3 r4 r5 r6 r7 r8
      clear p0 p1 p2 p3 p4 p5 p6 p7 p8
      have hbk : Bel wr w2 := (by repeat (first | (with_reducible exact Bel.refl _) | (with_reducible assumption) | (with_reducible refine Bel.drewN ?_ _) | (with_reducible refine Bel.drew ?_) | (with_reducible refine Bel.alloc ?_ _) | (with_reducible refine Bel.setNew ?_ ?_ _) | (with_reducible refine Bel.trans ?_ (by assumption)) | (focus (simp; done)) | (focus (simp; omega))))
      have how2 := own_keep hown hbk
      have hbw := hbr.trans hbk
      have hws := hbw.size
      clear hown hrX
      go_wp2_with (at_builtin; go_must (refine wpList_append_own_at _ rfl _ _ 23 rfl w1.heap.size 36 i0 _ 12 120 Try.underlying23 hi0 hz0 hz1 hz2 rfl (by omega) (.slice Ao i co) _ _ rfl (how2.alloc _) ⟨w2.heap.size, 0, none⟩ 1 1 (⟨B, d, 0, 0⟩ : Qd).cells rfl rfl (World.news_of_block (cs := #[.int .i64 ((⟨B, d, 0, 0⟩ : Qd)).b.id, .int .i64 ((⟨B, d, 0, 0⟩ : Qd)).b.ten, .int .i64 ((⟨B, d, 0, 0⟩ : Qd)).b.knd, .int .i64 ((⟨B, d, 0, 0⟩ : Qd)).b.sec, .int .i64 ((⟨B, d, 0, 0⟩ : Qd)).b.cnt, .string ((⟨B, d, 0, 0⟩ : Qd)).b.dat, .bool ((⟨B, d, 0, 0⟩ : Qd)).b.fua, .slice ((⟨B, d, 0, 0⟩ : Qd)).b.mA ((⟨B, d, 0, 0⟩ : Qd)).b.mL ((⟨B, d, 0, 0⟩ : Qd)).b.mC, .int .i64 ((⟨B, d, 0, 0⟩ : Qd)).b.tim, .int .i64 ((⟨B, d, 0, 0⟩ : Qd)).due, .int .i64 ((⟨B, d, 0, 0⟩ : Qd)).sta, .int .i64 ((⟨B, d, 0, 0⟩ : Qd)).tri]) (t := 36) (fr := (0, 0)) (heap_alloc_new w2 _)) (qd_one _) (by unfold maxLen; omega) (by omega) (by simp; omega) ?_); intro v' w3 hown' hg' _ _; obtain ⟨gn, cn, hvn, _, _⟩ := hown'.form (by omega); subst hvn)
      go_roundw
      case rel =>
        refine ⟨i + 1, by go_num, by omega, ?_, bel_own (hbw.alloc _) (how2.alloc _) hg' (Nat.le_refl _)⟩
        rw [HTK.out, qmc_snoc, HTQ.out]
        exact hown'
      case measure => simp [intOf]; omega
    · obtain rfl : i = n := by omega
      have i1 : decide ((i : Int) < (i : Int)) = false := by simp
      have HR := Lib.hid (Rd.own hown)
      go_wp2
      go_ret
      refine ⟨_, L, rfl, HO.out, ⟨?_, fun x hx => ?_⟩, hb1.trans hbr⟩
      · have h9 := HR.out
        rw [List.take_of_length_le (by have := Hn.out; omega)] at h9
        rw [List.length_map, ← Hn.out]; exact h9
      · rw [List.mem_map] at hx
        obtain ⟨y, hy, rfl⟩ := hx
        exact (HMM.out y hy).bel hbr
end Go.Proofs.Ytdffpnogfinehaa
