/- New of the reference. -/
import Derived.Test.YtacbljfpcchbbaaFairC
import Derived.Deep.AppendLies
namespace Go.Proofs.Ytacbljfpcchbbaa
open Go.RowKit
set_option linter.unusedSimpArgs false


def newF (zs : List Int) : List (Int × Int) := zs.map fun z => (z, 0)
theorem newF_snoc {zs : List Int} {i : Nat} {x : Int} (h : zs[i]? = some x) : newF (zs.take (i + 1)) = newF (zs.take i) ++ [(x, 0)] := by
  rw [List.take_add_one, h]; simp [newF]
theorem newF_len (zs : List Int) : (newF zs).length = zs.length := by simp [newF]

set_option maxRecDepth 100000 in
set_option maxHeartbeats 4000000 in
theorem refNew_any (zs : List Int) (v : Value) (w : World) (h : Ints w v zs) (hn : zs.length ≤ 1000) :
    Calls Try.prog 27 #[v] w fun e w' =>
      ∃ v', e = .returned (.tuple #[.agg #[.int .i64 0, v'], .bool (fairOk 0 (newF zs))]) ∧ w'.ownsRow w.heap.size 33 2 v' (if fairOk 0 (newF zs) = true then newF zs else []).length (fcells (if fairOk 0 (newF zs) = true then newF zs else [])) ∧ Bel w w' := by
  obtain ⟨hzi, A, cp, rfl, hcp, hmx, hr⟩ := h
  unfold maxLen at hmx
  obtain ⟨i0, hi0, hz0, hz1, hz2⟩ := info_parts Try.infoFlow
  have HR := Lib.hid hr
  have HI := Lib.hid hzi
  clear hr hzi
  obtain ⟨n, Hn⟩ : ∃ n, Hid (n = zs.length) := ⟨_, rfl⟩
  rw [← Hn.out] at hcp hn ⊢
  obtain ⟨L, HL⟩ : ∃ L, Hid (L = if fairOk 0 (newF zs) = true then newF zs else []) := ⟨_, rfl⟩
  rw [← HL.out]
  obtain ⟨k, HK⟩ : ∃ k, Hid (k = fairOk 0 (newF zs)) := ⟨_, rfl⟩
  rw [← HK.out] at HL ⊢
  have hA := (AtF.new w 25 [.int .i64 0, .slice none 0 0]).alloc (.cells #[.int .i64 0, .slice none 0 0] 25)
  have hB := AtF.new (w.alloc (.cells #[.int .i64 0, .slice none 0 0] 25)) 25 [.int .i64 0, .slice none 0 0]
  simp only [World.size_alloc] at hB
  go_enter Try.func27, Try.ntmps27
  go_wp2
  go_loopw [5] (fun iv wr => ∃ (i : Nat) (ov : Value), iv = .int .i64 i ∧ i ≤ n ∧ wr.ownsRow (w.heap.size + 2) 33 2 ov i (fcells (newF (zs.take i))) ∧ AtF wr (w.heap.size + 1) [.int .i64 0, ov] ∧ AtF wr w.heap.size [.int .i64 0, .slice none 0 0] ∧ Bel w wr) (fun iv _ => n - (intOf iv).toNat)
  case atStart => exact ⟨0, _, rfl, by omega, ⟨by simp [newF, fcells], Or.inl ⟨rfl, rfl⟩⟩, hB, hA, (by repeat (first | (with_reducible exact Bel.refl _) | (with_reducible assumption) | (with_reducible refine Bel.drewN ?_ _) | (with_reducible refine Bel.drew ?_) | (with_reducible refine Bel.alloc ?_ _) | (with_reducible refine Bel.setNew ?_ ?_ _) | (with_reducible refine Bel.trans ?_ (by assumption)) | (focus (simp; done)) | (focus (simp; omega))))⟩
  case round =>
    obtain ⟨i, ov, rfl, p1, hown, hBr, hAr, hbr⟩ := hrel
    clear hA hB
    obtain ⟨A', c', rfl⟩ := own_slice hown
    by_cases hlt : i < n
    · obtain ⟨b, o, rfl, hlb, hcell⟩ := HR.out (by have := Hn.out; omega)
      have hiz : i < zs.length := by have := Hn.out; omega
      obtain ⟨x, hx⟩ : ∃ x, zs[i]? = some x := ⟨zs[i], List.getElem?_eq_getElem hiz⟩
      have g0 : wr.cell? ⟨b, o + i, none⟩ = some (.int .i64 x) := by
        rw [hbr.cellAt _ _ hlb, hcell i hiz]
        rw [List.getElem?_eq_getElem hiz] at hx
        cases hx; rfl
      have HX := Lib.hid hx
      clear hx hcell
      have i1 : (i : Int) < (n : Int) := by omega
      have i3 : (0 : Int) ≤ (i : Int) := by omega
      have b0 := hBr.1.2 0 _ rfl
      have b1 := hBr.1.2 1 _ rfl
      have bf := hBr.2
      have bl := hBr.1.1
      have hsz := hbr.size
      have lk := World.block_lt_of_cell? _ _ g0
      have hf1 := bf 1
      have hltr := hown.lt
      have ah : (Value.slice A' i c').ownBlock ≠ some (w.heap.size + 1) := fun e => by have := hltr _ e; omega
      have aw : (Value.slice A' i c').ownBlock ≠ some w.heap.size := fun e => by have := hltr _ e; omega
      have ab : (Value.slice A' i c').ownBlock ≠ some b := fun e => by have := hltr _ e; omega
      go_wp2_with fail
      have q0 := fun d os => cell_regrown b0 d os
      have q1 := fun d os => cell_regrown b1 d os
      have q2 := fun d os => cell_regrown g0 d os
      refine wp_region_st [7] 8 (by kernel_rfl) (by kernel_rfl) ?_
      with_reducible refine st_sel [0, 1, 2, 3, 4, 5, 6] (by kernel_rfl) (by kernel_rfl) ?_
      simp only [picked, List.getElem?_cons_succ, List.getElem?_cons_zero, Option.toList_some, List.nil_append, List.cons_append, List.append_nil]
      try simp only [Act.put, List.setIfInBounds_toArray, List.set_cons_succ, List.set_cons_zero]
      repeat (go_big_quiet_step (fail))
      with_reducible refine wpQuiet_nil ?_
      refine st_branch [7] (by kernel_rfl) (branch1 (by simp only [List.getElem?_toArray, List.getElem?_cons_succ, List.getElem?_cons_zero]; rfl) ?_)
      refine eff_made rfl (by simp [go_sem]; exact ⟨rfl, rfl⟩) (by repeat (first | (with_reducible exact Bel.refl _) | (with_reducible assumption) | (with_reducible refine Bel.drewN ?_ _) | (with_reducible refine Bel.drew ?_) | (with_reducible refine Bel.alloc ?_ _) | (with_reducible refine Bel.setNew ?_ ?_ _) | (with_reducible refine Bel.trans ?_ (by assumption)) | (focus (simp; done)) | (focus (simp; omega)))) ?_
      try simp only [List.nil_append, List.cons_append, Act.put, List.setIfInBounds_toArray, List.set_cons_succ, List.set_cons_zero]
      refine st_end (by kernel_rfl) ?_
      simp only [List.drop_succ_cons, List.drop_zero]
      clear q0 q1 q2
      go_wp2_with (at_builtin; go_must (refine wpList_append_own_at _ rfl (.tmp 13) (.tmp 19) 23 rfl (w.heap.size + 2) 33 i0 _ 2 16 Try.underlying23 hi0 hz0 hz1 hz2 rfl (by omega) (.slice A' i c') _ _ rfl ((hown.alloc _).drew) ⟨wr.heap.size, 0, none⟩ 1 1 [.int .i64 x, .int .i64 0] rfl rfl (World.news_of_block (cs := #[.int .i64 x, .int .i64 0]) (t := 33) (fr := (0, 0)) (heap_alloc_new wr _)) (by simp [Value.oneCell']) (by unfold maxLen; omega) (by omega) (by simp; omega) ?_); intro v' w3 hown' hg' _ _; obtain ⟨gn, cn, hvn, _, _⟩ := hown'.form (by omega); subst hvn; have hB3 := ((hBr.alloc _).drew).grown hg' (Ne.symm ah); have hA3 := ((hAr.alloc _).drew).grown hg' (Ne.symm aw); have hc3 := hB3.1.2 1 _ rfl; have hf3 := hB3.2 1)
      have hne : w.heap.size + 1 ≠ w.heap.size := by omega
      go_roundw
      case rel =>
        refine ⟨i + 1, _, by go_num, by omega, own_other ?_ (p := ⟨w.heap.size + 1, 1, none⟩) (by simp) _, hB3.set 1 (by simp) _, hA3.other (Ne.symm hne) _ _, ?_⟩
        · rw [newF_snoc HX.out, fcells_app]; simpa [fcells] using hown'
        · exact (bel_own ((hbr.alloc _).drew) ((hown.alloc _).drew) hg' (by omega)).setNew (by simp) _
      case measure => simp [intOf]; omega
    · obtain rfl : i = n := by omega
      have i2 : decide ((i : Int) < (i : Int)) = false := by simp
      have e1 : newF (zs.take i) = newF zs := by rw [Hn.out, List.take_length]
      rw [e1] at hown
      have hnl : (newF zs).length = i := by rw [newF_len, Hn.out]
      have hrd := Rd.own hown
      rw [← hnl] at hrd
      have HV := Lib.hid (fun w' (hb : Bel wr w') => refFair_any 0 (newF zs) _ w' (hrd.bel hb))
      rw [hnl] at HV
      rw [← HK.out] at HV
      clear hrd
      have hne : w.heap.size + 1 ≠ w.heap.size := by omega
      have b0 := hBr.1.2 0 _ rfl
      have b1 := hBr.1.2 1 _ rfl
      have bf := hBr.2
      have bl := hBr.1.1
      go_wp2_with fail
      refine (HV.out _ (by repeat (first | (with_reducible exact Bel.refl _) | (with_reducible assumption) | (with_reducible refine Bel.drewN ?_ _) | (with_reducible refine Bel.drew ?_) | (with_reducible refine Bel.alloc ?_ _) | (with_reducible refine Bel.setNew ?_ ?_ _) | (with_reducible refine Bel.trans ?_ (by assumption)) | (focus (simp; done)) | (focus (simp; omega))))).mono ?_; rintro e w2 ⟨rfl, hb2⟩
      have hB2 := hBr.bel hb2
      have hA2 := hAr.bel hb2
      have hown2 := own_keep hown hb2
      have hbw2 := hbr.trans hb2
      clear b0 b1 bf bl hBr hAr hown hbr hb2
      have b0 := hB2.1.2 0 _ rfl
      have b1 := hB2.1.2 1 _ rfl
      have bf := hB2.2
      have bl := hB2.1.1
      have a0 := hA2.1.2 0 _ rfl
      have a1 := hA2.1.2 1 _ rfl
      have af := hA2.2
      have al := hA2.1.1
      cases k
      · have hL : L = [] := by rw [HL.out]; simp
        have hr2 := (hA2.set 0 (by simp) (.int .i64 0)).set 1 (by simp) (.slice none 0 0)
        have r20 := hr2.1.2 0 _ rfl
        have r21 := hr2.1.2 1 _ rfl
        go_wp2
        exact bodyPost_ret (v := .tuple #[.agg #[.int .i64 0, .slice none 0 0], .bool false]) (by simp [results, Try.results27, go_sem, r20, r21]) rfl ⟨_, rfl, by rw [hL]; exact ⟨by simp [fcells], Or.inl ⟨rfl, rfl⟩⟩, (by repeat (first | (with_reducible exact Bel.refl _) | (with_reducible assumption) | (with_reducible refine Bel.drewN ?_ _) | (with_reducible refine Bel.drew ?_) | (with_reducible refine Bel.alloc ?_ _) | (with_reducible refine Bel.setNew ?_ ?_ _) | (with_reducible refine Bel.trans ?_ (by assumption)) | (focus (simp; done)) | (focus (simp; omega))))⟩
      · have hL : L = newF zs := by rw [HL.out]; simp
        have hr2 := (hA2.set 0 (by simp) (.int .i64 0)).set 1 (by simp) (.slice A' i c')
        have r20 := hr2.1.2 0 _ rfl
        have r21 := hr2.1.2 1 _ rfl
        have hown3 := own_other (own_other hown2 (p := ⟨w.heap.size, 0, none⟩) (by simp) (.int .i64 0)) (p := ⟨w.heap.size, 1, none⟩) (by simp) (.slice A' i c')
        go_wp2
        exact bodyPost_ret (v := .tuple #[.agg #[.int .i64 0, .slice A' i c'], .bool true]) (by simp [results, Try.results27, go_sem, r20, r21]) rfl ⟨_, rfl, by rw [hL, hnl]; exact own_mono hown3 (Nat.le_succ_of_le (Nat.le_succ _)), (by repeat (first | (with_reducible exact Bel.refl _) | (with_reducible assumption) | (with_reducible refine Bel.drewN ?_ _) | (with_reducible refine Bel.drew ?_) | (with_reducible refine Bel.alloc ?_ _) | (with_reducible refine Bel.setNew ?_ ?_ _) | (with_reducible refine Bel.trans ?_ (by assumption)) | (focus (simp; done)) | (focus (simp; omega))))⟩
end Go.Proofs.Ytacbljfpcchbbaa
