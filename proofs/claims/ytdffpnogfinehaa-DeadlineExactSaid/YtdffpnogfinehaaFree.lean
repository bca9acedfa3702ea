/- The law's free and without. -/
import Derived.Test.YtdffpnogfinehaaDpick
import Derived.Test.YtdffpnogfinehaaRem
namespace Go.Proofs.Ytdffpnogfinehaa
open Go.RowKit Go.Maps
set_option linter.unusedSimpArgs false

theorem Try.infoBool' : (Try.prog.info? 4).map (fun i => (i.zero, i.size, i.bytes)) = some (some (.bool false), 1, 1) := by kernel_rfl
theorem Try.infoQd : (Try.prog.info? 36).map (fun i => (i.zero, i.size, i.bytes)) = some (some (.agg #[.int .i64 0, .int .i64 0, .int .i64 0, .int .i64 0, .int .i64 0, .string ⟨#[]⟩, .bool false, .slice none 0 0, .int .i64 0, .int .i64 0, .int .i64 0, .int .i64 0]), 12, 120) := by kernel_rfl

/-- Which of the first entries are not blocked. -/
def freeN (L : List QM) (B : List BM) (n : Nat) : List Bool := (List.range n).map fun k => !blkN L k B
theorem freeN_len (L : List QM) (B : List BM) (n : Nat) : (freeN L B n).length = n := by simp [freeN]
theorem freeN_at {L : List QM} {B : List BM} {n k : Nat} (h : k < n) : mayAt (freeN L B n) k = !blkN L k B := by simp [freeN, mayAt, h]
theorem bcells_app (l m : List Bool) : bcells (l ++ m) = bcells l ++ bcells m := by simp [bcells]
theorem freeN_succ (L : List QM) (B : List BM) (n : Nat) : freeN L B (n + 1) = freeN L B n ++ [!blkN L n B] := by simp [freeN, List.range_succ]
theorem blk_nat (L : List QM) (k : Nat) (B : List BM) : blk L k B = blkN L k B := by unfold blk; rw [if_pos (by omega), Int.toNat_natCast]

set_option maxRecDepth 100000 in
set_option maxHeartbeats 4000000 in
theorem free_any (L : List QM) (B : List BM) (v bv : Value) (w : World) (hv : QL w v L) (hb : BL w bv B) (hL : L.length ≤ 1000) :
    Calls Try.prog 12 #[v, bv] w fun e w' => ∃ u, e = .returned u ∧ Rd w' u 1 (freeN L B L.length).length (bcells (freeN L B L.length)) ∧ Bel w w' := by
  obtain ⟨i0, hi0, hz0, hz1, hz2⟩ := info_parts Try.infoBool'
  obtain ⟨A, c, rfl, hc1, hc2⟩ := hv.form
  obtain ⟨A', c', rfl, _, _⟩ := hb.form
  unfold maxLen at hc2
  rw [freeN_len]
  have HB := Lib.hid (fun w' (h : Bel w w') (k : Nat) => dlBlocked_any L k B _ _ w' (hv.bel h) (hb.bel h))
  obtain ⟨n, Hn⟩ : ∃ n, Hid (n = L.length) := ⟨_, rfl⟩
  obtain ⟨n', Hn'⟩ : ∃ n, Hid (n = B.length) := ⟨_, rfl⟩
  rw [← Hn.out] at hc1 hL HB ⊢
  rw [← Hn'.out] at HB ⊢
  clear hv hb
  go_enter Try.func12, Try.ntmps12
  go_wp2
  go_loopw [5, 6] (fun ov iv wr => ∃ i : Nat, iv = .int .i64 i ∧ i ≤ n ∧ wr.ownsRow w.heap.size 4 1 ov i (bcells (freeN L B i)) ∧ Bel w wr) (fun _ iv _ => n - (intOf iv).toNat)
  case atStart => exact ⟨0, rfl, by omega, ⟨by simp [freeN, bcells], Or.inl ⟨rfl, rfl⟩⟩, (by repeat (first | (with_reducible exact Bel.refl _) | (with_reducible assumption) | (with_reducible refine Bel.drewN ?_ _) | (with_reducible refine Bel.drew ?_) | (with_reducible refine Bel.alloc ?_ _) | (with_reducible refine Bel.setNew ?_ ?_ _) | (with_reducible refine Bel.trans ?_ (by assumption)) | (focus (simp; done)) | (focus (simp; omega))))⟩
  case round =>
    obtain ⟨i, rfl, p1, hown, hbr⟩ := hrel
    obtain ⟨Ao, co, rfl⟩ := own_slice hown
    by_cases hlt : i < n
    · have i1 : (i : Int) < (n : Int) := by omega
      obtain ⟨x, Hx⟩ : ∃ x, Hid (x = blk L i B) := ⟨_, rfl⟩
      go_wp2_with fail
      refine (HB.out _ hbr i).mono ?_; rw [← Hx.out]; rintro e w1 ⟨rfl, hb1⟩
      have how1 := own_keep hown hb1
      have hbw := hbr.trans hb1
      have hws := hbw.size
      clear hown
      go_wp2_with (at_builtin; go_must (refine wpList_append_own_at _ rfl _ _ 29 rfl w.heap.size 4 i0 _ 1 1 Try.underlying29 hi0 hz0 hz1 hz2 rfl (by omega) (.slice Ao i co) _ _ rfl (how1.alloc _) ⟨w1.heap.size, 0, none⟩ 1 1 [.bool (!x)] rfl rfl (World.news_of_block (cs := #[.bool (!x)]) (t := 4) (fr := (0, 0)) (heap_alloc_new w1 _)) (by simp [Value.oneCell']) (by unfold maxLen; omega) (by omega) (by simp; omega) ?_); intro v' w3 hown' hg' _ _; obtain ⟨gn, cn, hvn, _, _⟩ := hown'.form (by omega); subst hvn)
      go_roundw
      case rel =>
        refine ⟨i + 1, by go_num, by omega, ?_, bel_own (hbw.alloc _) (how1.alloc _) hg' (Nat.le_refl _)⟩
        rw [freeN_succ, bcells_app, show blkN L i B = x by rw [Hx.out, blk_nat]]
        exact hown'
      case measure => simp [intOf]; omega
    · obtain rfl : i = n := by omega
      have i1 : decide ((i : Int) < (i : Int)) = false := by simp
      have HR := Lib.hid (Rd.own hown)
      go_wp2
      go_ret
      exact ⟨_, rfl, HR.out, (by repeat (first | (with_reducible exact Bel.refl _) | (with_reducible assumption) | (with_reducible refine Bel.drewN ?_ _) | (with_reducible refine Bel.drew ?_) | (with_reducible refine Bel.alloc ?_ _) | (with_reducible refine Bel.setNew ?_ ?_ _) | (with_reducible refine Bel.trans ?_ (by assumption)) | (focus (simp; done)) | (focus (simp; omega))))⟩

theorem qmc_erase (L : List QM) (k : Nat) : (L.eraseIdx k).map QM.q = (L.map QM.q).eraseIdx k := by
  rw [List.eraseIdx_eq_take_drop_succ, List.eraseIdx_eq_take_drop_succ, List.map_append, List.map_take, List.map_drop]

set_option maxRecDepth 100000 in
set_option maxHeartbeats 4000000 in
theorem without_any (L : List QM) (k : Nat) (v : Value) (w : World) (hv : QL w v L) (hL : L.length ≤ 1000) (hk : k < L.length) :
    Calls Try.prog 14 #[v, .int .i64 (k : Int)] w fun e w' => ∃ u, e = .returned u ∧ QL w' u (L.eraseIdx k) ∧ (∀ b, u.ownBlock = some b → w.heap.size ≤ b) ∧ Bel w w' := by
  obtain ⟨i0, hi0, hz0, hz1, hz2⟩ := info_parts Try.infoQd
  obtain ⟨A, c, rfl, hc1, hc2⟩ := hv.form
  unfold maxLen at hc2
  have HV := Lib.hid hv
  obtain ⟨l, Hl⟩ : ∃ l, Hid (l = L.map QM.q) := ⟨_, rfl⟩
  have hlen : l.length = L.length := by rw [Hl.out, List.length_map]
  have hR : Rd w (.slice A l.length c) 12 l.length (qcells l) := by
    have := hv.rd
    rw [hlen, Hl.out]; exact this
  obtain ⟨b, o, c9, hf, hlb, hcell⟩ := hR.at (by omega)
  simp only [Value.slice.injEq] at hf
  obtain ⟨rfl, _, rfl⟩ := hf
  have hkl : k < l.length := by omega
  have HLEN := Lib.hid hlen
  rw [← hlen] at hc1 hL hk ⊢
  have HQ := Lib.hid hR
  have e6 : IntKind.i64.wrap ((k : Int) + 1) = (k : Int) + 1 := IntWalk.i64_in _ (by omega)
  have hel1 : k + (l.length - (k + 1)) = (l.eraseIdx k).length := by rw [List.length_eraseIdx, if_pos hkl]; omega
  have k2 : (k : Int) < (l.length : Int) := by omega
  clear hv hlen hcell hR
  go_enter Try.func14, Try.ntmps14
  go_wp2_with fail
  obtain ⟨hnew11, ad1, had1, hnew21⟩ := rem_news HQ.out hlb hkl
  refine wp_region_st [3, 8] 9 (by kernel_rfl) (by kernel_rfl) ?_
  with_reducible refine st_sel [0, 1, 2, 4, 5, 6, 7] (by kernel_rfl) (by kernel_rfl) ?_
  simp only [picked, List.getElem?_cons_succ, List.getElem?_cons_zero, Option.toList_some, List.nil_append, List.cons_append, List.append_nil]
  try simp only [Act.put, List.setIfInBounds_toArray, List.set_cons_succ, List.set_cons_zero]
  repeat (go_big_quiet_step (fail))
  with_reducible refine wpQuiet_nil ?_
  refine st_branch [3] (by kernel_rfl) (branch_cons (by simp only [List.getElem?_toArray, List.getElem?_cons_succ, List.getElem?_cons_zero]; rfl) ?_ branch_nil)
  refine eff_append_own rfl _ _ 23 rfl (w).heap.size 36 i0 _ 12 120 Try.underlying23 hi0 hz0 hz1 hz2 rfl (by omega) (.slice none 0 0) 0 [] rfl ⟨by simp, Or.inl ⟨rfl, rfl⟩⟩ ⟨b, o, none⟩ k _ (qcells ((l).take k)) rfl (by rw [qcells_len, List.length_take, Nat.min_eq_left (Nat.le_of_lt hkl)]) (hnew11 _ (by repeat (first | (with_reducible exact Bel.refl _) | (with_reducible assumption) | (with_reducible refine Bel.drewN ?_ _) | (with_reducible refine Bel.drew ?_) | (with_reducible refine Bel.alloc ?_ _) | (with_reducible refine Bel.setNew ?_ ?_ _) | (with_reducible refine Bel.trans ?_ (by assumption)) | (focus (simp; done)) | (focus (simp; omega))))) (qcells_one _) (by unfold maxLen; omega) (by omega) (by simp) (by repeat (first | (with_reducible exact Bel.refl _) | (with_reducible assumption) | (with_reducible refine Bel.drewN ?_ _) | (with_reducible refine Bel.drew ?_) | (with_reducible refine Bel.alloc ?_ _) | (with_reducible refine Bel.setNew ?_ ?_ _) | (with_reducible refine Bel.trans ?_ (by assumption)) | (focus (simp; done)) | (focus (simp; omega)))) (by simp) ?_
  intro va1 wa1 howna1 hga1 hba1
  simp only [Nat.zero_add, List.nil_append] at howna1
  try simp only [List.nil_append, List.cons_append, Act.put, List.setIfInBounds_toArray, List.set_cons_succ, List.set_cons_zero]
  refine st_branch [8] (by kernel_rfl) (branch_cons (by simp only [List.getElem?_toArray, List.getElem?_cons_succ, List.getElem?_cons_zero]; rfl) ?_ branch_nil)
  refine eff_append_own rfl _ _ 23 rfl (w).heap.size 36 i0 _ 12 120 Try.underlying23 hi0 hz0 hz1 hz2 rfl (by omega) va1 k _ rfl howna1 ad1 ((l).length - (k + 1)) _ (qcells ((l).drop (k + 1))) rfl (by rw [qcells_len, List.length_drop]) (hnew21 _ (Bel.trans (by repeat (first | (with_reducible exact Bel.refl _) | (with_reducible assumption) | (with_reducible refine Bel.drewN ?_ _) | (with_reducible refine Bel.drew ?_) | (with_reducible refine Bel.alloc ?_ _) | (with_reducible refine Bel.setNew ?_ ?_ _) | (with_reducible refine Bel.trans ?_ (by assumption)) | (focus (simp; done)) | (focus (simp; omega)))) hba1)) (qcells_one _) (by unfold maxLen; omega) (by omega) hba1.size hba1 (by simp) ?_
  intro vb1 wb1 hownb1 hgb1 hbb1
  rw [← qcells_app, erase_eq, hel1] at hownb1
  try simp only [List.nil_append, List.cons_append, Act.put, List.setIfInBounds_toArray, List.set_cons_succ, List.set_cons_zero]
  refine st_end (by kernel_rfl) ?_
  simp only [List.drop_succ_cons, List.drop_zero, List.drop_nil]
  skip
  clear hnew11 hnew21
  go_wp2
  go_ret
  have hbb : Bel w wb1 := Bel.trans (by repeat (first | (with_reducible exact Bel.refl _) | (with_reducible assumption) | (with_reducible refine Bel.drewN ?_ _) | (with_reducible refine Bel.drew ?_) | (with_reducible refine Bel.alloc ?_ _) | (with_reducible refine Bel.setNew ?_ ?_ _) | (with_reducible refine Bel.trans ?_ (by assumption)) | (focus (simp; done)) | (focus (simp; omega)))) hbb1
  refine ⟨_, rfl, ⟨?_, fun x hx => ?_⟩, fun b hb => (hownb1.lt b hb).1, hbb⟩
  · have h9 := Rd.own hownb1
    rw [show (L.eraseIdx k).length = (l.eraseIdx k).length by rw [Hl.out, ← qmc_erase, List.length_map]]
    rw [show qmc (L.eraseIdx k) = qcells (l.eraseIdx k) by rw [qmc, qmc_erase, ← Hl.out]]
    exact h9
  · exact (HV.out.mem x (List.mem_of_mem_eraseIdx hx)).bel hbb
end Go.Proofs.Ytdffpnogfinehaa
