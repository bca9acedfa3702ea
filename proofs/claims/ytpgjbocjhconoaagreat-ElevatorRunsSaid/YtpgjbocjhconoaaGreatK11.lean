/- Lemmas and walks that the statements share, part K11. -/
import Derived.Test.YtpgjbocjhconoaaGreatK9
import Derived.Test.YtpgjbocjhconoaaGreatK10
import Derived.Deep.OwnRows
/- elevator.Next. -/
namespace Go.Proofs.YtpgjbocjhconoaaGreat
open Go.RowKit Go.Maps
set_option linter.unusedSimpArgs false

theorem Tryz.infoBoolE : (Tryz.prog.info? 4).map (fun i => (i.zero, i.size, i.bytes)) = some (some (.bool false), 1, 1) := by kernel_rfl
theorem blk_natE (L : List QM) (k : Nat) (B : List BM) : blk L k B = blkN L k B := by unfold blk; rw [if_pos (by omega), Int.toNat_natCast]
/-- The first i of l are laid. -/
def laidB (l : List Bool) (i : Nat) : List Bool := l.take i ++ List.replicate (l.length - i) false
theorem laidB_zero (l : List Bool) : laidB l 0 = List.replicate l.length false := by simp [laidB]
theorem laidB_end (l : List Bool) : laidB l l.length = l := by simp [laidB]
theorem laidB_len {l : List Bool} {i : Nat} (h : i ≤ l.length) : (laidB l i).length = l.length := by simp [laidB]; omega
theorem laidB_set {l : List Bool} {i : Nat} {b : Bool} (h : l[i]? = some b) : (laidB l i).set i b = laidB l (i + 1) := by
  obtain ⟨hl, hb⟩ := List.getElem?_eq_some_iff.1 h
  unfold laidB
  rw [List.set_append_right _ _ (by simp; omega), List.take_add_one, h, show l.length - i = (l.length - (i + 1)) + 1 by omega, List.replicate_succ]
  have : i - (l.take i).length = 0 := by simp; omega
  rw [this]
  simp
theorem bcells_set (l : List Bool) (i : Nat) (b : Bool) : (bcells l).set i (.bool b) = bcells (l.set i b) := by simp [bcells, List.map_set]

def nxtE (E : El) (now : Int) (busy : List Bu) : El × Bu × Bool := match nextE E now busy with
  | some (E', x) => (E', x.u, true)
  | none => (E, zeroU, false)
theorem ElN.erase {w w' : World} {base g c k : Nat} {fl bu : Value} {fs : List (Int × Int)} {bs : List Bk} {L : List QM} (h : ElN w base fl bu (.slice (some ⟨g, 0, none⟩) L.length c) fs bs L) (hg : w.grownBy w' (some g)) (hq : QN w' base (.slice (some ⟨g, 0, none⟩) (L.eraseIdx k).length c) (L.eraseIdx k)) :
    ElN w' base fl bu (.slice (some ⟨g, 0, none⟩) (L.eraseIdx k).length c) fs bs (L.eraseIdx k) := by
  have kf : ∀ {e : TypeId} {size n : Nat} {xs : List Value} {u : Value}, w.ownsRow base e size u n xs → (∀ k, u.ownBlock = some k → (Value.slice (some ⟨g, 0, none⟩) L.length c).ownBlock ≠ some k) → w'.ownsRow base e size u n xs := by
    intro e size n xs u hu hne
    refine hu.kept hg ?_
    cases hq : u.ownBlock with
    | none => exact .inl rfl
    | some k => exact .inr (fun e => hne k hq e.symm)
  exact ⟨kf h.flo h.sFE, kf h.buo h.sBE, hq, h.sFB, h.sFE, h.sBE, fun k hk x hx => h.sFM k hk x (List.mem_of_mem_eraseIdx hx), fun k hk x hx => h.sBM k hk x (List.mem_of_mem_eraseIdx hx)⟩
theorem Off.erase {N g n c m k : Nat} {fl bu : Value} {L : List QM} (h : Off N fl bu (.slice (some ⟨g, 0, none⟩) n c) L) : Off N fl bu (.slice (some ⟨g, 0, none⟩) m c) (L.eraseIdx k) :=
  ⟨h.f, h.b, h.e, fun x hx => h.m x (List.mem_of_mem_eraseIdx hx)⟩

theorem AtF.pre {w : World} {B : Nat} {cs : List Value} (h : AtF w B cs) (k : Nat) : AtF w B (cs.take k) :=
  ⟨⟨h.1.1, fun j u hu => h.1.2 j u (by rw [List.getElem?_take] at hu; split at hu; exact hu; cases hu)⟩, h.2⟩
theorem wpList_pure {P : Program} {ops : Array Oper} {rest : List Oper} {o : Oper} {a : Act} {w : World} {Q : Exit → Act → World → Prop} (hgd : o.guard = none) (v : Value) (hr : (execOp a.eval o).run P w = .ok (.value v) w)
    (h : wpList P ops Q rest (a.put o.dst v) w) : wpList P ops Q (o :: rest) a w :=
  wpList_plain hgd fun _ hK => by
    unfold Oper.wp
    rw [hr]
    exact hK _ _ h
theorem bkc_set {L : List Bk} {k : Nat} {x y : Bk} (h : L[k]? = some x) : setL (bkc L) (k * 4) (bkCells y) = bkc (L.set k y) := by
  obtain ⟨hk, hx⟩ := List.getElem?_eq_some_iff.1 h
  have e1 : L = L.take k ++ (x :: L.drop (k + 1)) := by
    rw [← hx, ← List.drop_eq_getElem_cons hk, List.take_append_drop]
  have e2 : L.set k y = L.take k ++ (y :: L.drop (k + 1)) := by
    rw [List.set_eq_take_append_cons_drop, if_pos hk]
  have e3 : bkc L = bkc (L.take k) ++ (bkCells x ++ bkc (L.drop (k + 1))) := by
    conv => lhs; rw [e1]
    simp [bkc]
  have e4 : bkc (L.set k y) = bkc (L.take k) ++ (bkCells y ++ bkc (L.drop (k + 1))) := by rw [e2]; simp [bkc]
  have hl : (bkc (L.take k)).length = k * 4 := by rw [bkc_len, List.length_take, Nat.min_eq_left (by omega)]
  rw [e3, e4, ← hl]
  exact setL_mid (bkCells y) (bkCells x) _ _ rfl
theorem QN.offRow {N : Nat} {base : Nat} {v : Value} {L : List QM} (hv : v.ownBlock ≠ some N) (hm : ∀ x ∈ L, 0 < x.ms.length → (Value.slice x.q.b.mA x.q.b.mL x.q.b.mC).ownBlock ≠ some N) : ∀ (vs : List Value) {w : World} {i : Nat}, QN w base v L → QN (Proofs.YtpgjbocjhconoaaGreat.setRow w N i vs) base v L
  | [], _, _, h => h
  | u :: vs, _, i, h => QN.offRow hv hm vs (h.off (p := ⟨N, i, none⟩) hv hm u)
/-- A bucket stored over. -/
theorem ElN.setB {w : World} {base g cap k : Nat} {fl en : Value} {fs : List (Int × Int)} {bs : List Bk} {L : List QM} {x y : Bk} (h : ElN w base fl (.slice (some ⟨g, 0, none⟩) bs.length cap) en fs bs L) (hk : bs[k]? = some x) :
    ElN (Proofs.YtpgjbocjhconoaaGreat.setRow w g (k * 4) (bkCells y)) base fl (.slice (some ⟨g, 0, none⟩) bs.length cap) en fs (bs.set k y) L := by
  have gF : fl.ownBlock ≠ some g := fun e => h.sFB g e rfl
  have gE : en.ownBlock ≠ some g := fun e => h.sBE g rfl e
  have h1 := own_setRow (bkCells y) (i := k * 4) h.buo
  rw [bkc_set hk] at h1
  exact ⟨setRow_own _ h.flo gF, by rw [List.length_set]; exact h1, h.eno.offRow gE (fun x hx h0 => h.sBM g rfl x hx h0) _, h.sFB, h.sFE, h.sBE, h.sFM, h.sBM⟩
theorem payB_in {bs : List Bk} {t n now : Int} (h : (payB bs t n now).2 = true) : ∃ (q : Nat) (k : Bk), t = (q : Int) ∧ bs[q]? = some k := by
  unfold payB at h
  rw [Bool.and_eq_true] at h
  have h1 := h.1
  unfold bktE at h1
  by_cases h0 : 0 ≤ t
  · rw [if_pos h0] at h1
    cases hk : bs[t.toNat]? with
    | none => rw [hk] at h1; cases h1
    | some k => exact ⟨t.toNat, k, by omega, hk⟩
  · rw [if_neg h0] at h1; cases h1

set_option maxRecDepth 100000 in
set_option maxHeartbeats 8000000 in
theorem elNext_any (knd rd wt V hd now : Int) (fl bu en bv : Value) (fs : List (Int × Int)) (bs : List Bk) (L : List QM) (B : List BM) (w : World) (hf : Rd w fl 2 fs.length (fcells fs)) (hb : Rd w bu 4 bs.length (bkc bs)) (he : QL w en L) (hB : BL w bv B)
    (hfn : fs.length ≤ 1000) (hbn : bs.length ≤ 1000) (hn : L.length ≤ 100) (hms : ∀ x ∈ L, x.ms.length ≤ 1000) (hsc : ∀ x ∈ L, IsInt (x.q.b.sec + x.q.b.cnt)) :
    Calls Tryz.prog 11 #[.agg #[.int .i64 knd, .int .i64 rd, .int .i64 wt, .int .i64 V, fl, bu, en, .int .i64 hd], .int .i64 now, bv] w fun e w' => ∃ fl' bu' en' L' A c,
      e = .returned (.tuple #[.agg #[.int .i64 knd, .int .i64 rd, .int .i64 wt, .int .i64 (nxtE ⟨knd, rd, wt, V, fs, bs, L.map QM.qu, hd⟩ now (B.map BM.bu)).1.vt, fl', bu', en', .int .i64 (nxtE ⟨knd, rd, wt, V, fs, bs, L.map QM.qu, hd⟩ now (B.map BM.bu)).1.hd], .agg #[.int .i64 (((nxtE ⟨knd, rd, wt, V, fs, bs, L.map QM.qu, hd⟩ now (B.map BM.bu)).2.1.at A c)).id, .int .i64 (((nxtE ⟨knd, rd, wt, V, fs, bs, L.map QM.qu, hd⟩ now (B.map BM.bu)).2.1.at A c)).ten, .int .i64 (((nxtE ⟨knd, rd, wt, V, fs, bs, L.map QM.qu, hd⟩ now (B.map BM.bu)).2.1.at A c)).knd, .int .i64 (((nxtE ⟨knd, rd, wt, V, fs, bs, L.map QM.qu, hd⟩ now (B.map BM.bu)).2.1.at A c)).sec, .int .i64 (((nxtE ⟨knd, rd, wt, V, fs, bs, L.map QM.qu, hd⟩ now (B.map BM.bu)).2.1.at A c)).cnt, .string (((nxtE ⟨knd, rd, wt, V, fs, bs, L.map QM.qu, hd⟩ now (B.map BM.bu)).2.1.at A c)).dat, .bool (((nxtE ⟨knd, rd, wt, V, fs, bs, L.map QM.qu, hd⟩ now (B.map BM.bu)).2.1.at A c)).fua, .slice (((nxtE ⟨knd, rd, wt, V, fs, bs, L.map QM.qu, hd⟩ now (B.map BM.bu)).2.1.at A c)).mA (((nxtE ⟨knd, rd, wt, V, fs, bs, L.map QM.qu, hd⟩ now (B.map BM.bu)).2.1.at A c)).mL (((nxtE ⟨knd, rd, wt, V, fs, bs, L.map QM.qu, hd⟩ now (B.map BM.bu)).2.1.at A c)).mC, .int .i64 (((nxtE ⟨knd, rd, wt, V, fs, bs, L.map QM.qu, hd⟩ now (B.map BM.bu)).2.1.at A c)).tim], .bool (nxtE ⟨knd, rd, wt, V, fs, bs, L.map QM.qu, hd⟩ now (B.map BM.bu)).2.2]) ∧
      ElN w' w.heap.size fl' bu' en' (nxtE ⟨knd, rd, wt, V, fs, bs, L.map QM.qu, hd⟩ now (B.map BM.bu)).1.fl (nxtE ⟨knd, rd, wt, V, fs, bs, L.map QM.qu, hd⟩ now (B.map BM.bu)).1.bk L' ∧ L'.map QM.qu = (nxtE ⟨knd, rd, wt, V, fs, bs, L.map QM.qu, hd⟩ now (B.map BM.bu)).1.en ∧
      Zb w' w.heap.size (nxtE ⟨knd, rd, wt, V, fs, bs, L.map QM.qu, hd⟩ now (B.map BM.bu)).2.1 A c ∧ Bel w w' := by
  have HCE := Lib.hid (fun w' (h : Bel w w') => copyElev_any knd rd wt V hd fl bu en fs bs L w' (hf.bel h) (hb.bel h) (he.bel h) hfn hbn hn hms)
  have HBK := Lib.hid (fun w' (h : Bel w w') (i : Nat) => dlBlocked_any L i B en bv w' (he.bel h) (hB.bel h))
  have HCH := Lib.hid (fun w' (h : Bel w w') (may : List Bool) (mv : Value) (hm : Rd w' mv 1 may.length (bcells may)) => elChoose_any knd rd wt V hd now fl bu en L may mv w' (he.bel h) hm (by omega))
  have HSV := Lib.hid (fun w' (h : Bel w w') (s : Int) => fairServe_any V s fs fl w' (hf.bel h) hfn)
  have HXA := Lib.hid (fun k x (hk : L[k]? = some x) => he.at hk)
  have HSC := Lib.hid hsc
  have HMS := Lib.hid hms
  obtain ⟨Af, cf, rfl, _, _⟩ := hf.form
  obtain ⟨Ab, cb, rfl, _, _⟩ := hb.form
  obtain ⟨Ae, ce, rfl, _, hce⟩ := he.form
  obtain ⟨Av, cv, rfl, _, _⟩ := hB.form
  unfold maxLen at hce
  have HPY := Lib.hid (fun w' (h : Bel w w') (x : Bun) => elPay_any knd rd wt V hd now Af Ab Ae fs.length cf cb L.length ce bs x w' (hb.bel h))
  obtain ⟨E, HE⟩ : ∃ E, Hid (E = (⟨knd, rd, wt, V, fs, bs, L.map QM.qu, hd⟩ : El)) := ⟨_, rfl⟩
  rw [← HE.out]
  obtain ⟨R, HR⟩ : ∃ R, Hid (nxtE E now (B.map BM.bu) = R) := ⟨_, rfl⟩
  rw [HR.out]
  obtain ⟨l, HL⟩ : ∃ l, Hid (mayE E now (B.map BM.bu) = l) := ⟨_, rfl⟩
  have hll : l.length = L.length := by rw [← HL.out, HE.out]; simp [mayE]
  have HLA : Hid (∀ (i : Nat) (x : QM), L[i]? = some x → l[i]? = some ((payB bs x.q.b.ten x.q.b.cnt now).2 && !blk L i B)) := by
    intro i x hx
    have hil := (List.getElem?_eq_some_iff.1 hx).1
    have hEn : E.en = L.map QM.qu := by rw [HE.out]
    rw [← HL.out]
    unfold mayE
    rw [List.getElem?_map, List.getElem?_range (by rw [hEn, List.length_map]; exact hil)]
    have h2 : E.en[i]? = some x.qu := by rw [hEn, List.getElem?_map, hx]; rfl
    simp only [Option.map_some, h2]
    have h3 : E.bk = bs := by rw [HE.out]
    rw [← payB_E, h3, blk_natE, blkN_Q E.en L hEn.symm]
    rfl
  have HCC : Hid (choL knd L l hd now = choE E l now) := by
    have := choE_L E L (by rw [HE.out]) l now
    show _ = _
    rw [← this, HE.out]
  obtain ⟨C, HC⟩ : ∃ C, Hid (choE E l now = C) := ⟨_, rfl⟩
  rw [HC.out] at HCC
  obtain ⟨n, Hn⟩ : ∃ n, Hid (n = L.length) := ⟨_, rfl⟩
  rw [← Hn.out] at hll HCE HBK HCH HXA HPY hn ⊢
  have HLL := Lib.hid hll
  have hmk : ∀ w, (Instr.makeSlice 77 (.int .i64 (n : Int)) (.int .i64 (n : Int))).run Tryz.prog w = .ok (.slice (some ⟨w.heap.size, 0, none⟩) n n) (w.alloc (.cells (bcells (laidB l 0)).toArray 4)) := by
    intro w
    have h1 := run_make_row' (P := Tryz.prog) 77 4 (.bool false) 1 Tryz.underlying77 Tryz.infoBoolE rfl .i64 .i64 n (by omega) (by omega) w
    have h2 : madeCells #[.bool false] n = (bcells (laidB l 0)).toArray := by
      apply Array.toList_inj.1
      rw [toList_madeCells_one, laidB_zero, HLL.out]; simp [bcells]
    rw [h2] at h1
    exact h1
  have hbw : Bel w (((w.alloc (.cells [.int .i64 knd, .int .i64 rd, .int .i64 wt, .int .i64 V, .slice Af fs.length cf, .slice Ab bs.length cb, .slice Ae n ce, .int .i64 hd].toArray 31)).alloc (.cells [.int .i64 0, .int .i64 0, .int .i64 0, .int .i64 0, .slice none 0 0, .slice none 0 0, .slice none 0 0, .int .i64 0].toArray 31)).alloc (.cells [.int .i64 0, .int .i64 0, .int .i64 0, .int .i64 0, .int .i64 0, .string ⟨#[]⟩, .bool false, .slice none 0 0, .int .i64 0].toArray 44)) := bI
  have hE := ((AtF.new_at (w := w) rfl 31 [.int .i64 knd, .int .i64 rd, .int .i64 wt, .int .i64 V, .slice Af fs.length cf, .slice Ab bs.length cb, .slice Ae n ce, .int .i64 hd]).alloc (.cells [.int .i64 0, .int .i64 0, .int .i64 0, .int .i64 0, .slice none 0 0, .slice none 0 0, .slice none 0 0, .int .i64 0].toArray 31)).alloc (.cells [.int .i64 0, .int .i64 0, .int .i64 0, .int .i64 0, .int .i64 0, .string ⟨#[]⟩, .bool false, .slice none 0 0, .int .i64 0].toArray 44)
  have hR := (AtF.new_at (w := w.alloc (.cells [.int .i64 knd, .int .i64 rd, .int .i64 wt, .int .i64 V, .slice Af fs.length cf, .slice Ab bs.length cb, .slice Ae n ce, .int .i64 hd].toArray 31)) (g := w.heap.size + 1) (by simp) 31 [.int .i64 0, .int .i64 0, .int .i64 0, .int .i64 0, .slice none 0 0, .slice none 0 0, .slice none 0 0, .int .i64 0]).alloc (.cells [.int .i64 0, .int .i64 0, .int .i64 0, .int .i64 0, .int .i64 0, .string ⟨#[]⟩, .bool false, .slice none 0 0, .int .i64 0].toArray 44)
  have hZ := AtF.new_at (w := (w.alloc (.cells [.int .i64 knd, .int .i64 rd, .int .i64 wt, .int .i64 V, .slice Af fs.length cf, .slice Ab bs.length cb, .slice Ae n ce, .int .i64 hd].toArray 31)).alloc (.cells [.int .i64 0, .int .i64 0, .int .i64 0, .int .i64 0, .slice none 0 0, .slice none 0 0, .slice none 0 0, .int .i64 0].toArray 31)) (g := w.heap.size + 2) (by simp) 44 [.int .i64 0, .int .i64 0, .int .i64 0, .int .i64 0, .int .i64 0, .string ⟨#[]⟩, .bool false, .slice none 0 0, .int .i64 0]
  simp only [List.toArray] at hbw hE hR hZ
  have hws : (((w.alloc (.cells #[.int .i64 knd, .int .i64 rd, .int .i64 wt, .int .i64 V, .slice Af fs.length cf, .slice Ab bs.length cb, .slice Ae n ce, .int .i64 hd] 31)).alloc (.cells #[.int .i64 0, .int .i64 0, .int .i64 0, .int .i64 0, .slice none 0 0, .slice none 0 0, .slice none 0 0, .int .i64 0] 31)).alloc (.cells #[.int .i64 0, .int .i64 0, .int .i64 0, .int .i64 0, .int .i64 0, .string ⟨#[]⟩, .bool false, .slice none 0 0, .int .i64 0] 44)).heap.size = w.heap.size + 3 := by simp
  clear hf hb he hB hfn hbn hms hsc hll
  go_enter Tryz.func11, Tryz.ntmps11
  go_upto_region 1 with fail
  generalize (((w.alloc (.cells #[.int .i64 knd, .int .i64 rd, .int .i64 wt, .int .i64 V, .slice Af fs.length cf, .slice Ab bs.length cb, .slice Ae n ce, .int .i64 hd] 31)).alloc (.cells #[.int .i64 0, .int .i64 0, .int .i64 0, .int .i64 0, .slice none 0 0, .slice none 0 0, .slice none 0 0, .int .i64 0] 31)).alloc (.cells #[.int .i64 0, .int .i64 0, .int .i64 0, .int .i64 0, .int .i64 0, .string ⟨#[]⟩, .bool false, .slice none 0 0, .int .i64 0] 44)) = W at *
  have e0 := (hE).1.2 0 _ rfl
  have e1 := (hE).1.2 1 _ rfl
  have e2 := (hE).1.2 2 _ rfl
  have e3 := (hE).1.2 3 _ rfl
  have e4 := (hE).1.2 4 _ rfl
  have e5 := (hE).1.2 5 _ rfl
  have e6 := (hE).1.2 6 _ rfl
  have e7 := (hE).1.2 7 _ rfl
  have el := hE.1.1
  go_wp2_with fail
  refine (HCE.out _ bI).mono ?_; rintro e w1 ⟨fl1, bu1, en1, L1, rfl, hEN, hcp, hb1⟩
  obtain ⟨A1, z1, rfl⟩ := own_slice hEN.flo
  obtain ⟨A2, z2, rfl⟩ := own_slice hEN.buo
  obtain ⟨A3, z3, hv3⟩ := own_slice hEN.eno.bo.own
  subst hv3
  have HEN := Lib.hid hEN
  have HCP := Lib.hid hcp
  have hn1 : L1.length = n := by rw [hcp.len]; exact Hn.out.symm
  rw [hn1] at HEN ⊢
  have HN1 := Lib.hid hn1
  clear hEN hcp hn1
  have hX := AtF.new_at (w := w1) rfl 31 [.int .i64 knd, .int .i64 rd, .int .i64 wt, .int .i64 V, .slice A1 fs.length z1, .slice A2 bs.length z2, .slice A3 n z3, .int .i64 hd]
  have hbn : Bel w1 (w1.alloc (.cells [.int .i64 knd, .int .i64 rd, .int .i64 wt, .int .i64 V, .slice A1 fs.length z1, .slice A2 bs.length z2, .slice A3 n z3, .int .i64 hd].toArray 31)) := bI
  have hbc := (hbw.trans hb1).alloc (.cells [.int .i64 knd, .int .i64 rd, .int .i64 wt, .int .i64 V, .slice A1 fs.length z1, .slice A2 bs.length z2, .slice A3 n z3, .int .i64 hd].toArray 31)
  have hE1 := (hE.bel hb1).alloc (.cells [.int .i64 knd, .int .i64 rd, .int .i64 wt, .int .i64 V, .slice A1 fs.length z1, .slice A2 bs.length z2, .slice A3 n z3, .int .i64 hd].toArray 31)
  have hR1 := (hR.bel hb1).alloc (.cells [.int .i64 knd, .int .i64 rd, .int .i64 wt, .int .i64 V, .slice A1 fs.length z1, .slice A2 bs.length z2, .slice A3 n z3, .int .i64 hd].toArray 31)
  have hZ1 := (hZ.bel hb1).alloc (.cells [.int .i64 knd, .int .i64 rd, .int .i64 wt, .int .i64 V, .slice A1 fs.length z1, .slice A2 bs.length z2, .slice A3 n z3, .int .i64 hd].toArray 31)
  have HEN2 := Lib.hid (HEN.out.keep hbn)
  have HOF : Hid (Off w1.heap.size (.slice A1 fs.length z1) (.slice A2 bs.length z2) (.slice A3 n z3) L1) := Lib.hid (HEN.out.newOff (Nat.le_refl _))
  have hNs := hb1.size
  have hNs2 : w1.heap.size < (w1.alloc (.cells [.int .i64 knd, .int .i64 rd, .int .i64 wt, .int .i64 V, .slice A1 fs.length z1, .slice A2 bs.length z2, .slice A3 n z3, .int .i64 hd].toArray 31)).heap.size := by simp
  simp only [List.toArray] at hX hbn hbc hE1 hR1 hZ1 HEN2 hNs2
  go_upto_region 2 with fail
  clear hE hR hZ hbw hb1 HEN hbn e0 e1 e2 e3 e4 e5 e6 e7 el
  generalize w1.alloc (.cells #[.int .i64 knd, .int .i64 rd, .int .i64 wt, .int .i64 V, .slice A1 fs.length z1, .slice A2 bs.length z2, .slice A3 n z3, .int .i64 hd] 31) = W1 at *
  generalize w1.heap.size = N at *
  have e6 := hE1.1.2 6 _ rfl
  have el := hE1.1.1
  have hM := AtF.new_at (w := W1) rfl 4 (bcells (laidB l 0))
  have hbm : Bel W1 (W1.alloc (.cells (bcells (laidB l 0)).toArray 4)) := bI
  go_wp2
  obtain ⟨WM, HWM⟩ : ∃ W, Hid (W = W1.alloc (.cells (bcells (laidB l 0)).toArray 4)) := ⟨_, rfl⟩
  rw [← HWM.out] at hM hbm ⊢
  clear HWM e6 el hmk
  obtain ⟨M, HM⟩ : ∃ M, Hid (W1.heap.size = M) := ⟨_, rfl⟩
  rw [HM.out] at hM hNs2 ⊢
  go_loopw [27] (fun iv wr => ∃ i : Nat, iv = .int .i64 i ∧ i ≤ n ∧ AtF wr M (bcells (laidB l i)) ∧ Bel W1 wr) (fun iv _ => n - (intOf iv).toNat)
  case atStart => exact ⟨0, rfl, by omega, hM, hbm⟩
  case round =>
    clear hM hbm
    obtain ⟨i, rfl, p1, hM, hbr⟩ := hrel
    obtain ⟨W2, rfl⟩ : ∃ X, X = wr := ⟨_, rfl⟩
    by_cases hlt : i < n
    · have hin : (i : Int) < (n : Int) := by omega
      obtain ⟨x, hx⟩ : ∃ x, L[i]? = some x := ⟨L[i]'(by have := Hn.out; omega), List.getElem?_eq_getElem _⟩
      obtain ⟨g, o, cx, hat⟩ := HXA.out i x hx
      have hf := hat.form
      injection hf with hf1 hf2 hf3
      subst hf1 hf3
      clear hf2
      have hbw2 := hbc.trans hbr
      have hrow := hat.row.bel hbw2 hat.lt
      have HLI := Lib.hid (HLA.out i x hx)
      clear hat
      obtain ⟨⟨pk, pd⟩, HP0⟩ : ∃ r, Hid (payB bs x.q.b.ten x.q.b.cnt now = r) := ⟨_, rfl⟩
      have HPY2 := Lib.hid (fun W' (h : Bel W2 W') => HPY.out W' (hbw2.trans h) x.q.b)
      have HBK2 := Lib.hid (fun W' (h : Bel W2 W') => HBK.out W' (hbw2.trans h) i)
      rw [HP0.out] at HPY2 HLI
      obtain ⟨bk, HBK0⟩ : ∃ r, Hid (blk L i B = r) := ⟨_, rfl⟩
      rw [HBK0.out] at HBK2 HLI
      obtain ⟨⟨⟨i2, t2, k2, s2, n2, d2, f2, a2, l2, c2, m2⟩, du, st, tr⟩, ms2⟩ := x
      obtain ⟨qr, qu, ql, qt⟩ := pk
      simp only [bkCells] at hrow HPY2 HLI
      have q0 := (hrow).cell 0 rfl
      have q1 := (hrow).cell 1 rfl
      have q2 := (hrow).cell 2 rfl
      have q3 := (hrow).cell 3 rfl
      have q4 := (hrow).cell 4 rfl
      have q5 := (hrow).cell 5 rfl
      have q6 := (hrow).cell 6 rfl
      have q7 := (hrow).cell 7 rfl
      have q8 := (hrow).cell 8 rfl
      have q9 := (hrow).cell 9 rfl
      have q10 := (hrow).cell 10 rfl
      have q11 := (hrow).cell 11 rfl
      rw [Nat.add_zero] at q0
      have hE2 := hE1.bel hbr
      have e0 := (hE2).1.2 0 _ rfl
      have e1 := (hE2).1.2 1 _ rfl
      have e2 := (hE2).1.2 2 _ rfl
      have e3 := (hE2).1.2 3 _ rfl
      have e4 := (hE2).1.2 4 _ rfl
      have e5 := (hE2).1.2 5 _ rfl
      have e6 := (hE2).1.2 6 _ rfl
      have e7 := (hE2).1.2 7 _ rfl
      have el := hE2.1.1
      go_wp2_with fail
      refine (HPY2.out _ bI).mono ?_; rintro e w4 ⟨rfl, hb4⟩
      clear q0 q1 q2 q3 q4 q5 q6 q7 q8 q9 q10 q11 hE2 e0 e1 e2 e3 e4 e5 e6 e7 el
      have hb24 : Bel W2 w4 := bI
      have hE4 := hE1.bel (hbr.trans hb24)
      have e6 := hE4.1.2 6 _ rfl
      have el := hE4.1.1
      have hM4 := hM.bel hb24
      have mi := hM4.1.2 i _ (bcells_at (k := i) (b := (laidB l i)[i]'(by rw [laidB_len (by rw [HLL.out]; omega), HLL.out]; exact hlt)) (List.getElem?_eq_getElem _))
      have mf := hM4.2 i
      have ml := hM4.1.1
      have hMl : W1.heap.size ≤ M := by rw [HM.out]; exact Nat.le_refl _
      have hil : i < (bcells (laidB l i)).length := by rw [bcells, List.length_map, laidB_len (by rw [HLL.out]; omega), HLL.out]; exact hlt
      have hb14 := hbr.trans hb24
      cases pd
      · have HLS : Hid ((laidB l i).set i false = laidB l (i + 1)) := laidB_set HLI.out
        go_wp2
        go_roundw
        case rel => exact ⟨i + 1, by go_num, by omega, by rw [← HLS.out, ← bcells_set]; exact (hM4.set i hil _).alloc _, bI⟩
        case measure => simp [intOf]; omega
      · go_wp2_with fail
        refine (HBK2.out _ bI).mono ?_; rintro e w5 ⟨rfl, hb5⟩
        have hb25 : Bel W2 w5 := bI
        clear mi mf ml e6 el
        have hM5 := hM.bel hb25
        have mi := hM5.1.2 i _ (bcells_at (k := i) (b := (laidB l i)[i]'(by rw [laidB_len (by rw [HLL.out]; omega), HLL.out]; exact hlt)) (List.getElem?_eq_getElem _))
        have mf := hM5.2 i
        have ml := hM5.1.1
        have hb15 := hbr.trans hb25
        have HLS : Hid ((laidB l i).set i (!bk) = laidB l (i + 1)) := laidB_set HLI.out
        go_wp2
        go_roundw
        case rel => exact ⟨i + 1, by go_num, by omega, by rw [← HLS.out, ← bcells_set]; exact hM5.set i hil _, bI⟩
        case measure => simp [intOf]; omega
    · obtain rfl : i = n := by omega
      have jk : decide ((i : Int) < (i : Int)) = false := by simp
      have hM9 : AtF W2 M (bcells l) := by
        have h9 := laidB_end l
        rw [HLL.out] at h9
        rw [← h9]; exact hM
      have hRM : Rd W2 (.slice (some ⟨M, 0, none⟩) i i) 1 l.length (bcells l) := by
        rw [HLL.out]
        exact ⟨by rw [bcells, List.length_map, HLL.out, Nat.mul_one], _, i, rfl, Nat.le_refl _, by unfold maxLen; omega, fun _ => ⟨M, 0, rfl, hM9.1.1, fun j u hu => by rw [Nat.zero_add]; exact hM9.1.2 j u hu⟩⟩
      have HCHX := Lib.hid (fun W' (h : Bel W2 W') => HCH.out W' ((hbc.trans hbr).trans h) l _ (hRM.bel h))
      rw [HCC.out] at HCHX
      have hE2 := hE1.bel hbr
      have e0 := (hE2).1.2 0 _ rfl
      have e1 := (hE2).1.2 1 _ rfl
      have e2 := (hE2).1.2 2 _ rfl
      have e3 := (hE2).1.2 3 _ rfl
      have e4 := (hE2).1.2 4 _ rfl
      have e5 := (hE2).1.2 5 _ rfl
      have e6 := (hE2).1.2 6 _ rfl
      have e7 := (hE2).1.2 7 _ rfl
      have el := hE2.1.1
      go_wp2_with fail
      refine (HCHX.out _ bI).mono ?_; rintro e w5 ⟨ci, rfl, hci, hb5⟩
      clear e0 e1 e2 e3 e4 e5 e6 e7 el hE2 jk hM9 hRM hM HCHX HCH HBK
      have hb15 := hbr.trans hb5
      cases C with
      | none =>
        have HRN : Hid (R = (E, zeroU, false)) := by
          show _ = _
          rw [← HR.out]
          unfold nxtE nextE
          rw [HL.out, HC.out]
        obtain rfl : R = (E, zeroU, false) := HRN.out
        obtain rfl : E = ⟨knd, rd, wt, V, fs, bs, L.map QM.qu, hd⟩ := HE.out
        have hX5 := hX.bel hb15
        have hR5 := hR1.bel hb15
        have hZ5 := hZ1.bel hb15
        have hE5 := HEN2.out.keep hb15
        have hb5' := hbc.trans hb15
        have hCP := HCP.out.bu
        go_upto_region 11 with fail
        refine wp_region_lit ?_
        have hi8 : (Tryz.prog.info? 31).map (·.size) = some 8 := by kernel_rfl
        have hi9 : (Tryz.prog.info? 44).map (·.size) = some 9 := by kernel_rfl
        refine wpList_load_at rfl 31 _ rfl rfl hX5 _ Tryz.underlying31 rfl hi8 ?_
        refine wpList_pure rfl (.agg #[.int .i64 0, .int .i64 0, .int .i64 0, .int .i64 0, .int .i64 0, .string ⟨#[]⟩, .bool false, .slice none 0 0, .int .i64 0]) (by kernel_rfl) ?_
        have one8 : ∀ u ∈ ([.int .i64 knd, .int .i64 rd, .int .i64 wt, .int .i64 V, .slice A1 fs.length z1, .slice A2 bs.length z2, .slice A3 i z3, .int .i64 hd] : List Value), u.oneCell' = true := fun u hu => by
          simp only [List.mem_cons, List.not_mem_nil, or_false] at hu
          rcases hu with rfl | rfl | rfl | rfl | rfl | rfl | rfl | rfl <;> rfl
        have one9 : ∀ u ∈ ([.int .i64 0, .int .i64 0, .int .i64 0, .int .i64 0, .int .i64 0, .string ⟨#[]⟩, .bool false, .slice none 0 0, .int .i64 0] : List Value), u.oneCell' = true := fun u hu => by
          simp only [List.mem_cons, List.not_mem_nil, or_false] at hu
          rcases hu with rfl | rfl | rfl | rfl | rfl | rfl | rfl | rfl | rfl <;> rfl
        refine wpList_store_at rfl 31 _ _ rfl rfl rfl hR5 rfl one8 hi8 ?_
        have hR8 := (hR5).setRow [.int .i64 knd, .int .i64 rd, .int .i64 wt, .int .i64 V, .slice A1 fs.length z1, .slice A2 bs.length z2, .slice A3 i z3, .int .i64 hd] rfl
        have hZ8 := (hZ5).setRow_other (B := w.heap.size + 1) (i := 0) [.int .i64 knd, .int .i64 rd, .int .i64 wt, .int .i64 V, .slice A1 fs.length z1, .slice A2 bs.length z2, .slice A3 i z3, .int .i64 hd] (by omega)
        have hE8 := ElN.setRow (B := w.heap.size + 1) (i := 0) [.int .i64 knd, .int .i64 rd, .int .i64 wt, .int .i64 V, .slice A1 fs.length z1, .slice A2 bs.length z2, .slice A3 i z3, .int .i64 hd] hE5 (by omega)
        have hb8 := Bel.setRow (B := w.heap.size + 1) (i := 0) [.int .i64 knd, .int .i64 rd, .int .i64 wt, .int .i64 V, .slice A1 fs.length z1, .slice A2 bs.length z2, .slice A3 i z3, .int .i64 hd] hb5' (by omega)
        generalize setRow w5 (w.heap.size + 1) 0 [.int .i64 knd, .int .i64 rd, .int .i64 wt, .int .i64 V, .slice A1 fs.length z1, .slice A2 bs.length z2, .slice A3 i z3, .int .i64 hd] = W8 at *
        refine wpList_store_at rfl 44 _ _ rfl rfl rfl hZ8 rfl one9 hi9 ?_
        have hZ9 := hZ8.setRow [.int .i64 0, .int .i64 0, .int .i64 0, .int .i64 0, .int .i64 0, .string ⟨#[]⟩, .bool false, .slice none 0 0, .int .i64 0] rfl
        have hR9 := hR8.setRow_other (B := w.heap.size + 2) (i := 0) [.int .i64 0, .int .i64 0, .int .i64 0, .int .i64 0, .int .i64 0, .string ⟨#[]⟩, .bool false, .slice none 0 0, .int .i64 0] (by omega)
        have hE9 := (ElN.setRow (B := w.heap.size + 2) (i := 0) [.int .i64 0, .int .i64 0, .int .i64 0, .int .i64 0, .int .i64 0, .string ⟨#[]⟩, .bool false, .slice none 0 0, .int .i64 0] hE8 (by omega)).mono (base' := w.heap.size) (by omega)
        have hb9 := Bel.setRow (B := w.heap.size + 2) (i := 0) [.int .i64 0, .int .i64 0, .int .i64 0, .int .i64 0, .int .i64 0, .string ⟨#[]⟩, .bool false, .slice none 0 0, .int .i64 0] hb8 (by omega)
        have hlv := loadVar_at (P := Tryz.prog) 31 hR9 _ Tryz.underlying31 rfl hi8
        have hlz := loadVar_at (P := Tryz.prog) 44 hZ9 _ Tryz.underlying44 rfl hi9
        generalize setRow W8 (w.heap.size + 2) 0 [.int .i64 0, .int .i64 0, .int .i64 0, .int .i64 0, .int .i64 0, .string ⟨#[]⟩, .bool false, .slice none 0 0, .int .i64 0] = W9 at *
        simp only [Act.put, Act.eval, List.setIfInBounds_toArray, List.set_cons_succ, List.set_cons_zero]
        go_wp2
        exact bodyPost_ret (v := .tuple #[.agg #[.int .i64 knd, .int .i64 rd, .int .i64 wt, .int .i64 V, .slice A1 fs.length z1, .slice A2 bs.length z2, .slice A3 i z3, .int .i64 hd], .agg #[.int .i64 0, .int .i64 0, .int .i64 0, .int .i64 0, .int .i64 0, .string ⟨#[]⟩, .bool false, .slice none 0 0, .int .i64 0], .bool false]) (by simp [results, Tryz.results11, hlv, hlz, asAddr]) rfl ⟨_, _, _, L1, none, 0, rfl, hE9, hCP, zb_zero _ _, hb9⟩
      | some k =>
        have hlk : l[k]? = some true := choE_may HC.out
        have hkn : k < i := by rw [← HLL.out]; exact (List.getElem?_eq_some_iff.1 hlk).1
        obtain ⟨x, hx⟩ : ∃ x, L[k]? = some x := ⟨L[k]'(by have := Hn.out; omega), List.getElem?_eq_getElem _⟩
        have hlx := HLA.out k x hx
        rw [hlk] at hlx
        have hpp : (payB bs x.q.b.ten x.q.b.cnt now).2 = true := by
          cases hpp : (payB bs x.q.b.ten x.q.b.cnt now).2
          · rw [hpp] at hlx; simp at hlx
          · rfl
        obtain ⟨q, bq, htq, hbq⟩ := payB_in hpp
        obtain ⟨⟨pk, pd⟩, HP0⟩ : ∃ r, Hid (payB bs x.q.b.ten x.q.b.cnt now = r) := ⟨_, rfl⟩
        have hRS : R = (⟨knd, rd, wt, servV V x.q.sta, fs, bs.set q pk, (L.map QM.qu).eraseIdx k, x.q.b.sec + x.q.b.cnt⟩, x.qu.u, true) := by
          have hE : E = ⟨knd, rd, wt, V, fs, bs, L.map QM.qu, hd⟩ := HE.out
          have h2 : E.en[k]? = some x.qu := by rw [hE]; show (L.map QM.qu)[k]? = _; rw [List.getElem?_map, hx]; rfl
          have h3 : E.bk = bs := by rw [hE]
          have h4 := payB_E E x.qu.u now
          rw [h3] at h4
          have h5 : (payE E x.qu.u now).1 = pk := by
            rw [← h4]
            show (payB bs x.q.b.ten x.q.b.cnt now).1 = pk
            rw [HP0.out]
          have h6 : x.qu.u.ten.toNat = q := by show x.q.b.ten.toNat = q; omega
          rw [← HR.out]
          unfold nxtE nextE
          rw [HL.out, HC.out]
          simp only [h2]
          rw [h5, h6, hE]
          rfl
        clear hlx hpp
        obtain ⟨g, o, cx, hat⟩ := HXA.out k x hx
        have hf := hat.form
        injection hf with hf1 hf2 hf3
        subst hf1 hf3
        clear hf2
        have hbw5 := hbc.trans hb15
        have hrow := hat.row.bel hbw5 hat.lt
        have HXM := Lib.hid (fun W' (h : Bel w W') => hat.mem.bel h)
        have HXS := Lib.hid (HSC.out x (List.mem_of_getElem? hx))
        have HXL := Lib.hid (HMS.out x (List.mem_of_getElem? hx))
        clear hat
        obtain ⟨y1, hy1, hyq⟩ : ∃ y1, L1[k]? = some y1 ∧ y1.qu = x.qu := by
          have h1 : (L1.map QM.qu)[k]? = (L.map QM.qu)[k]? := by rw [HCP.out.bu]
          rw [List.getElem?_map, List.getElem?_map, hx] at h1
          cases h : L1[k]? with
          | none => rw [h] at h1; cases h1
          | some y1 => rw [h] at h1; exact ⟨y1, rfl, by simpa using h1⟩
        have HCPE : Hid ((L1.eraseIdx k).map QM.qu = (L.map QM.qu).eraseIdx k) := by
          show _ = _
          rw [← HCP.out.bu, List.eraseIdx_eq_take_drop_succ, List.eraseIdx_eq_take_drop_succ, List.map_append, List.map_take, List.map_drop]
        have hk1 : k < L1.length := (List.getElem?_eq_some_iff.1 hy1).1
        have hn1 := HN1.out
        obtain ⟨g3, c3, hA3, _, _⟩ := HEN2.out.eno.bo.own.form (by omega)
        obtain ⟨rfl, rfl⟩ : A3 = some ⟨g3, 0, none⟩ ∧ z3 = c3 := by injection hA3 with h1 h2 h3; exact ⟨h1, h3⟩
        clear hA3
        obtain ⟨g2, c2, hA2, _, _⟩ := HEN2.out.buo.form (by have := (List.getElem?_eq_some_iff.1 hbq).1; omega)
        obtain ⟨rfl, rfl⟩ : A2 = some ⟨g2, 0, none⟩ ∧ z2 = c2 := by injection hA2 with h1 h2 h3; exact ⟨h1, h3⟩
        clear hA2
        have HDL := Lib.hid (fun w' (h : QN w' W.heap.size (.slice (some ⟨g3, 0, none⟩) L1.length z3) L1) => deleteQ_any L1 k W.heap.size g3 z3 w' h hk1 (by omega))
        rw [hn1] at HDL
        obtain ⟨⟨⟨i2, t2, k2, s2, n2, d2, f2, a2, l2, cz, m2⟩, du, st, tr⟩, ms2⟩ := x
        obtain ⟨qr, qu, ql, qt⟩ := pk
        simp only at hrow htq HP0 HXM HXS HXL hRS
        obtain rfl := htq
        have q0 := (hrow).cell 0 rfl
        have q1 := (hrow).cell 1 rfl
        have q2 := (hrow).cell 2 rfl
        have q3 := (hrow).cell 3 rfl
        have q4 := (hrow).cell 4 rfl
        have q5 := (hrow).cell 5 rfl
        have q6 := (hrow).cell 6 rfl
        have q7 := (hrow).cell 7 rfl
        have q8 := (hrow).cell 8 rfl
        have q9 := (hrow).cell 9 rfl
        have q10 := (hrow).cell 10 rfl
        have q11 := (hrow).cell 11 rfl
        rw [Nat.add_zero] at q0
        have hE5 := hE1.bel hb15
        have e0 := (hE5).1.2 0 _ rfl
        have e1 := (hE5).1.2 1 _ rfl
        have e2 := (hE5).1.2 2 _ rfl
        have e3 := (hE5).1.2 3 _ rfl
        have e4 := (hE5).1.2 4 _ rfl
        have e5 := (hE5).1.2 5 _ rfl
        have e6 := (hE5).1.2 6 _ rfl
        have e7 := (hE5).1.2 7 _ rfl
        have el := hE5.1.1
        have hkk : (k : Int) < (i : Int) := by omega
        obtain rfl : ci = (k : Int) := hci k rfl
        clear hci hlk
        go_upto_region 13 with fail
        obtain rfl : l2 = ms2.length := (HXM.out w (Bel.refl _)).len
        have hT6 := AtF.new_at (w := w5) rfl 67 [.int .i64 i2, .int .i64 (q : Int), .int .i64 k2, .int .i64 s2, .int .i64 n2, .string d2, .bool f2, .slice a2 ms2.length cz, .int .i64 m2, .int .i64 du, .int .i64 st, .int .i64 tr]
        have hbt : Bel w5 (w5.alloc (.cells [.int .i64 i2, .int .i64 (q : Int), .int .i64 k2, .int .i64 s2, .int .i64 n2, .string d2, .bool f2, .slice a2 ms2.length cz, .int .i64 m2, .int .i64 du, .int .i64 st, .int .i64 tr].toArray 67)) := bI
        simp only [List.toArray] at hT6 hbt
        have hb16 := hb15.trans hbt
        have hX6 := hX.bel hb16
        have hE6 := hE1.bel hb16
        have hR6 := hR1.bel hb16
        have hZ6 := hZ1.bel hb16
        have hEN6 := HEN2.out.keep hb16
        have hb6 := hbc.trans hb16
        have hT5 := hb15.size
        have hNT : N < w5.heap.size := by have := HM.out; omega
        have hg3 := HEN2.out.eno.bo.own.lt g3 rfl
        have hg2 := HEN2.out.buo.lt g2 rfl
        have hN3 : N ≠ g3 := fun e => HOF.out.e (by rw [e]; rfl)
        have hN2 : N ≠ g2 := fun e => HOF.out.b (by rw [e]; rfl)
        clear q0 q1 q2 q3 q4 q5 q6 q7 q8 q9 q10 q11 e0 e1 e2 e3 e4 e5 e6 e7 el hE5 hbt hb16 hrow
        generalize w5.alloc (.cells #[.int .i64 i2, .int .i64 (q : Int), .int .i64 k2, .int .i64 s2, .int .i64 n2, .string d2, .bool f2, .slice a2 ms2.length cz, .int .i64 m2, .int .i64 du, .int .i64 st, .int .i64 tr] 67) = W6 at *
        generalize w5.heap.size = T at *
        have n6 := hX6.1.2 6 _ rfl
        have nl := hX6.1.1
        have ekk : IntKind.i64.wrap ((k : Int) + 1) = (k : Int) + 1 := IntWalk.i64_in _ (by omega)
        go_wp2_with fail
        refine (HDL.out _ hEN6.eno).mono ?_; rintro e w7 ⟨rfl, hQ7, hg7⟩
        have hEN7 : ElN w7 W.heap.size (.slice A1 fs.length z1) (.slice (some ⟨g2, 0, none⟩) bs.length z2) (.slice (some ⟨g3, 0, none⟩) (L1.eraseIdx k).length z3) fs bs (L1.eraseIdx k) := by
          have h := hEN6
          rw [← hn1] at h
          exact h.erase hg7 hQ7
        have hOF7 : Off N (.slice A1 fs.length z1) (.slice (some ⟨g2, 0, none⟩) bs.length z2) (.slice (some ⟨g3, 0, none⟩) (L1.eraseIdx k).length z3) (L1.eraseIdx k) := HOF.out.erase
        have hb7 : Bel w w7 := bel_own hb6 hEN6.eno.bo.own hg7 (by omega)
        have hX7 := hX6.grown hg7 (by simp; exact hN3)
        have hE7 := hE6.grown hg7 (by simp; omega)
        have hR7 := hR6.grown hg7 (by simp; omega)
        have hZ7 := hZ6.grown hg7 (by simp; omega)
        have hT7 := hT6.grown hg7 (by simp; omega)
        obtain ⟨L2, HL2⟩ : ∃ L2, Hid (L1.eraseIdx k = L2) := ⟨_, rfl⟩
        rw [HL2.out] at hEN7 hOF7 HCPE ⊢
        clear n6 nl hX6 hE6 hR6 hZ6 hT6 hEN6 hb6 hQ7 hg7 HDL hk1
        have n6 := hX7.1.2 6 _ rfl
        have nl := hX7.1.1
        have nf := hX7.2
        have hX8 := hX7.set 6 (by simp) (.slice (some ⟨g3, 0, none⟩) L2.length z3)
        have hE8 := hE7.other (C := N) (by omega) 6 (.slice (some ⟨g3, 0, none⟩) L2.length z3)
        have hR8 := hR7.other (C := N) (by omega) 6 (.slice (some ⟨g3, 0, none⟩) L2.length z3)
        have hZ8 := hZ7.other (C := N) (by omega) 6 (.slice (some ⟨g3, 0, none⟩) L2.length z3)
        have hT8 := hT7.other (C := N) (by omega) 6 (.slice (some ⟨g3, 0, none⟩) L2.length z3)
        have hEN8 := hEN7.off (p := ⟨N, 6, none⟩) hOF7 (.slice (some ⟨g3, 0, none⟩) L2.length z3)
        have hb8 := hb7.setNew (p := ⟨N, 6, none⟩) (by show w.heap.size ≤ N; omega) (.slice (some ⟨g3, 0, none⟩) L2.length z3)
        simp only [List.set_cons_succ, List.set_cons_zero] at hX8
        go_upto_region 14 with fail
        clear n6 nl nf hX7 hE7 hR7 hZ7 hT7 hEN7 hb7
        generalize w7.setCell ⟨N, 6, none⟩ (.slice (some ⟨g3, 0, none⟩) L2.length z3) = W8 at *
        have HPX := Lib.hid (fun W' (h : Bel w W') => HPY.out W' h ⟨i2, (q : Int), k2, s2, n2, d2, f2, a2, ms2.length, cz, m2⟩)
        simp only [HP0.out, bkCells] at HPX
        let NXS : World → Prop := fun W' => AtF W' N [.int .i64 knd, .int .i64 rd, .int .i64 wt, .int .i64 V, .slice A1 fs.length z1, .slice (some ⟨g2, 0, none⟩) bs.length z2, .slice (some ⟨g3, 0, none⟩) L2.length z3, .int .i64 hd] ∧ AtF W' T [.int .i64 i2, .int .i64 (q : Int), .int .i64 k2, .int .i64 s2, .int .i64 n2, .string d2, .bool f2, .slice a2 ms2.length cz, .int .i64 m2, .int .i64 du, .int .i64 st, .int .i64 tr] ∧ AtF W' w.heap.size [.int .i64 knd, .int .i64 rd, .int .i64 wt, .int .i64 V, .slice Af fs.length cf, .slice Ab bs.length cb, .slice (some ⟨g, o, none⟩) i ce, .int .i64 hd]
        haveI nnS : Nonempty (InS NXS) := ⟨⟨W8, hX8, hT8, hE8⟩⟩
        have s5 : ∀ p : InS NXS, p.w.cell? ⟨N, 5, none⟩ = some (.slice (some ⟨g2, 0, none⟩) bs.length z2) := fun p => p.h.1.1.2 5 _ rfl
        have s1 : ∀ p : InS NXS, p.w.cell? ⟨T, 1, none⟩ = some (.int .i64 (q : Int)) := fun p => p.h.2.1.1.2 1 _ rfl
        have hqb : (q : Int) < (bs.length : Int) := by have := (List.getElem?_eq_some_iff.1 hbq).1; omega
        refine wp_region_sts NXS [9, 14] 15 (by kernel_rfl) (by kernel_rfl) ?hS0 ?_
        case hS0 => exact ⟨hX8.drew, hT8.drew, hE8.drew⟩
        with_reducible refine st_sel [0, 1, 2, 3, 4, 5, 6, 7, 8] (by kernel_rfl) (by kernel_rfl) ?_
        simp only [picked, List.getElem?_cons_succ, List.getElem?_cons_zero, Option.toList_some, List.nil_append, List.cons_append, List.append_nil]
        go_big_quiet_step (fail)
        go_big_quiet_step (fail)
        go_big_quiet_step (fail)
        go_big_quiet_step (fail)
        go_big_quiet_step (fail)
        refine wpQuiet_load_s rfl 31 _ rfl rfl (fun w' h => h.2.2) _ Tryz.underlying31 rfl (by kernel_rfl) ?_
        try simp only [Act.put, List.setIfInBounds_toArray, List.set_cons_succ, List.set_cons_zero]
        go_big_quiet_step (fail)
        refine wpQuiet_load_s rfl 44 _ rfl rfl (fun w' h => (h.2.1).pre 9) _ Tryz.underlying44 rfl (by kernel_rfl) ?_
        try simp only [Act.put, List.setIfInBounds_toArray, List.set_cons_succ, List.set_cons_zero, List.take_succ_cons, List.take_zero]
        go_big_quiet_step (fail)
        with_reducible refine wpQuiet_nil ?_
        try simp only [List.nil_append, List.cons_append, Act.put, List.setIfInBounds_toArray, List.set_cons_succ, List.set_cons_zero]
        refine st_branch [9] (by kernel_rfl) (branch_cons (by simp only [List.getElem?_toArray, List.getElem?_cons_succ, List.getElem?_cons_zero]; rfl) ?_ branch_nil)
        refine eff_call_s 37 rfl (by simp [go_sem]; rfl) ⟨hX8.drew, hT8.drew, hE8.drew⟩ ?_
        refine (HPX.out _ bI).mono ?_; rintro e w9 ⟨rfl, hb9⟩
        have hb89 : Bel W8 w9 := bI
        have hX9 := hX8.bel hb89
        have hT9 := hT8.bel hb89
        have hE9 := hE8.bel hb89
        have hR9 := hR8.bel hb89
        have hZ9 := hZ8.bel hb89
        have hEN9 := hEN8.keep hb89
        have hb9' := hb8.trans hb89
        refine ⟨_, rfl, ⟨hX9, hT9, hE9⟩, ?_⟩
        try simp only [List.nil_append, List.cons_append, Act.put, List.setIfInBounds_toArray, List.set_cons_succ, List.set_cons_zero]
        with_reducible refine st_sel [10, 11, 12, 13] (by kernel_rfl) (by kernel_rfl) ?_
        simp only [picked, List.getElem?_cons_succ, List.getElem?_cons_zero, Option.toList_some, List.nil_append, List.cons_append, List.append_nil]
        go_big_quiet_step (fail)
        go_big_quiet_step (fail)
        go_big_quiet_step (fail)
        go_big_quiet_step (fail)
        with_reducible refine wpQuiet_nil ?_
        try simp only [List.nil_append, List.cons_append, Act.put, List.setIfInBounds_toArray, List.set_cons_succ, List.set_cons_zero]
        refine st_branch [14] (by kernel_rfl) (branch_cons (by simp only [List.getElem?_toArray, List.getElem?_cons_succ, List.getElem?_cons_zero]; rfl) ?_ branch_nil)
        have hrb : InRow w9 g2 (0 + q * 4) (bkCells bq) := row_at (l := bs) bkCells_len (fun j u hu => by have h := hEN9.buo.cells (g := g2) rfl j u hu; rw [add_zero_off] at h; rw [Nat.zero_add]; exact h) hbq
        rw [Nat.zero_add] at hrb
        have gf := fun j => hEN9.buo.frozenAt (g := g2) j
        have one4 : ∀ u ∈ ([.int .i64 qr, .int .i64 qu, .int .i64 ql, .int .i64 qt] : List Value), u.oneCell' = true := fun u hu => by
          simp only [List.mem_cons, List.not_mem_nil, or_false] at hu
          rcases hu with rfl | rfl | rfl | rfl <;> rfl
        have hX10 := hX9.setRow_other (B := g2) (i := q * 4) [.int .i64 qr, .int .i64 qu, .int .i64 ql, .int .i64 qt] hN2
        have hT10 := hT9.setRow_other (B := g2) (i := q * 4) [.int .i64 qr, .int .i64 qu, .int .i64 ql, .int .i64 qt] (by omega)
        have hE10 := hE9.setRow_other (B := g2) (i := q * 4) [.int .i64 qr, .int .i64 qu, .int .i64 ql, .int .i64 qt] (by omega)
        have hR10 := hR9.setRow_other (B := g2) (i := q * 4) [.int .i64 qr, .int .i64 qu, .int .i64 ql, .int .i64 qt] (by omega)
        have hZ10 := hZ9.setRow_other (B := g2) (i := q * 4) [.int .i64 qr, .int .i64 qu, .int .i64 ql, .int .i64 qt] (by omega)
        have hEN10 := ElN.setB (y := ⟨qr, qu, ql, qt⟩) hEN9 hbq
        have hb10 := Bel.setRow (B := g2) (i := q * 4) [.int .i64 qr, .int .i64 qu, .int .i64 ql, .int .i64 qt] hb9' (by omega)
        with_reducible refine eff_done_s (w' := setRow w9 g2 (q * 4) [.int .i64 qr, .int .i64 qu, .int .i64 ql, .int .i64 qt]) ?_ ?_ ?_ ?_
        · rfl
        · exact exec_store_off (vs := [.int .i64 qr, .int .i64 qu, .int .i64 ql, .int .i64 qt]) 54 _ _ rfl rfl rfl hrb.all (fun j => gf (q * 4 + j)) rfl one4 (by kernel_rfl)
        · exact ⟨hX10, hT10, hE10⟩
        try simp only [List.nil_append, List.cons_append, Act.put, List.setIfInBounds_toArray, List.set_cons_succ, List.set_cons_zero]
        simp only [bkCells] at hEN10
        generalize setRow w9 g2 (q * 4) [.int .i64 qr, .int .i64 qu, .int .i64 ql, .int .i64 qt] = W10 at *
        clear hX8 hT8 hE8 hR8 hZ8 hEN8 hb8 hX9 hT9 hE9 hR9 hZ9 hEN9 hb9' hb89 hrb gf s5 s1 nnS hb9
        refine st_end (by kernel_rfl) ?_
        simp only [List.drop_succ_cons, List.drop_zero, List.drop_nil]
        have t3 := hT10.1.2 3 _ rfl
        have t4 := hT10.1.2 4 _ rfl
        have tl := hT10.1.1
        have n7 := hX10.1.2 7 _ rfl
        have nl := hX10.1.1
        have nf := hX10.2
        have ews : IntKind.i64.wrap (s2 + n2) = s2 + n2 := IntWalk.i64_in _ (by have := HXS.out; unfold IsInt at this; omega)
        have hX11 := hX10.set 7 (by simp) (.int .i64 (s2 + n2))
        have hE11 := hE10.other (C := N) (by omega) 7 (.int .i64 (s2 + n2))
        have hR11 := hR10.other (C := N) (by omega) 7 (.int .i64 (s2 + n2))
        have hZ11 := hZ10.other (C := N) (by omega) 7 (.int .i64 (s2 + n2))
        have hT11 := hT10.other (C := N) (by omega) 7 (.int .i64 (s2 + n2))
        have hEN11 := hEN10.off (p := ⟨N, 7, none⟩) hOF7 (.int .i64 (s2 + n2))
        have hb11 := hb10.setNew (p := ⟨N, 7, none⟩) (by show w.heap.size ≤ N; omega) (.int .i64 (s2 + n2))
        simp only [List.set_cons_succ, List.set_cons_zero] at hX11
        go_upto_region 16 with fail
        clear t3 t4 tl n7 nl nf hX10 hE10 hR10 hZ10 hT10 hEN10 hb10
        generalize W10.setCell ⟨N, 7, none⟩ (.int .i64 (s2 + n2)) = W11 at *
        obtain ⟨V2, HV2⟩ : ∃ v, Hid (servV V st = v) := ⟨_, rfl⟩
        have HSV2 : Hid (∀ W', Bel w W' → Calls Tryz.prog 41 #[.agg #[.int .i64 V, .slice Af fs.length cf], .int .i64 st] W' fun e w' => ∃ v', e = .returned (.agg #[.int .i64 V2, v']) ∧ w'.ownsRow W'.heap.size 101 2 v' fs.length (fcells fs) ∧ Bel W' w') := by
          intro W' h
          rw [← HV2.out]
          exact HSV.out W' h st
        have e3 := hE11.1.2 3 _ rfl
        have e4 := hE11.1.2 4 _ rfl
        have el := hE11.1.1
        have t10 := hT11.1.2 10 _ rfl
        have tl := hT11.1.1
        go_wp2_with fail
        refine (HSV2.out _ bI).mono ?_; rintro e w12 ⟨v12, rfl, ho12, hb12⟩
        clear e3 e4 el t10 tl
        obtain ⟨A5, c5, rfl⟩ := own_slice ho12
        have h11s := hX11.1.1
        have hX12 := hX11.bel hb12
        have hR12 := hR11.bel hb12
        have hZ12 := hZ11.bel hb12
        have hT12 := hT11.bel hb12
        have hEN12 := ElN.newF hEN11 hb12 (fs' := fs) ho12 (Nat.le_refl _) (by omega)
        have hOF12 : Off N (.slice A5 fs.length c5) (.slice (some ⟨g2, 0, none⟩) bs.length z2) (.slice (some ⟨g3, 0, none⟩) L2.length z3) L2 := ⟨fun e => by have := (ho12.lt _ e).1; omega, hOF7.b, hOF7.e, hOF7.m⟩
        have hb12' := hb11.trans hb12
        have n3 := hX12.1.2 3 _ rfl
        have n4 := hX12.1.2 4 _ rfl
        have nl := hX12.1.1
        have nf := hX12.2
        have hX13 := (hX12.set 3 (by simp) (.int .i64 V2)).set 4 (by simp) (.slice A5 fs.length c5)
        have hEN13 := (hEN12.off (p := ⟨N, 3, none⟩) hOF12 (.int .i64 V2)).off (p := ⟨N, 4, none⟩) hOF12 (.slice A5 fs.length c5)
        have hb13 := (hb12'.setNew (p := ⟨N, 3, none⟩) (by show w.heap.size ≤ N; omega) (.int .i64 V2)).setNew (p := ⟨N, 4, none⟩) (by show w.heap.size ≤ N; omega) (.slice A5 fs.length c5)
        have hT13 := (hT12.other (C := N) (by omega) 3 (.int .i64 V2)).other (C := N) (by omega) 4 (.slice A5 fs.length c5)
        have hR13 := (hR12.other (C := N) (by omega) 3 (.int .i64 V2)).other (C := N) (by omega) 4 (.slice A5 fs.length c5)
        have hZ13 := (hZ12.other (C := N) (by omega) 3 (.int .i64 V2)).other (C := N) (by omega) 4 (.slice A5 fs.length c5)
        simp only [List.set_cons_succ, List.set_cons_zero] at hX13
        go_upto_region 17 with fail
        clear n3 n4 nl nf hX12 hEN12 hR12 hZ12 hT12 hX11 hE11 hR11 hZ11 hT11 hEN11 hb11 hb12 ho12 hb12'
        generalize (w12.setCell ⟨N, 3, none⟩ (.int .i64 V2)).setCell ⟨N, 4, none⟩ (.slice A5 fs.length c5) = W13 at *
        have hCY : Mems W13 (Bu.at ⟨i2, (q : Int), k2, s2, n2, d2, f2, ms2, m2⟩ a2 cz) ms2 := HXM.out _ hb13
        have HCB := Lib.hid (fun W' (h : Bel W13 W') => copyBunch_any ⟨i2, (q : Int), k2, s2, n2, d2, f2, ms2, m2⟩ a2 cz W' (hCY.bel h) HXL.out)
        simp only [Bu.at] at HCB
        refine wp_region_lex [3] 4 (by kernel_rfl) (by kernel_rfl) ?_
        simp only [List.take_succ_cons, List.take_zero, List.drop_succ_cons, List.drop_zero]
        with_reducible refine lex_seg 3 _ _ _ _ (by kernel_rfl) ?_
        simp only [List.take_succ_cons, List.take_zero, List.drop_succ_cons, List.drop_zero]
        refine wpQuiet_load_at rfl 31 _ rfl rfl hX13 _ Tryz.underlying31 rfl (by kernel_rfl) ?_
        try simp only [Act.put, List.setIfInBounds_toArray, List.set_cons_succ, List.set_cons_zero]
        go_big_quiet_step (fail)
        refine wpQuiet_load_at rfl 44 _ rfl rfl (hT13.pre 9) _ Tryz.underlying44 rfl (by kernel_rfl) ?_
        with_reducible refine wpQuiet_nil ?_
        try simp only [Act.put, List.setIfInBounds_toArray, List.set_cons_succ, List.set_cons_zero, List.take_succ_cons, List.take_zero]
        refine lex_call 26 rfl rfl (by simp [go_sem]; rfl) ?_
        refine (HCB.out _ bI).mono ?_; rintro e w14 ⟨A8, c8, rfl, hZb, hb14'⟩
        refine ⟨_, rfl, hb14', ?_⟩
        with_reducible refine lex_nil ?_
        have hbe : Bel W13 w14 := bI
        have hR14 := hR13.bel hbe
        have hZ14 := hZ13.bel hbe
        have hEN14 := hEN13.keep hbe
        have hb14 := hb13.trans hbe
        have hi8 : (Tryz.prog.info? 31).map (·.size) = some 8 := by kernel_rfl
        have hi9 : (Tryz.prog.info? 44).map (·.size) = some 9 := by kernel_rfl
        try simp only [Act.put, Act.eval, List.setIfInBounds_toArray, List.set_cons_succ, List.set_cons_zero]
        have hzs : w.heap.size ≤ W13.drew.heap.size := by have := hX13.1.1; simp only [World.size_drew]; omega
        have hZfin : Zb (setRow (setRow w14 (w.heap.size + 1) 0 [.int .i64 knd, .int .i64 rd, .int .i64 wt, .int .i64 V2, .slice A5 fs.length c5, .slice (some ⟨g2, 0, none⟩) bs.length z2, .slice (some ⟨g3, 0, none⟩) L2.length z3, .int .i64 (s2 + n2)]) (w.heap.size + 2) 0 [.int .i64 i2, .int .i64 (q : Int), .int .i64 k2, .int .i64 s2, .int .i64 n2, .string d2, .bool f2, .slice A8 ms2.length c8, .int .i64 m2]) w.heap.size ⟨i2, (q : Int), k2, s2, n2, d2, f2, ms2, m2⟩ A8 c8 := by
          refine ⟨⟨hZb.1.len, ?_, hZb.1.ids, hZb.1.dl⟩, fun p hp => Nat.le_trans hzs (hZb.2 p hp)⟩
          have hne : ∀ p, p < W13.drew.heap.size → (Value.slice A8 ms2.length c8).ownBlock ≠ some p := fun p hp e => by have := hZb.2 p e; omega
          have hX := hX13.1.1
          exact (hZb.1.rd.setRow _ (hne _ (by simp only [World.size_drew]; omega))).setRow _ (hne _ (by simp only [World.size_drew]; omega))
        have one8 : ∀ u ∈ ([.int .i64 knd, .int .i64 rd, .int .i64 wt, .int .i64 V2, .slice A5 fs.length c5, .slice (some ⟨g2, 0, none⟩) bs.length z2, .slice (some ⟨g3, 0, none⟩) L2.length z3, .int .i64 (s2 + n2)] : List Value), u.oneCell' = true := fun u hu => by
          simp only [List.mem_cons, List.not_mem_nil, or_false] at hu
          rcases hu with rfl | rfl | rfl | rfl | rfl | rfl | rfl | rfl <;> rfl
        have one9 : ∀ u ∈ ([.int .i64 i2, .int .i64 (q : Int), .int .i64 k2, .int .i64 s2, .int .i64 n2, .string d2, .bool f2, .slice A8 ms2.length c8, .int .i64 m2] : List Value), u.oneCell' = true := fun u hu => by
          simp only [List.mem_cons, List.not_mem_nil, or_false] at hu
          rcases hu with rfl | rfl | rfl | rfl | rfl | rfl | rfl | rfl | rfl <;> rfl
        refine wpList_store_at rfl 31 _ _ rfl rfl rfl hR14 rfl one8 hi8 ?_
        have hR8 := (hR14).setRow [.int .i64 knd, .int .i64 rd, .int .i64 wt, .int .i64 V2, .slice A5 fs.length c5, .slice (some ⟨g2, 0, none⟩) bs.length z2, .slice (some ⟨g3, 0, none⟩) L2.length z3, .int .i64 (s2 + n2)] rfl
        have hZ8 := (hZ14).setRow_other (B := w.heap.size + 1) (i := 0) [.int .i64 knd, .int .i64 rd, .int .i64 wt, .int .i64 V2, .slice A5 fs.length c5, .slice (some ⟨g2, 0, none⟩) bs.length z2, .slice (some ⟨g3, 0, none⟩) L2.length z3, .int .i64 (s2 + n2)] (by omega)
        have hE8 := ElN.setRow (B := w.heap.size + 1) (i := 0) [.int .i64 knd, .int .i64 rd, .int .i64 wt, .int .i64 V2, .slice A5 fs.length c5, .slice (some ⟨g2, 0, none⟩) bs.length z2, .slice (some ⟨g3, 0, none⟩) L2.length z3, .int .i64 (s2 + n2)] hEN14 (by omega)
        have hb8 := Bel.setRow (B := w.heap.size + 1) (i := 0) [.int .i64 knd, .int .i64 rd, .int .i64 wt, .int .i64 V2, .slice A5 fs.length c5, .slice (some ⟨g2, 0, none⟩) bs.length z2, .slice (some ⟨g3, 0, none⟩) L2.length z3, .int .i64 (s2 + n2)] hb14 (by omega)
        generalize setRow w14 (w.heap.size + 1) 0 [.int .i64 knd, .int .i64 rd, .int .i64 wt, .int .i64 V2, .slice A5 fs.length c5, .slice (some ⟨g2, 0, none⟩) bs.length z2, .slice (some ⟨g3, 0, none⟩) L2.length z3, .int .i64 (s2 + n2)] = W8 at *
        refine wpList_store_at rfl 44 _ _ rfl rfl rfl hZ8 rfl one9 hi9 ?_
        have hZ9 := hZ8.setRow [.int .i64 i2, .int .i64 (q : Int), .int .i64 k2, .int .i64 s2, .int .i64 n2, .string d2, .bool f2, .slice A8 ms2.length c8, .int .i64 m2] rfl
        have hR9 := hR8.setRow_other (B := w.heap.size + 2) (i := 0) [.int .i64 i2, .int .i64 (q : Int), .int .i64 k2, .int .i64 s2, .int .i64 n2, .string d2, .bool f2, .slice A8 ms2.length c8, .int .i64 m2] (by omega)
        have hE9 := (ElN.setRow (B := w.heap.size + 2) (i := 0) [.int .i64 i2, .int .i64 (q : Int), .int .i64 k2, .int .i64 s2, .int .i64 n2, .string d2, .bool f2, .slice A8 ms2.length c8, .int .i64 m2] hE8 (by omega)).mono (base' := w.heap.size) (by omega)
        have hb9 := Bel.setRow (B := w.heap.size + 2) (i := 0) [.int .i64 i2, .int .i64 (q : Int), .int .i64 k2, .int .i64 s2, .int .i64 n2, .string d2, .bool f2, .slice A8 ms2.length c8, .int .i64 m2] hb8 (by omega)
        have hlv := loadVar_at (P := Tryz.prog) 31 hR9 _ Tryz.underlying31 rfl hi8
        have hlz := loadVar_at (P := Tryz.prog) 44 hZ9 _ Tryz.underlying44 rfl hi9
        generalize setRow W8 (w.heap.size + 2) 0 [.int .i64 i2, .int .i64 (q : Int), .int .i64 k2, .int .i64 s2, .int .i64 n2, .string d2, .bool f2, .slice A8 ms2.length c8, .int .i64 m2] = W9 at *
        simp only [Act.put, Act.eval, List.setIfInBounds_toArray, List.set_cons_succ, List.set_cons_zero]
        go_wp2
        obtain rfl := hRS
        have HV2' : V2 = servV V st := HV2.out.symm
        subst HV2'
        exact bodyPost_ret (v := .tuple #[.agg #[.int .i64 knd, .int .i64 rd, .int .i64 wt, .int .i64 (servV V st), .slice A5 fs.length c5, .slice (some ⟨g2, 0, none⟩) bs.length z2, .slice (some ⟨g3, 0, none⟩) L2.length z3, .int .i64 (s2 + n2)], .agg #[.int .i64 i2, .int .i64 (q : Int), .int .i64 k2, .int .i64 s2, .int .i64 n2, .string d2, .bool f2, .slice A8 ms2.length c8, .int .i64 m2], .bool true]) (by simp [results, Tryz.results11, hlv, hlz, asAddr]) rfl ⟨_, _, _, L2, A8, c8, rfl, hE9, HCPE.out, hZfin, hb9⟩
end Go.Proofs.YtpgjbocjhconoaaGreat

/- The law's made: a scheduler that a number chooses. -/
namespace Go.Proofs.YtpgjbocjhconoaaGreat
open Go.RowKit Go.Maps
set_option linter.unusedSimpArgs false

/-- The first i of four are laid. -/
def four {α : Type} (f : Nat → α) (z : α) (i : Nat) : List α := (List.range 4).map fun j => if j < i then f j else z
def mwI (n : Int) (i : Nat) : Int := 1 + rnd (n / 4 ^ i) 8
def mbI (n : Int) (i : Nat) : Bk := if rnd (n / (256 * 4 ^ i)) 3 = 0 then ⟨100 + rnd (n / 65536) 900, 1 + rnd (n / 1048576) 4, 0, 0⟩ else ⟨0, 4, 0, 0⟩
def madeW (n : Int) : List Int := if n.tmod 4 = 0 then [1, 1, 1, 1] else four (mwI n) 1 4
def madeK (n : Int) : List Bk := if n.tmod 4 = 0 then [⟨0, 4, 0, 0⟩, ⟨0, 4, 0, 0⟩, ⟨0, 4, 0, 0⟩, ⟨0, 4, 0, 0⟩] else four (mbI n) ⟨0, 4, 0, 0⟩ 4
def madeE (n kind : Int) : El := ⟨kind, rnd (n / 8) 20, rnd (n / 64) 40, 0, newF (madeW n), madeK n, [], 0⟩
def kindOk (kind : Int) : Bool := decide (kind = 1 ∨ kind = 2 ∨ kind = 3)
theorem four_get {α : Type} {f : Nat → α} {z : α} {i k : Nat} {x : α} (h : (four f z i)[k]? = some x) : k < 4 ∧ x = if k < i then f k else z := by
  unfold four at h
  rw [List.getElem?_map] at h
  by_cases hk : k < 4
  · rw [List.getElem?_range hk] at h
    exact ⟨hk, by simpa using h.symm⟩
  · rw [List.getElem?_eq_none (by simp; omega)] at h
    cases h
theorem madeW_in {n : Int} {k : Nat} {x : Int} (h : (madeW n)[k]? = some x) : 1 ≤ x ∧ x ≤ 8 := by
  unfold madeW at h
  split at h
  · match k with
    | 0 | 1 | 2 | 3 => simp at h; omega
    | k + 4 => simp at h
  · obtain ⟨_, h2⟩ := four_get h
    rw [h2]
    split
    · unfold mwI
      have := rnd_lo (n / 4 ^ k) 8
      have := rnd_hi (n / 4 ^ k) 8 (by omega)
      omega
    · omega
theorem madeW_len (n : Int) : (madeW n).length = 4 := by unfold madeW; split <;> rfl
theorem madeK_len (n : Int) : (madeK n).length = 4 := by unfold madeK; split <;> rfl
theorem madeK_in {n : Int} {k : Nat} {x : Bk} (h : (madeK n)[k]? = some x) : x.level = 0 ∧ x.last = 0 ∧ 1 ≤ x.burst ∧ x.burst ≤ 4 ∧ (x.rate = 0 ∨ (100 ≤ x.rate ∧ x.rate < 1000 ∧ n.tmod 4 ≠ 0)) := by
  unfold madeK at h
  split at h
  · match k with
    | 0 | 1 | 2 | 3 => simp at h; subst h; simp
    | k + 4 => simp at h
  · rename_i hn
    obtain ⟨hk4, h2⟩ := four_get h
    rw [if_pos hk4] at h2
    rw [h2]
    unfold mbI
    split
    · have := rnd_lo (n / 65536) 900
      have := rnd_hi (n / 65536) 900 (by omega)
      have := rnd_lo (n / 1048576) 4
      have := rnd_hi (n / 1048576) 4 (by omega)
      refine ⟨rfl, rfl, by show 1 ≤ 1 + _; omega, by show 1 + _ ≤ 4; omega, .inr ⟨by show 100 ≤ 100 + _; omega, by show 100 + _ < 1000; omega, hn⟩⟩
    · simp
theorem madeK_ok (n : Int) : (madeK n).all bkOk = true := by
  rw [List.all_eq_true]
  intro x hx
  obtain ⟨k, hk⟩ := List.getElem?_of_mem hx
  have h := madeK_in hk
  obtain ⟨r, u, l, t⟩ := x
  simp only at h
  rw [bkOk_iff]
  omega
theorem madeF_f4 (n : Int) : F4 0 0 (newF (madeW n)) := by
  refine ⟨by rw [newF_len, madeW_len], Int.le_refl _, Int.le_refl _, fun k x y hk => ?_⟩
  unfold newF at hk
  rw [List.getElem?_map] at hk
  cases hz : (madeW n)[k]? with
  | none => rw [hz] at hk; cases hk
  | some z =>
    rw [hz] at hk
    simp at hk
    have := madeW_in hz
    omega
theorem made_ok (n kind : Int) : newOk kind (rnd (n / 8) 20) (rnd (n / 64) 40) (madeW n) (madeK n) = kindOk kind := by
  have h1 := rnd_lo (n / 8) 20
  have h2 := rnd_hi (n / 8) 20 (by omega)
  have h3 := rnd_lo (n / 64) 40
  have h4 := rnd_hi (n / 64) 40 (by omega)
  unfold newOk
  rw [madeW_len, madeK_len, madeK_ok, (madeF_f4 n).fair (by omega), show tickE (rnd (n / 8) 20) = true by unfold tickE; rw [decide_eq_true_eq]; omega, show tickE (rnd (n / 64) 40) = true by unfold tickE; rw [decide_eq_true_eq]; omega]
  unfold kindOk
  simp

set_option maxRecDepth 100000 in
set_option maxHeartbeats 8000000 in
theorem made_any (n kind : Int) (w : World) (hn : IsInt n) :
    Calls Tryz.prog 4 #[.int .i64 n, .int .i64 kind] w fun e w' => ∃ fl bu en, e = .returned (.tuple #[.agg #[.int .i64 (if kindOk kind then kind else 0), .int .i64 (if kindOk kind then rnd (n / 8) 20 else 0), .int .i64 (if kindOk kind then rnd (n / 64) 40 else 0), .int .i64 0, fl, bu, en, .int .i64 0], .bool (kindOk kind)]) ∧
      ElN w' w.heap.size fl bu en (if kindOk kind then newF (madeW n) else []) (if kindOk kind then madeK n else []) [] ∧ Bel w w' := by
  have HN := Lib.hid (fun (wv bv : Value) (w' : World) (hw : Ints w' wv (madeW n)) (hb : Rd w' bv 4 4 (bkc (madeK n))) => elNew_any kind (rnd (n / 8) 20) (rnd (n / 64) 40) (madeW n) (madeK n) wv bv w' hw (by rw [madeK_len]; exact hb) (by rw [madeW_len]; omega) (by rw [madeK_len]; omega))
  rw [made_ok] at HN
  obtain ⟨K, HK⟩ : ∃ K, Hid (kindOk kind = K) := ⟨_, rfl⟩
  rw [HK.out] at HN ⊢
  obtain ⟨r1, Hr1⟩ : ∃ r, Hid (rnd (n / 8) 20 = r) := ⟨_, rfl⟩
  obtain ⟨r2, Hr2⟩ : ∃ r, Hid (rnd (n / 64) 40 = r) := ⟨_, rfl⟩
  rw [Hr1.out, Hr2.out] at HN ⊢
  obtain ⟨kk, Hkk⟩ : ∃ k, Hid ((if K = true then kind else 0) = k) := ⟨_, rfl⟩
  obtain ⟨k1, Hk1⟩ : ∃ k, Hid ((if K = true then r1 else 0) = k) := ⟨_, rfl⟩
  obtain ⟨k2, Hk2⟩ : ∃ k, Hid ((if K = true then r2 else 0) = k) := ⟨_, rfl⟩
  obtain ⟨FWs, HFS⟩ : ∃ k, Hid ((if K = true then newF (madeW n) else []) = k) := ⟨_, rfl⟩
  obtain ⟨BS, HBS⟩ : ∃ k, Hid ((if K = true then madeK n else []) = k) := ⟨_, rfl⟩
  simp only [Hkk.out, Hk1.out, Hk2.out, HFS.out, HBS.out] at HN ⊢
  obtain ⟨hn1, hn2⟩ := hn
  have hR := ((AtF.new_at (w := w) rfl 31 [.int .i64 0, .int .i64 0, .int .i64 0, .int .i64 0, .slice none 0 0, .slice none 0 0, .slice none 0 0, .int .i64 0]).alloc (.cells [.int .i64 1, .int .i64 1, .int .i64 1, .int .i64 1].toArray 3)).alloc (.cells [.int .i64 0, .int .i64 4, .int .i64 0, .int .i64 0, .int .i64 0, .int .i64 4, .int .i64 0, .int .i64 0, .int .i64 0, .int .i64 4, .int .i64 0, .int .i64 0, .int .i64 0, .int .i64 4, .int .i64 0, .int .i64 0].toArray 54)
  have hW := (AtF.new_at (w := w.alloc (.cells [.int .i64 0, .int .i64 0, .int .i64 0, .int .i64 0, .slice none 0 0, .slice none 0 0, .slice none 0 0, .int .i64 0].toArray 31)) (g := w.heap.size + 1) (by simp) 3 [.int .i64 1, .int .i64 1, .int .i64 1, .int .i64 1]).alloc (.cells [.int .i64 0, .int .i64 4, .int .i64 0, .int .i64 0, .int .i64 0, .int .i64 4, .int .i64 0, .int .i64 0, .int .i64 0, .int .i64 4, .int .i64 0, .int .i64 0, .int .i64 0, .int .i64 4, .int .i64 0, .int .i64 0].toArray 54)
  have hB := AtF.new_at (w := (w.alloc (.cells [.int .i64 0, .int .i64 0, .int .i64 0, .int .i64 0, .slice none 0 0, .slice none 0 0, .slice none 0 0, .int .i64 0].toArray 31)).alloc (.cells [.int .i64 1, .int .i64 1, .int .i64 1, .int .i64 1].toArray 3)) (g := w.heap.size + 2) (by simp) 54 [.int .i64 0, .int .i64 4, .int .i64 0, .int .i64 0, .int .i64 0, .int .i64 4, .int .i64 0, .int .i64 0, .int .i64 0, .int .i64 4, .int .i64 0, .int .i64 0, .int .i64 0, .int .i64 4, .int .i64 0, .int .i64 0]
  have hbw : Bel w (((w.alloc (.cells [.int .i64 0, .int .i64 0, .int .i64 0, .int .i64 0, .slice none 0 0, .slice none 0 0, .slice none 0 0, .int .i64 0].toArray 31)).alloc (.cells [.int .i64 1, .int .i64 1, .int .i64 1, .int .i64 1].toArray 3)).alloc (.cells [.int .i64 0, .int .i64 4, .int .i64 0, .int .i64 0, .int .i64 0, .int .i64 4, .int .i64 0, .int .i64 0, .int .i64 0, .int .i64 4, .int .i64 0, .int .i64 0, .int .i64 0, .int .i64 4, .int .i64 0, .int .i64 0].toArray 54)) := bI
  simp only [List.toArray] at hR hW hB hbw
  have hws : (((w.alloc (.cells #[.int .i64 0, .int .i64 0, .int .i64 0, .int .i64 0, .slice none 0 0, .slice none 0 0, .slice none 0 0, .int .i64 0] 31)).alloc (.cells #[.int .i64 1, .int .i64 1, .int .i64 1, .int .i64 1] 3)).alloc (.cells #[.int .i64 0, .int .i64 4, .int .i64 0, .int .i64 0, .int .i64 0, .int .i64 4, .int .i64 0, .int .i64 0, .int .i64 0, .int .i64 4, .int .i64 0, .int .i64 0, .int .i64 0, .int .i64 4, .int .i64 0, .int .i64 0] 54)).heap.size = w.heap.size + 3 := by simp
  by_cases hd : n.tmod 4 = 0
  · have eW : madeW n = [1, 1, 1, 1] := if_pos hd
    have eK : madeK n = [⟨0, 4, 0, 0⟩, ⟨0, 4, 0, 0⟩, ⟨0, 4, 0, 0⟩, ⟨0, 4, 0, 0⟩] := if_pos hd
    rw [eW, eK] at HN
    go_enter Tryz.func4, Tryz.ntmps4
    go_upto_region 10 with fail
    generalize ((w.alloc (.cells #[.int .i64 0, .int .i64 0, .int .i64 0, .int .i64 0, .slice none 0 0, .slice none 0 0, .slice none 0 0, .int .i64 0] 31)).alloc (.cells #[.int .i64 1, .int .i64 1, .int .i64 1, .int .i64 1] 3)).alloc (.cells #[.int .i64 0, .int .i64 4, .int .i64 0, .int .i64 0, .int .i64 0, .int .i64 4, .int .i64 0, .int .i64 0, .int .i64 0, .int .i64 4, .int .i64 0, .int .i64 0, .int .i64 0, .int .i64 4, .int .i64 0, .int .i64 0] 54) = W at *
    have hWI : Ints W (.slice (some ⟨w.heap.size + 1, 0, none⟩) 4 4) [1, 1, 1, 1] := by
      refine ⟨by simp [IsInt], _, 4, rfl, Nat.le_refl _, by unfold maxLen; omega, fun _ => ⟨_, 0, rfl, hW.1.1, fun j hj => ?_⟩⟩
      rw [Nat.zero_add]
      match j, hj with
      | 0, _ => exact hW.1.2 0 _ rfl
      | 1, _ => exact hW.1.2 1 _ rfl
      | 2, _ => exact hW.1.2 2 _ rfl
      | 3, _ => exact hW.1.2 3 _ rfl
    have hBR : Rd W (.slice (some ⟨w.heap.size + 1 + 1, 0, none⟩) 4 4) 4 4 (bkc [⟨0, 4, 0, 0⟩, ⟨0, 4, 0, 0⟩, ⟨0, 4, 0, 0⟩, ⟨0, 4, 0, 0⟩]) :=
      ⟨rfl, _, 4, rfl, Nat.le_refl _, by unfold maxLen; omega, fun _ => ⟨_, 0, rfl, hB.1.1, fun j u hu => by rw [Nat.zero_add]; exact hB.1.2 j u hu⟩⟩
    have HN2 := Lib.hid (HN.out _ _ W hWI hBR)
    go_wp2_with fail
    refine (round_any (n / 8) 20 _ (by omega)).mono ?_; rw [Hr1.out]; rintro e w9 ⟨rfl, rfl⟩
    go_wp2_with fail
    refine (round_any (n / 64) 40 _ (by omega)).mono ?_; rw [Hr2.out]; rintro e w9 ⟨rfl, rfl⟩
    go_wp2_with fail
    refine HN2.out.mono ?_; rintro e w2 ⟨fl, bu, en, rfl, hEN, hb2⟩
    obtain ⟨A1, c1, rfl⟩ := own_slice hEN.flo
    obtain ⟨A2, c2, rfl⟩ := own_slice hEN.buo
    obtain ⟨A3, c3, hv3⟩ := own_slice hEN.eno.bo.own
    subst hv3
    have hR2 := hR.bel hb2
    have g0 := (hR2).1.2 0 _ rfl
    have g1 := (hR2).1.2 1 _ rfl
    have g2 := (hR2).1.2 2 _ rfl
    have g3 := (hR2).1.2 3 _ rfl
    have g4 := (hR2).1.2 4 _ rfl
    have g5 := (hR2).1.2 5 _ rfl
    have g6 := (hR2).1.2 6 _ rfl
    have g7 := (hR2).1.2 7 _ rfl
    have rf := hR2.2
    have rl := hR2.1.1
    have hi8 : (Tryz.prog.info? 31).map (·.size) = some 8 := by kernel_rfl
    have hbs := hb2.size
    have hbw2 := hbw.trans hb2
    have hb9 := Bel.setRow (B := w.heap.size) (i := 0) [.int .i64 kk, .int .i64 k1, .int .i64 k2, .int .i64 0, .slice A1 FWs.length c1, .slice A2 BS.length c2, .slice A3 0 c3, .int .i64 0] hbw2 (Nat.le_refl _)
    have hE9 := (ElN.setRow (B := w.heap.size) (i := 0) [.int .i64 kk, .int .i64 k1, .int .i64 k2, .int .i64 0, .slice A1 FWs.length c1, .slice A2 BS.length c2, .slice A3 0 c3, .int .i64 0] hEN (by omega)).mono (base' := w.heap.size) (by omega)
    have hR9 := hR2.setRow [.int .i64 kk, .int .i64 k1, .int .i64 k2, .int .i64 0, .slice A1 FWs.length c1, .slice A2 BS.length c2, .slice A3 0 c3, .int .i64 0] rfl
    have hlv := loadVar_at (P := Tryz.prog) 31 hR9 _ Tryz.underlying31 rfl hi8
    simp only [setRow, Nat.zero_add, Nat.reduceAdd] at hlv hb9 hE9
    clear hR9
    go_wp2
    clear g0 g1 g2 g3 g4 g5 g6 g7
    exact bodyPost_ret (v := .tuple #[.agg #[.int .i64 kk, .int .i64 k1, .int .i64 k2, .int .i64 0, .slice A1 FWs.length c1, .slice A2 BS.length c2, .slice A3 0 c3, .int .i64 0], .bool K]) (by simp [results, Tryz.results4, hlv, asAddr]) rfl ⟨_, _, _, rfl, hE9, hb9⟩
  · go_enter Tryz.func4, Tryz.ntmps4
    go_upto_region 4 with fail
    have hdb : (n.tmod 4 != 0) = true := by simpa using hd
    generalize ((w.alloc (.cells #[.int .i64 0, .int .i64 0, .int .i64 0, .int .i64 0, .slice none 0 0, .slice none 0 0, .slice none 0 0, .int .i64 0] 31)).alloc (.cells #[.int .i64 1, .int .i64 1, .int .i64 1, .int .i64 1] 3)).alloc (.cells #[.int .i64 0, .int .i64 4, .int .i64 0, .int .i64 0, .int .i64 0, .int .i64 4, .int .i64 0, .int .i64 0, .int .i64 0, .int .i64 4, .int .i64 0, .int .i64 0, .int .i64 0, .int .i64 4, .int .i64 0, .int .i64 0] 54) = W at *
    have HNW := Lib.hid hws
    go_wp2
    have HD := Lib.hid hd
    clear hd hdb
    generalize (n.tmod 4 != 0) = dv
    generalize n.tmod 4 = dw
    go_loopw [8] (fun iv wr => ∃ i : Nat, iv = .int .i64 i ∧ i ≤ 4 ∧ AtF wr (w.heap.size + 1) ((four (mwI n) 1 i).map (Value.int .i64)) ∧ AtF wr (w.heap.size + 2) (bkc (four (mbI n) ⟨0, 4, 0, 0⟩ i)) ∧ AtF wr w.heap.size [.int .i64 0, .int .i64 0, .int .i64 0, .int .i64 0, .slice none 0 0, .slice none 0 0, .slice none 0 0, .int .i64 0] ∧ Bel w wr) (fun iv _ => 4 - (intOf iv).toNat)
    case atStart => exact ⟨0, rfl, by omega, hW, hB, hR, hbw⟩
    case round =>
      obtain ⟨i, rfl, p1, hW, hB, hR, hbr⟩ := hrel
      match i, p1 with
      | 0, _ =>
        obtain ⟨ra, Hra⟩ : ∃ r, Hid (rnd (n) 8 = r) := ⟨_, rfl⟩
        obtain ⟨rb, Hrb⟩ : ∃ r, Hid (rnd (n / 256) 3 = r) := ⟨_, rfl⟩
        obtain ⟨rc, Hrc⟩ : ∃ r, Hid (rnd (n / 65536) 900 = r) := ⟨_, rfl⟩
        obtain ⟨rd, Hrd⟩ : ∃ r, Hid (rnd (n / 1048576) 4 = r) := ⟨_, rfl⟩
        have la := rnd_lo (n) 8
        have ha := rnd_hi (n) 8 (by omega)
        have lc := rnd_lo (n / 65536) 900
        have hc := rnd_hi (n / 65536) 900 (by omega)
        have ld := rnd_lo (n / 1048576) 4
        have hdd := rnd_hi (n / 1048576) 4 (by omega)
        rw [Hra.out] at la ha
        rw [Hrc.out] at lc hc
        rw [Hrd.out] at ld hdd
        have ea : IntKind.i64.wrap (1 + ra) = 1 + ra := IntWalk.i64_in _ (by omega)
        have ec : IntKind.i64.wrap (100 + rc) = 100 + rc := IntWalk.i64_in _ (by omega)
        have ed : IntKind.i64.wrap (1 + rd) = 1 + rd := IntWalk.i64_in _ (by omega)
        have HMI : Hid (mwI n 0 = 1 + ra) := by show _ = _; rw [← Hra.out]; unfold mwI; simp
        have EW : Hid (((four (mwI n) 1 0).map (Value.int .i64)).set 0 (.int .i64 (1 + ra)) = (four (mwI n) 1 (0 + 1)).map (Value.int .i64)) := by show _ = _; rw [← HMI.out]; rfl
        have wi := hW.1.2 0 _ rfl
        have wf := hW.2
        have wl := hW.1.1
        have hW2 := hW.set 0 (by show 0 < 4; omega) (.int .i64 (1 + ra))
        rw [EW.out] at hW2
        have hB2 := hB.other (C := w.heap.size + 1) (by omega) 0 (.int .i64 (1 + ra))
        have hR2 := hR.other (C := w.heap.size + 1) (by omega) 0 (.int .i64 (1 + ra))
        have hb2 := hbr.setNew (p := ⟨w.heap.size + 1, 0, none⟩) (by show w.heap.size ≤ w.heap.size + 1; omega) (.int .i64 (1 + ra))
        go_wp2_with fail
        refine (round_any (n) 8 _ (by omega)).mono ?_; rw [Hra.out]; rintro e w9 ⟨rfl, rfl⟩
        go_upto_region 8 with fail
        clear wi wf wl hW hB hR hbr
        generalize wr.setCell ⟨w.heap.size + 1, 0, none⟩ (.int .i64 (1 + ra)) = W2 at *
        go_wp2_with fail
        refine (round_any (n / 256) 3 _ (by omega)).mono ?_; rw [Hrb.out]; rintro e w9 ⟨rfl, rfl⟩
        by_cases hz : rb = 0
        · subst hz
          have HMB : Hid (mbI n 0 = ⟨100 + rc, 1 + rd, 0, 0⟩) := by
            show _ = _
            unfold mbI
            rw [if_pos (by simpa using Hrb.out), Hrc.out, Hrd.out]
          go_wp2_with fail
          refine (round_any (n / 65536) 900 _ (by omega)).mono ?_; rw [Hrc.out]; rintro e w9 ⟨rfl, rfl⟩
          go_wp2_with fail
          refine (round_any (n / 1048576) 4 _ (by omega)).mono ?_; rw [Hrd.out]; rintro e w9 ⟨rfl, rfl⟩
          have b0 := hB2.1.2 (0 * 4) _ rfl
          have b1 := hB2.1.2 (0 * 4 + 1) _ rfl
          have b2 := hB2.1.2 (0 * 4 + 2) _ rfl
          have b3 := hB2.1.2 (0 * 4 + 3) _ rfl
          have bf := hB2.2
          have bl := hB2.1.1
          have EB : Hid (((((bkc (four (mbI n) ⟨0, 4, 0, 0⟩ 0)).set (0 * 4) (.int .i64 (100 + rc))).set (0 * 4 + 1) (.int .i64 (1 + rd))).set (0 * 4 + 2) (.int .i64 0)).set (0 * 4 + 3) (.int .i64 0) = bkc (four (mbI n) ⟨0, 4, 0, 0⟩ (0 + 1))) := by
            show _ = _
            have e1 : bkc (four (mbI n) ⟨0, 4, 0, 0⟩ (0 + 1)) = bkc ((four (mbI n) ⟨0, 4, 0, 0⟩ 0).set 0 ⟨100 + rc, 1 + rd, 0, 0⟩) := by rw [← HMB.out]; rfl
            rw [e1]; rfl
          have hB3 := (((hB2.set (0 * 4) (by show 0 * 4 < 16; omega) (.int .i64 (100 + rc))).set (0 * 4 + 1) (by rw [List.length_set]; show 0 * 4 + 1 < 16; omega) (.int .i64 (1 + rd))).set (0 * 4 + 2) (by rw [List.length_set, List.length_set]; show 0 * 4 + 2 < 16; omega) (.int .i64 0)).set (0 * 4 + 3) (by rw [List.length_set, List.length_set, List.length_set]; show 0 * 4 + 3 < 16; omega) (.int .i64 0)
          rw [EB.out] at hB3
          have hW3 := (((hW2.other (C := w.heap.size + 2) (by omega) (0 * 4) (.int .i64 (100 + rc))).other (C := w.heap.size + 2) (by omega) (0 * 4 + 1) (.int .i64 (1 + rd))).other (C := w.heap.size + 2) (by omega) (0 * 4 + 2) (.int .i64 0)).other (C := w.heap.size + 2) (by omega) (0 * 4 + 3) (.int .i64 0)
          have hR3 := (((hR2.other (C := w.heap.size + 2) (by omega) (0 * 4) (.int .i64 (100 + rc))).other (C := w.heap.size + 2) (by omega) (0 * 4 + 1) (.int .i64 (1 + rd))).other (C := w.heap.size + 2) (by omega) (0 * 4 + 2) (.int .i64 0)).other (C := w.heap.size + 2) (by omega) (0 * 4 + 3) (.int .i64 0)
          have hb3 := (((hb2.setNew (p := ⟨w.heap.size + 2, 0 * 4, none⟩) (by show w.heap.size ≤ w.heap.size + 2; omega) (.int .i64 (100 + rc))).setNew (p := ⟨w.heap.size + 2, 0 * 4 + 1, none⟩) (by show w.heap.size ≤ w.heap.size + 2; omega) (.int .i64 (1 + rd))).setNew (p := ⟨w.heap.size + 2, 0 * 4 + 2, none⟩) (by show w.heap.size ≤ w.heap.size + 2; omega) (.int .i64 0)).setNew (p := ⟨w.heap.size + 2, 0 * 4 + 3, none⟩) (by show w.heap.size ≤ w.heap.size + 2; omega) (.int .i64 0)
          simp only [Nat.reduceMul, Nat.reduceAdd, Nat.zero_mul, Nat.zero_add] at b0 b1 b2 b3 hB3 hW3 hR3 hb3
          clear hB2 hW2 hR2 hb2 EB EW HMI HMB
          go_wp2
          go_roundw
          case rel => exact ⟨0 + 1, by go_num, by omega, hW3, hB3, hR3, hb3⟩
          case measure => simp [intOf]
        · have hzb : (rb == 0) = false := by simpa using hz
          have HMB : Hid (mbI n 0 = ⟨0, 4, 0, 0⟩) := by
            show _ = _
            unfold mbI
            rw [if_neg (by rw [← Hrb.out] at hz; simpa using hz)]
          have hB3 : AtF W2 (w.heap.size + 2) (bkc (four (mbI n) ⟨0, 4, 0, 0⟩ (0 + 1))) := by
            have e1 : bkc (four (mbI n) ⟨0, 4, 0, 0⟩ (0 + 1)) = bkc ((four (mbI n) ⟨0, 4, 0, 0⟩ 0).set 0 (mbI n 0)) := by rfl
            rw [e1, HMB.out]; exact hB2
          clear hB2 EW HMI HMB
          go_wp2
          go_roundw
          case rel => exact ⟨0 + 1, by go_num, by omega, hW2, hB3, hR2, hb2⟩
          case measure => simp [intOf]
      | 1, _ =>
        obtain ⟨ra, Hra⟩ : ∃ r, Hid (rnd (n / 4) 8 = r) := ⟨_, rfl⟩
        obtain ⟨rb, Hrb⟩ : ∃ r, Hid (rnd (n / 1024) 3 = r) := ⟨_, rfl⟩
        obtain ⟨rc, Hrc⟩ : ∃ r, Hid (rnd (n / 65536) 900 = r) := ⟨_, rfl⟩
        obtain ⟨rd, Hrd⟩ : ∃ r, Hid (rnd (n / 1048576) 4 = r) := ⟨_, rfl⟩
        have la := rnd_lo (n / 4) 8
        have ha := rnd_hi (n / 4) 8 (by omega)
        have lc := rnd_lo (n / 65536) 900
        have hc := rnd_hi (n / 65536) 900 (by omega)
        have ld := rnd_lo (n / 1048576) 4
        have hdd := rnd_hi (n / 1048576) 4 (by omega)
        rw [Hra.out] at la ha
        rw [Hrc.out] at lc hc
        rw [Hrd.out] at ld hdd
        have ea : IntKind.i64.wrap (1 + ra) = 1 + ra := IntWalk.i64_in _ (by omega)
        have ec : IntKind.i64.wrap (100 + rc) = 100 + rc := IntWalk.i64_in _ (by omega)
        have ed : IntKind.i64.wrap (1 + rd) = 1 + rd := IntWalk.i64_in _ (by omega)
        have HMI : Hid (mwI n 1 = 1 + ra) := by show _ = _; rw [← Hra.out]; unfold mwI; simp
        have EW : Hid (((four (mwI n) 1 1).map (Value.int .i64)).set 1 (.int .i64 (1 + ra)) = (four (mwI n) 1 (1 + 1)).map (Value.int .i64)) := by show _ = _; rw [← HMI.out]; rfl
        have wi := hW.1.2 1 _ rfl
        have wf := hW.2
        have wl := hW.1.1
        have hW2 := hW.set 1 (by show 1 < 4; omega) (.int .i64 (1 + ra))
        rw [EW.out] at hW2
        have hB2 := hB.other (C := w.heap.size + 1) (by omega) 1 (.int .i64 (1 + ra))
        have hR2 := hR.other (C := w.heap.size + 1) (by omega) 1 (.int .i64 (1 + ra))
        have hb2 := hbr.setNew (p := ⟨w.heap.size + 1, 1, none⟩) (by show w.heap.size ≤ w.heap.size + 1; omega) (.int .i64 (1 + ra))
        go_wp2_with fail
        refine (round_any (n / 4) 8 _ (by omega)).mono ?_; rw [Hra.out]; rintro e w9 ⟨rfl, rfl⟩
        go_upto_region 8 with fail
        clear wi wf wl hW hB hR hbr
        generalize wr.setCell ⟨w.heap.size + 1, 1, none⟩ (.int .i64 (1 + ra)) = W2 at *
        go_wp2_with fail
        refine (round_any (n / 1024) 3 _ (by omega)).mono ?_; rw [Hrb.out]; rintro e w9 ⟨rfl, rfl⟩
        by_cases hz : rb = 0
        · subst hz
          have HMB : Hid (mbI n 1 = ⟨100 + rc, 1 + rd, 0, 0⟩) := by
            show _ = _
            unfold mbI
            rw [if_pos (by simpa using Hrb.out), Hrc.out, Hrd.out]
          go_wp2_with fail
          refine (round_any (n / 65536) 900 _ (by omega)).mono ?_; rw [Hrc.out]; rintro e w9 ⟨rfl, rfl⟩
          go_wp2_with fail
          refine (round_any (n / 1048576) 4 _ (by omega)).mono ?_; rw [Hrd.out]; rintro e w9 ⟨rfl, rfl⟩
          have b0 := hB2.1.2 (1 * 4) _ rfl
          have b1 := hB2.1.2 (1 * 4 + 1) _ rfl
          have b2 := hB2.1.2 (1 * 4 + 2) _ rfl
          have b3 := hB2.1.2 (1 * 4 + 3) _ rfl
          have bf := hB2.2
          have bl := hB2.1.1
          have EB : Hid (((((bkc (four (mbI n) ⟨0, 4, 0, 0⟩ 1)).set (1 * 4) (.int .i64 (100 + rc))).set (1 * 4 + 1) (.int .i64 (1 + rd))).set (1 * 4 + 2) (.int .i64 0)).set (1 * 4 + 3) (.int .i64 0) = bkc (four (mbI n) ⟨0, 4, 0, 0⟩ (1 + 1))) := by
            show _ = _
            have e1 : bkc (four (mbI n) ⟨0, 4, 0, 0⟩ (1 + 1)) = bkc ((four (mbI n) ⟨0, 4, 0, 0⟩ 1).set 1 ⟨100 + rc, 1 + rd, 0, 0⟩) := by rw [← HMB.out]; rfl
            rw [e1]; rfl
          have hB3 := (((hB2.set (1 * 4) (by show 1 * 4 < 16; omega) (.int .i64 (100 + rc))).set (1 * 4 + 1) (by rw [List.length_set]; show 1 * 4 + 1 < 16; omega) (.int .i64 (1 + rd))).set (1 * 4 + 2) (by rw [List.length_set, List.length_set]; show 1 * 4 + 2 < 16; omega) (.int .i64 0)).set (1 * 4 + 3) (by rw [List.length_set, List.length_set, List.length_set]; show 1 * 4 + 3 < 16; omega) (.int .i64 0)
          rw [EB.out] at hB3
          have hW3 := (((hW2.other (C := w.heap.size + 2) (by omega) (1 * 4) (.int .i64 (100 + rc))).other (C := w.heap.size + 2) (by omega) (1 * 4 + 1) (.int .i64 (1 + rd))).other (C := w.heap.size + 2) (by omega) (1 * 4 + 2) (.int .i64 0)).other (C := w.heap.size + 2) (by omega) (1 * 4 + 3) (.int .i64 0)
          have hR3 := (((hR2.other (C := w.heap.size + 2) (by omega) (1 * 4) (.int .i64 (100 + rc))).other (C := w.heap.size + 2) (by omega) (1 * 4 + 1) (.int .i64 (1 + rd))).other (C := w.heap.size + 2) (by omega) (1 * 4 + 2) (.int .i64 0)).other (C := w.heap.size + 2) (by omega) (1 * 4 + 3) (.int .i64 0)
          have hb3 := (((hb2.setNew (p := ⟨w.heap.size + 2, 1 * 4, none⟩) (by show w.heap.size ≤ w.heap.size + 2; omega) (.int .i64 (100 + rc))).setNew (p := ⟨w.heap.size + 2, 1 * 4 + 1, none⟩) (by show w.heap.size ≤ w.heap.size + 2; omega) (.int .i64 (1 + rd))).setNew (p := ⟨w.heap.size + 2, 1 * 4 + 2, none⟩) (by show w.heap.size ≤ w.heap.size + 2; omega) (.int .i64 0)).setNew (p := ⟨w.heap.size + 2, 1 * 4 + 3, none⟩) (by show w.heap.size ≤ w.heap.size + 2; omega) (.int .i64 0)
          simp only [Nat.reduceMul, Nat.reduceAdd, Nat.zero_mul, Nat.zero_add] at b0 b1 b2 b3 hB3 hW3 hR3 hb3
          clear hB2 hW2 hR2 hb2 EB EW HMI HMB
          go_wp2
          go_roundw
          case rel => exact ⟨1 + 1, by go_num, by omega, hW3, hB3, hR3, hb3⟩
          case measure => simp [intOf]
        · have hzb : (rb == 0) = false := by simpa using hz
          have HMB : Hid (mbI n 1 = ⟨0, 4, 0, 0⟩) := by
            show _ = _
            unfold mbI
            rw [if_neg (by rw [← Hrb.out] at hz; simpa using hz)]
          have hB3 : AtF W2 (w.heap.size + 2) (bkc (four (mbI n) ⟨0, 4, 0, 0⟩ (1 + 1))) := by
            have e1 : bkc (four (mbI n) ⟨0, 4, 0, 0⟩ (1 + 1)) = bkc ((four (mbI n) ⟨0, 4, 0, 0⟩ 1).set 1 (mbI n 1)) := by rfl
            rw [e1, HMB.out]; exact hB2
          clear hB2 EW HMI HMB
          go_wp2
          go_roundw
          case rel => exact ⟨1 + 1, by go_num, by omega, hW2, hB3, hR2, hb2⟩
          case measure => simp [intOf]
      | 2, _ =>
        obtain ⟨ra, Hra⟩ : ∃ r, Hid (rnd (n / 16) 8 = r) := ⟨_, rfl⟩
        obtain ⟨rb, Hrb⟩ : ∃ r, Hid (rnd (n / 4096) 3 = r) := ⟨_, rfl⟩
        obtain ⟨rc, Hrc⟩ : ∃ r, Hid (rnd (n / 65536) 900 = r) := ⟨_, rfl⟩
        obtain ⟨rd, Hrd⟩ : ∃ r, Hid (rnd (n / 1048576) 4 = r) := ⟨_, rfl⟩
        have la := rnd_lo (n / 16) 8
        have ha := rnd_hi (n / 16) 8 (by omega)
        have lc := rnd_lo (n / 65536) 900
        have hc := rnd_hi (n / 65536) 900 (by omega)
        have ld := rnd_lo (n / 1048576) 4
        have hdd := rnd_hi (n / 1048576) 4 (by omega)
        rw [Hra.out] at la ha
        rw [Hrc.out] at lc hc
        rw [Hrd.out] at ld hdd
        have ea : IntKind.i64.wrap (1 + ra) = 1 + ra := IntWalk.i64_in _ (by omega)
        have ec : IntKind.i64.wrap (100 + rc) = 100 + rc := IntWalk.i64_in _ (by omega)
        have ed : IntKind.i64.wrap (1 + rd) = 1 + rd := IntWalk.i64_in _ (by omega)
        have HMI : Hid (mwI n 2 = 1 + ra) := by show _ = _; rw [← Hra.out]; unfold mwI; simp
        have EW : Hid (((four (mwI n) 1 2).map (Value.int .i64)).set 2 (.int .i64 (1 + ra)) = (four (mwI n) 1 (2 + 1)).map (Value.int .i64)) := by show _ = _; rw [← HMI.out]; rfl
        have wi := hW.1.2 2 _ rfl
        have wf := hW.2
        have wl := hW.1.1
        have hW2 := hW.set 2 (by show 2 < 4; omega) (.int .i64 (1 + ra))
        rw [EW.out] at hW2
        have hB2 := hB.other (C := w.heap.size + 1) (by omega) 2 (.int .i64 (1 + ra))
        have hR2 := hR.other (C := w.heap.size + 1) (by omega) 2 (.int .i64 (1 + ra))
        have hb2 := hbr.setNew (p := ⟨w.heap.size + 1, 2, none⟩) (by show w.heap.size ≤ w.heap.size + 1; omega) (.int .i64 (1 + ra))
        go_wp2_with fail
        refine (round_any (n / 16) 8 _ (by omega)).mono ?_; rw [Hra.out]; rintro e w9 ⟨rfl, rfl⟩
        go_upto_region 8 with fail
        clear wi wf wl hW hB hR hbr
        generalize wr.setCell ⟨w.heap.size + 1, 2, none⟩ (.int .i64 (1 + ra)) = W2 at *
        go_wp2_with fail
        refine (round_any (n / 4096) 3 _ (by omega)).mono ?_; rw [Hrb.out]; rintro e w9 ⟨rfl, rfl⟩
        by_cases hz : rb = 0
        · subst hz
          have HMB : Hid (mbI n 2 = ⟨100 + rc, 1 + rd, 0, 0⟩) := by
            show _ = _
            unfold mbI
            rw [if_pos (by simpa using Hrb.out), Hrc.out, Hrd.out]
          go_wp2_with fail
          refine (round_any (n / 65536) 900 _ (by omega)).mono ?_; rw [Hrc.out]; rintro e w9 ⟨rfl, rfl⟩
          go_wp2_with fail
          refine (round_any (n / 1048576) 4 _ (by omega)).mono ?_; rw [Hrd.out]; rintro e w9 ⟨rfl, rfl⟩
          have b0 := hB2.1.2 (2 * 4) _ rfl
          have b1 := hB2.1.2 (2 * 4 + 1) _ rfl
          have b2 := hB2.1.2 (2 * 4 + 2) _ rfl
          have b3 := hB2.1.2 (2 * 4 + 3) _ rfl
          have bf := hB2.2
          have bl := hB2.1.1
          have EB : Hid (((((bkc (four (mbI n) ⟨0, 4, 0, 0⟩ 2)).set (2 * 4) (.int .i64 (100 + rc))).set (2 * 4 + 1) (.int .i64 (1 + rd))).set (2 * 4 + 2) (.int .i64 0)).set (2 * 4 + 3) (.int .i64 0) = bkc (four (mbI n) ⟨0, 4, 0, 0⟩ (2 + 1))) := by
            show _ = _
            have e1 : bkc (four (mbI n) ⟨0, 4, 0, 0⟩ (2 + 1)) = bkc ((four (mbI n) ⟨0, 4, 0, 0⟩ 2).set 2 ⟨100 + rc, 1 + rd, 0, 0⟩) := by rw [← HMB.out]; rfl
            rw [e1]; rfl
          have hB3 := (((hB2.set (2 * 4) (by show 2 * 4 < 16; omega) (.int .i64 (100 + rc))).set (2 * 4 + 1) (by rw [List.length_set]; show 2 * 4 + 1 < 16; omega) (.int .i64 (1 + rd))).set (2 * 4 + 2) (by rw [List.length_set, List.length_set]; show 2 * 4 + 2 < 16; omega) (.int .i64 0)).set (2 * 4 + 3) (by rw [List.length_set, List.length_set, List.length_set]; show 2 * 4 + 3 < 16; omega) (.int .i64 0)
          rw [EB.out] at hB3
          have hW3 := (((hW2.other (C := w.heap.size + 2) (by omega) (2 * 4) (.int .i64 (100 + rc))).other (C := w.heap.size + 2) (by omega) (2 * 4 + 1) (.int .i64 (1 + rd))).other (C := w.heap.size + 2) (by omega) (2 * 4 + 2) (.int .i64 0)).other (C := w.heap.size + 2) (by omega) (2 * 4 + 3) (.int .i64 0)
          have hR3 := (((hR2.other (C := w.heap.size + 2) (by omega) (2 * 4) (.int .i64 (100 + rc))).other (C := w.heap.size + 2) (by omega) (2 * 4 + 1) (.int .i64 (1 + rd))).other (C := w.heap.size + 2) (by omega) (2 * 4 + 2) (.int .i64 0)).other (C := w.heap.size + 2) (by omega) (2 * 4 + 3) (.int .i64 0)
          have hb3 := (((hb2.setNew (p := ⟨w.heap.size + 2, 2 * 4, none⟩) (by show w.heap.size ≤ w.heap.size + 2; omega) (.int .i64 (100 + rc))).setNew (p := ⟨w.heap.size + 2, 2 * 4 + 1, none⟩) (by show w.heap.size ≤ w.heap.size + 2; omega) (.int .i64 (1 + rd))).setNew (p := ⟨w.heap.size + 2, 2 * 4 + 2, none⟩) (by show w.heap.size ≤ w.heap.size + 2; omega) (.int .i64 0)).setNew (p := ⟨w.heap.size + 2, 2 * 4 + 3, none⟩) (by show w.heap.size ≤ w.heap.size + 2; omega) (.int .i64 0)
          simp only [Nat.reduceMul, Nat.reduceAdd, Nat.zero_mul, Nat.zero_add] at b0 b1 b2 b3 hB3 hW3 hR3 hb3
          clear hB2 hW2 hR2 hb2 EB EW HMI HMB
          go_wp2
          go_roundw
          case rel => exact ⟨2 + 1, by go_num, by omega, hW3, hB3, hR3, hb3⟩
          case measure => simp [intOf]
        · have hzb : (rb == 0) = false := by simpa using hz
          have HMB : Hid (mbI n 2 = ⟨0, 4, 0, 0⟩) := by
            show _ = _
            unfold mbI
            rw [if_neg (by rw [← Hrb.out] at hz; simpa using hz)]
          have hB3 : AtF W2 (w.heap.size + 2) (bkc (four (mbI n) ⟨0, 4, 0, 0⟩ (2 + 1))) := by
            have e1 : bkc (four (mbI n) ⟨0, 4, 0, 0⟩ (2 + 1)) = bkc ((four (mbI n) ⟨0, 4, 0, 0⟩ 2).set 2 (mbI n 2)) := by rfl
            rw [e1, HMB.out]; exact hB2
          clear hB2 EW HMI HMB
          go_wp2
          go_roundw
          case rel => exact ⟨2 + 1, by go_num, by omega, hW2, hB3, hR2, hb2⟩
          case measure => simp [intOf]
      | 3, _ =>
        obtain ⟨ra, Hra⟩ : ∃ r, Hid (rnd (n / 64) 8 = r) := ⟨_, rfl⟩
        obtain ⟨rb, Hrb⟩ : ∃ r, Hid (rnd (n / 16384) 3 = r) := ⟨_, rfl⟩
        obtain ⟨rc, Hrc⟩ : ∃ r, Hid (rnd (n / 65536) 900 = r) := ⟨_, rfl⟩
        obtain ⟨rd, Hrd⟩ : ∃ r, Hid (rnd (n / 1048576) 4 = r) := ⟨_, rfl⟩
        have la := rnd_lo (n / 64) 8
        have ha := rnd_hi (n / 64) 8 (by omega)
        have lc := rnd_lo (n / 65536) 900
        have hc := rnd_hi (n / 65536) 900 (by omega)
        have ld := rnd_lo (n / 1048576) 4
        have hdd := rnd_hi (n / 1048576) 4 (by omega)
        rw [Hra.out] at la ha
        rw [Hrc.out] at lc hc
        rw [Hrd.out] at ld hdd
        have ea : IntKind.i64.wrap (1 + ra) = 1 + ra := IntWalk.i64_in _ (by omega)
        have ec : IntKind.i64.wrap (100 + rc) = 100 + rc := IntWalk.i64_in _ (by omega)
        have ed : IntKind.i64.wrap (1 + rd) = 1 + rd := IntWalk.i64_in _ (by omega)
        have HMI : Hid (mwI n 3 = 1 + ra) := by show _ = _; rw [← Hra.out]; unfold mwI; simp
        have EW : Hid (((four (mwI n) 1 3).map (Value.int .i64)).set 3 (.int .i64 (1 + ra)) = (four (mwI n) 1 (3 + 1)).map (Value.int .i64)) := by show _ = _; rw [← HMI.out]; rfl
        have wi := hW.1.2 3 _ rfl
        have wf := hW.2
        have wl := hW.1.1
        have hW2 := hW.set 3 (by show 3 < 4; omega) (.int .i64 (1 + ra))
        rw [EW.out] at hW2
        have hB2 := hB.other (C := w.heap.size + 1) (by omega) 3 (.int .i64 (1 + ra))
        have hR2 := hR.other (C := w.heap.size + 1) (by omega) 3 (.int .i64 (1 + ra))
        have hb2 := hbr.setNew (p := ⟨w.heap.size + 1, 3, none⟩) (by show w.heap.size ≤ w.heap.size + 1; omega) (.int .i64 (1 + ra))
        go_wp2_with fail
        refine (round_any (n / 64) 8 _ (by omega)).mono ?_; rw [Hra.out]; rintro e w9 ⟨rfl, rfl⟩
        go_upto_region 8 with fail
        clear wi wf wl hW hB hR hbr
        generalize wr.setCell ⟨w.heap.size + 1, 3, none⟩ (.int .i64 (1 + ra)) = W2 at *
        go_wp2_with fail
        refine (round_any (n / 16384) 3 _ (by omega)).mono ?_; rw [Hrb.out]; rintro e w9 ⟨rfl, rfl⟩
        by_cases hz : rb = 0
        · subst hz
          have HMB : Hid (mbI n 3 = ⟨100 + rc, 1 + rd, 0, 0⟩) := by
            show _ = _
            unfold mbI
            rw [if_pos (by simpa using Hrb.out), Hrc.out, Hrd.out]
          go_wp2_with fail
          refine (round_any (n / 65536) 900 _ (by omega)).mono ?_; rw [Hrc.out]; rintro e w9 ⟨rfl, rfl⟩
          go_wp2_with fail
          refine (round_any (n / 1048576) 4 _ (by omega)).mono ?_; rw [Hrd.out]; rintro e w9 ⟨rfl, rfl⟩
          have b0 := hB2.1.2 (3 * 4) _ rfl
          have b1 := hB2.1.2 (3 * 4 + 1) _ rfl
          have b2 := hB2.1.2 (3 * 4 + 2) _ rfl
          have b3 := hB2.1.2 (3 * 4 + 3) _ rfl
          have bf := hB2.2
          have bl := hB2.1.1
          have EB : Hid (((((bkc (four (mbI n) ⟨0, 4, 0, 0⟩ 3)).set (3 * 4) (.int .i64 (100 + rc))).set (3 * 4 + 1) (.int .i64 (1 + rd))).set (3 * 4 + 2) (.int .i64 0)).set (3 * 4 + 3) (.int .i64 0) = bkc (four (mbI n) ⟨0, 4, 0, 0⟩ (3 + 1))) := by
            show _ = _
            have e1 : bkc (four (mbI n) ⟨0, 4, 0, 0⟩ (3 + 1)) = bkc ((four (mbI n) ⟨0, 4, 0, 0⟩ 3).set 3 ⟨100 + rc, 1 + rd, 0, 0⟩) := by rw [← HMB.out]; rfl
            rw [e1]; rfl
          have hB3 := (((hB2.set (3 * 4) (by show 3 * 4 < 16; omega) (.int .i64 (100 + rc))).set (3 * 4 + 1) (by rw [List.length_set]; show 3 * 4 + 1 < 16; omega) (.int .i64 (1 + rd))).set (3 * 4 + 2) (by rw [List.length_set, List.length_set]; show 3 * 4 + 2 < 16; omega) (.int .i64 0)).set (3 * 4 + 3) (by rw [List.length_set, List.length_set, List.length_set]; show 3 * 4 + 3 < 16; omega) (.int .i64 0)
          rw [EB.out] at hB3
          have hW3 := (((hW2.other (C := w.heap.size + 2) (by omega) (3 * 4) (.int .i64 (100 + rc))).other (C := w.heap.size + 2) (by omega) (3 * 4 + 1) (.int .i64 (1 + rd))).other (C := w.heap.size + 2) (by omega) (3 * 4 + 2) (.int .i64 0)).other (C := w.heap.size + 2) (by omega) (3 * 4 + 3) (.int .i64 0)
          have hR3 := (((hR2.other (C := w.heap.size + 2) (by omega) (3 * 4) (.int .i64 (100 + rc))).other (C := w.heap.size + 2) (by omega) (3 * 4 + 1) (.int .i64 (1 + rd))).other (C := w.heap.size + 2) (by omega) (3 * 4 + 2) (.int .i64 0)).other (C := w.heap.size + 2) (by omega) (3 * 4 + 3) (.int .i64 0)
          have hb3 := (((hb2.setNew (p := ⟨w.heap.size + 2, 3 * 4, none⟩) (by show w.heap.size ≤ w.heap.size + 2; omega) (.int .i64 (100 + rc))).setNew (p := ⟨w.heap.size + 2, 3 * 4 + 1, none⟩) (by show w.heap.size ≤ w.heap.size + 2; omega) (.int .i64 (1 + rd))).setNew (p := ⟨w.heap.size + 2, 3 * 4 + 2, none⟩) (by show w.heap.size ≤ w.heap.size + 2; omega) (.int .i64 0)).setNew (p := ⟨w.heap.size + 2, 3 * 4 + 3, none⟩) (by show w.heap.size ≤ w.heap.size + 2; omega) (.int .i64 0)
          simp only [Nat.reduceMul, Nat.reduceAdd, Nat.zero_mul, Nat.zero_add] at b0 b1 b2 b3 hB3 hW3 hR3 hb3
          clear hB2 hW2 hR2 hb2 EB EW HMI HMB
          go_wp2
          go_roundw
          case rel => exact ⟨3 + 1, by go_num, by omega, hW3, hB3, hR3, hb3⟩
          case measure => simp [intOf]
        · have hzb : (rb == 0) = false := by simpa using hz
          have HMB : Hid (mbI n 3 = ⟨0, 4, 0, 0⟩) := by
            show _ = _
            unfold mbI
            rw [if_neg (by rw [← Hrb.out] at hz; simpa using hz)]
          have hB3 : AtF W2 (w.heap.size + 2) (bkc (four (mbI n) ⟨0, 4, 0, 0⟩ (3 + 1))) := by
            have e1 : bkc (four (mbI n) ⟨0, 4, 0, 0⟩ (3 + 1)) = bkc ((four (mbI n) ⟨0, 4, 0, 0⟩ 3).set 3 (mbI n 3)) := by rfl
            rw [e1, HMB.out]; exact hB2
          clear hB2 EW HMI HMB
          go_wp2
          go_roundw
          case rel => exact ⟨3 + 1, by go_num, by omega, hW2, hB3, hR2, hb2⟩
          case measure => simp [intOf]
      | 4, _ =>
        have eW : madeW n = four (mwI n) 1 4 := if_neg HD.out
        have eK : madeK n = four (mbI n) ⟨0, 4, 0, 0⟩ 4 := if_neg HD.out
        rw [eW, eK] at HN
        obtain ⟨W, rfl⟩ : ∃ X, X = wr := ⟨_, rfl⟩
        have hbw := hbr
        have hBl := hB.1.1
        have hWI : Ints W (.slice (some ⟨w.heap.size + 1, 0, none⟩) 4 4) (four (mwI n) 1 4) := by
          refine ⟨fun z hz => ?_, _, 4, rfl, Nat.le_refl _, by unfold maxLen; omega, fun _ => ⟨_, 0, rfl, hW.1.1, fun j hj => ?_⟩⟩
          · rw [← eW] at hz
            obtain ⟨k, hk⟩ := List.getElem?_of_mem hz
            have := madeW_in hk
            unfold IsInt; omega
          · rw [Nat.zero_add]
            exact hW.1.2 j _ (by rw [List.getElem?_map, List.getElem?_eq_getElem hj]; rfl)
        have hBR : Rd W (.slice (some ⟨w.heap.size + 1 + 1, 0, none⟩) 4 4) 4 4 (bkc (four (mbI n) ⟨0, 4, 0, 0⟩ 4)) :=
          ⟨rfl, _, 4, rfl, Nat.le_refl _, by unfold maxLen; omega, fun _ => ⟨_, 0, rfl, hB.1.1, fun j u hu => by rw [Nat.zero_add]; exact hB.1.2 j u hu⟩⟩
        have HN2 := Lib.hid (HN.out _ _ W hWI hBR)
        go_wp2_with fail
        refine (round_any (n / 8) 20 _ (by omega)).mono ?_; rw [Hr1.out]; rintro e w9 ⟨rfl, rfl⟩
        go_wp2_with fail
        refine (round_any (n / 64) 40 _ (by omega)).mono ?_; rw [Hr2.out]; rintro e w9 ⟨rfl, rfl⟩
        go_wp2_with fail
        refine HN2.out.mono ?_; rintro e w2 ⟨fl, bu, en, rfl, hEN, hb2⟩
        obtain ⟨A1, c1, rfl⟩ := own_slice hEN.flo
        obtain ⟨A2, c2, rfl⟩ := own_slice hEN.buo
        obtain ⟨A3, c3, hv3⟩ := own_slice hEN.eno.bo.own
        subst hv3
        have hR2 := hR.bel hb2
        have g0 := (hR2).1.2 0 _ rfl
        have g1 := (hR2).1.2 1 _ rfl
        have g2 := (hR2).1.2 2 _ rfl
        have g3 := (hR2).1.2 3 _ rfl
        have g4 := (hR2).1.2 4 _ rfl
        have g5 := (hR2).1.2 5 _ rfl
        have g6 := (hR2).1.2 6 _ rfl
        have g7 := (hR2).1.2 7 _ rfl
        have rf := hR2.2
        have rl := hR2.1.1
        have hi8 : (Tryz.prog.info? 31).map (·.size) = some 8 := by kernel_rfl
        have hbs := hb2.size
        have hbw2 := hbw.trans hb2
        have hb9 := Bel.setRow (B := w.heap.size) (i := 0) [.int .i64 kk, .int .i64 k1, .int .i64 k2, .int .i64 0, .slice A1 FWs.length c1, .slice A2 BS.length c2, .slice A3 0 c3, .int .i64 0] hbw2 (Nat.le_refl _)
        have hE9 := (ElN.setRow (B := w.heap.size) (i := 0) [.int .i64 kk, .int .i64 k1, .int .i64 k2, .int .i64 0, .slice A1 FWs.length c1, .slice A2 BS.length c2, .slice A3 0 c3, .int .i64 0] hEN (by omega)).mono (base' := w.heap.size) (by omega)
        have hR9 := hR2.setRow [.int .i64 kk, .int .i64 k1, .int .i64 k2, .int .i64 0, .slice A1 FWs.length c1, .slice A2 BS.length c2, .slice A3 0 c3, .int .i64 0] rfl
        have hlv := loadVar_at (P := Tryz.prog) 31 hR9 _ Tryz.underlying31 rfl hi8
        simp only [setRow, Nat.zero_add, Nat.reduceAdd] at hlv hb9 hE9
        clear hR9
        go_wp2
        clear g0 g1 g2 g3 g4 g5 g6 g7
        exact bodyPost_ret (v := .tuple #[.agg #[.int .i64 kk, .int .i64 k1, .int .i64 k2, .int .i64 0, .slice A1 FWs.length c1, .slice A2 BS.length c2, .slice A3 0 c3, .int .i64 0], .bool K]) (by simp [results, Tryz.results4, hlv, asAddr]) rfl ⟨_, _, _, rfl, hE9, hb9⟩
end Go.Proofs.YtpgjbocjhconoaaGreat

/- The law's awake. -/
namespace Go.Proofs.YtpgjbocjhconoaaGreat
open Go.RowKit Go.Maps
set_option linter.unusedSimpArgs false

def awB (i : Nat) : Bu := ⟨(i : Int), (i : Int) / 3, 1, 2 * (i : Int), 1, ⟨#[]⟩, false, [⟨(i : Int), 0, 1⟩], 0⟩
def awE : Nat → El
  | 0 => madeE 4 3
  | i + 1 => (addE 1 0 (awE i) (awB i)).1
theorem awE_ok : ∀ i < 4, (addE 1 0 (awE i) (awB i)).2 = true := by decide +kernel
theorem awE_next : (nxtE (awE 4) 5 []).2.2 = true ∧ (nxtE (nxtE (awE 4) 5 []).1 5 []).2.2 = true ∧ (nxtE (nxtE (awE 4) 5 []).1 5 []).2.1.ten = 1 ∧ (nxtE (nxtE (awE 4) 5 []).1 5 []).1.en.length = 2 := by decide +kernel
theorem awE_none : newOk 3 0 0 [1, 1, 1, 1] [⟨0, 0, 0, 0⟩, ⟨0, 0, 0, 0⟩, ⟨0, 0, 0, 0⟩, ⟨0, 0, 0, 0⟩] = false := by decide +kernel
/-- What the walks need of a scheduler. -/
structure OkE (E : El) : Prop where
  fl : E.fl.length = 4
  bk : E.bk.length = 4
  en : E.en.length ≤ 30
  ok : ∀ x ∈ E.en, okU x.u = true
theorem addE_same (M B : Int) (E : El) (b : Bu) : (addE M B E b).1.knd = E.knd ∧ (addE M B E b).1.rdE = E.rdE ∧ (addE M B E b).1.wrE = E.wrE ∧ (addE M B E b).1.vt = E.vt ∧ (addE M B E b).1.bk = E.bk ∧ (addE M B E b).1.hd = E.hd := by
  unfold addE
  split
  · split
    · split
      · split <;> exact ⟨rfl, rfl, rfl, rfl, rfl, rfl⟩
      · exact ⟨rfl, rfl, rfl, rfl, rfl, rfl⟩
    · split <;> exact ⟨rfl, rfl, rfl, rfl, rfl, rfl⟩
  · exact ⟨rfl, rfl, rfl, rfl, rfl, rfl⟩
theorem nxtE_same (E : El) (now : Int) (busy : List Bu) : (nxtE E now busy).1.knd = E.knd ∧ (nxtE E now busy).1.rdE = E.rdE ∧ (nxtE E now busy).1.wrE = E.wrE := by
  unfold nxtE
  split
  · rename_i h
    obtain ⟨k, hk⟩ := nextE_some h
    exact ⟨hk.knd, hk.rd, hk.wr⟩
  · exact ⟨rfl, rfl, rfl⟩
theorem OkE.ms {E : El} (h : OkE E) {L : List QM} (hL : L.map QM.qu = E.en) : L.length ≤ 100 ∧ (∀ x ∈ L, x.ms.length ≤ 1000) ∧ ∀ x ∈ L, IsInt (x.q.b.sec + x.q.b.cnt) := by
  have hl : L.length = E.en.length := by rw [← hL, List.length_map]
  have hx : ∀ x ∈ L, okU x.qu.u = true := fun x hx => h.ok x.qu (by rw [← hL]; exact List.mem_map_of_mem hx)
  refine ⟨by have := h.en; omega, fun x h1 => ?_, fun x h1 => ?_⟩
  · have := (ok_small (hx x h1)).1
    have e : x.qu.u.ms = x.ms := rfl
    rw [e] at this; omega
  · have h3 := okU_range (hx x h1)
    have e1 : x.qu.u.sec = x.q.b.sec := rfl
    have e2 : x.qu.u.cnt = x.q.b.cnt := rfl
    rw [e1, e2] at h3
    unfold IsInt; omega
theorem elAdd_E (M B : Int) (E : El) (fl bu en : Value) (L : List QM) (y : BM) (w : World) (base : Nat) (h : ElN w base fl bu en E.fl E.bk L) (hL : L.map QM.qu = E.en) (ho : OkE E) (hy : Mems w y.b y.ms) (hym : y.ms.length ≤ 1000) :
    Calls Tryz.prog 8 #[.agg #[.int .i64 M, .int .i64 B], .agg #[.int .i64 E.knd, .int .i64 E.rdE, .int .i64 E.wrE, .int .i64 E.vt, fl, bu, en, .int .i64 E.hd], .agg #[.int .i64 (y.b).id, .int .i64 (y.b).ten, .int .i64 (y.b).knd, .int .i64 (y.b).sec, .int .i64 (y.b).cnt, .string (y.b).dat, .bool (y.b).fua, .slice (y.b).mA (y.b).mL (y.b).mC, .int .i64 (y.b).tim]] w fun e w' => ∃ fl' bu' en' L',
      e = .returned (.tuple #[.agg #[.int .i64 E.knd, .int .i64 E.rdE, .int .i64 E.wrE, .int .i64 E.vt, fl', bu', en', .int .i64 E.hd], .bool (addE M B E y.bu).2]) ∧
      ElN w' w.heap.size fl' bu' en' (addE M B E y.bu).1.fl E.bk L' ∧ L'.map QM.qu = (addE M B E y.bu).1.en ∧ Bel w w' := by
  obtain ⟨h1, h2, _⟩ := ho.ms hL
  have H := elAdd_any M B E.knd E.rdE E.wrE E.vt E.hd fl bu en E.fl E.bk L y w (Rd.own h.flo) (Rd.own h.buo) h.eno.bo.ql hy (by rw [ho.fl]; omega) (by rw [ho.bk]; omega) h1 h2 hym
  have e : (⟨E.knd, E.rdE, E.wrE, E.vt, E.fl, E.bk, L.map QM.qu, E.hd⟩ : El) = E := by rw [hL]
  rw [e] at H
  exact H
theorem elNext_E (E : El) (now : Int) (fl bu en bv : Value) (L : List QM) (B : List BM) (w : World) (base : Nat) (h : ElN w base fl bu en E.fl E.bk L) (hL : L.map QM.qu = E.en) (ho : OkE E) (hB : BL w bv B) :
    Calls Tryz.prog 11 #[.agg #[.int .i64 E.knd, .int .i64 E.rdE, .int .i64 E.wrE, .int .i64 E.vt, fl, bu, en, .int .i64 E.hd], .int .i64 now, bv] w fun e w' => ∃ fl' bu' en' L' A c,
      e = .returned (.tuple #[.agg #[.int .i64 E.knd, .int .i64 E.rdE, .int .i64 E.wrE, .int .i64 (nxtE E now (B.map BM.bu)).1.vt, fl', bu', en', .int .i64 (nxtE E now (B.map BM.bu)).1.hd], .agg #[.int .i64 (((nxtE E now (B.map BM.bu)).2.1.at A c)).id, .int .i64 (((nxtE E now (B.map BM.bu)).2.1.at A c)).ten, .int .i64 (((nxtE E now (B.map BM.bu)).2.1.at A c)).knd, .int .i64 (((nxtE E now (B.map BM.bu)).2.1.at A c)).sec, .int .i64 (((nxtE E now (B.map BM.bu)).2.1.at A c)).cnt, .string (((nxtE E now (B.map BM.bu)).2.1.at A c)).dat, .bool (((nxtE E now (B.map BM.bu)).2.1.at A c)).fua, .slice (((nxtE E now (B.map BM.bu)).2.1.at A c)).mA (((nxtE E now (B.map BM.bu)).2.1.at A c)).mL (((nxtE E now (B.map BM.bu)).2.1.at A c)).mC, .int .i64 (((nxtE E now (B.map BM.bu)).2.1.at A c)).tim], .bool (nxtE E now (B.map BM.bu)).2.2]) ∧
      ElN w' w.heap.size fl' bu' en' (nxtE E now (B.map BM.bu)).1.fl (nxtE E now (B.map BM.bu)).1.bk L' ∧ L'.map QM.qu = (nxtE E now (B.map BM.bu)).1.en ∧
      Zb w' w.heap.size (nxtE E now (B.map BM.bu)).2.1 A c ∧ Bel w w' := by
  obtain ⟨h1, h2, h3⟩ := ho.ms hL
  have H := elNext_any E.knd E.rdE E.wrE E.vt E.hd now fl bu en bv E.fl E.bk L B w (Rd.own h.flo) (Rd.own h.buo) h.eno.bo.ql hB (by rw [ho.fl]; omega) (by rw [ho.bk]; omega) h1 h2 h3
  have e : (⟨E.knd, E.rdE, E.wrE, E.vt, E.fl, E.bk, L.map QM.qu, E.hd⟩ : El) = E := by rw [hL]
  rw [e] at H
  exact H
theorem made_E (n kind : Int) (w : World) (hn : IsInt n) (hk : kindOk kind = true) :
    Calls Tryz.prog 4 #[.int .i64 n, .int .i64 kind] w fun e w' => ∃ fl bu en, e = .returned (.tuple #[.agg #[.int .i64 (madeE n kind).knd, .int .i64 (madeE n kind).rdE, .int .i64 (madeE n kind).wrE, .int .i64 (madeE n kind).vt, fl, bu, en, .int .i64 (madeE n kind).hd], .bool true]) ∧
      ElN w' w.heap.size fl bu en (madeE n kind).fl (madeE n kind).bk [] ∧ Bel w w' := by
  have H := made_any n kind w hn
  simp only [hk, if_true] at H
  exact H
theorem madeE_ok (n kind : Int) : OkE (madeE n kind) := ⟨by show (newF (madeW n)).length = 4; rw [newF_len, madeW_len], madeK_len n, by show (0 : Nat) ≤ 30; omega, fun x hx => by cases hx⟩
theorem awE_oke : ∀ i < 5, (awE i).fl.length = 4 ∧ (awE i).bk.length = 4 ∧ (awE i).en.length ≤ 30 ∧ (awE i).en.all (fun x => okU x.u) = true := by decide +kernel
theorem awE_OkE {i : Nat} (h : i < 5) : OkE (awE i) := by
  obtain ⟨h1, h2, h3, h4⟩ := awE_oke i h
  rw [List.all_eq_true] at h4
  exact ⟨h1, h2, h3, h4⟩
theorem awE_oke5 : (nxtE (awE 4) 5 []).1.fl.length = 4 ∧ (nxtE (awE 4) 5 []).1.bk.length = 4 ∧ (nxtE (awE 4) 5 []).1.en.length ≤ 30 ∧ (nxtE (awE 4) 5 []).1.en.all (fun x => okU x.u) = true := by decide +kernel
theorem awE_OkE5 : OkE (nxtE (awE 4) 5 []).1 := by
  obtain ⟨h1, h2, h3, h4⟩ := awE_oke5
  rw [List.all_eq_true] at h4
  exact ⟨h1, h2, h3, h4⟩

set_option maxRecDepth 100000 in
set_option maxHeartbeats 8000000 in
theorem awake33_any (w : World) : Calls Tryz.prog 16 #[] w fun e w' => e = .returned (.bool true) ∧ Bel w w' := by
  have HNW := Lib.hid (fun (wv bv : Value) (w' : World) (hw : Ints w' wv [1, 1, 1, 1]) (hb : Rd w' bv 4 4 (bkc [⟨0, 0, 0, 0⟩, ⟨0, 0, 0, 0⟩, ⟨0, 0, 0, 0⟩, ⟨0, 0, 0, 0⟩])) => elNew_any 3 0 0 [1, 1, 1, 1] [⟨0, 0, 0, 0⟩, ⟨0, 0, 0, 0⟩, ⟨0, 0, 0, 0⟩, ⟨0, 0, 0, 0⟩] wv bv w' hw hb (by decide) (by decide))
  rw [awE_none] at HNW
  simp only [Bool.false_eq_true, if_false] at HNW
  have hmk : ∀ w : World, (Instr.makeSlice 28 (.int .i64 4) (.int .i64 4)).run Tryz.prog w = .ok (.slice (some ⟨w.heap.size, 0, none⟩) 4 4) (w.alloc (.cells #[.int .i64 0, .int .i64 0, .int .i64 0, .int .i64 0, .int .i64 0, .int .i64 0, .int .i64 0, .int .i64 0, .int .i64 0, .int .i64 0, .int .i64 0, .int .i64 0, .int .i64 0, .int .i64 0, .int .i64 0, .int .i64 0] 54)) := by
    intro w; kernel_rfl
  have hWI : Ints ((w.alloc (.cells #[.int .i64 1, .int .i64 1, .int .i64 1, .int .i64 1] 3)).alloc (.cells #[.int .i64 0, .int .i64 0, .int .i64 0, .int .i64 0, .int .i64 0, .int .i64 0, .int .i64 0, .int .i64 0, .int .i64 0, .int .i64 0, .int .i64 0, .int .i64 0, .int .i64 0, .int .i64 0, .int .i64 0, .int .i64 0] 54)) (.slice (some ⟨w.heap.size, 0, none⟩) 4 4) [1, 1, 1, 1] := by
    have hA := (AtF.new_at (w := w) rfl 3 [.int .i64 1, .int .i64 1, .int .i64 1, .int .i64 1]).alloc (.cells #[.int .i64 0, .int .i64 0, .int .i64 0, .int .i64 0, .int .i64 0, .int .i64 0, .int .i64 0, .int .i64 0, .int .i64 0, .int .i64 0, .int .i64 0, .int .i64 0, .int .i64 0, .int .i64 0, .int .i64 0, .int .i64 0] 54)
    refine ⟨by simp [IsInt], _, 4, rfl, Nat.le_refl _, by unfold maxLen; omega, fun _ => ⟨_, 0, rfl, hA.1.1, fun j hj => ?_⟩⟩
    rw [Nat.zero_add]
    match j, hj with
    | 0, _ => exact hA.1.2 0 _ rfl
    | 1, _ => exact hA.1.2 1 _ rfl
    | 2, _ => exact hA.1.2 2 _ rfl
    | 3, _ => exact hA.1.2 3 _ rfl
  have hBR : Rd ((w.alloc (.cells #[.int .i64 1, .int .i64 1, .int .i64 1, .int .i64 1] 3)).alloc (.cells #[.int .i64 0, .int .i64 0, .int .i64 0, .int .i64 0, .int .i64 0, .int .i64 0, .int .i64 0, .int .i64 0, .int .i64 0, .int .i64 0, .int .i64 0, .int .i64 0, .int .i64 0, .int .i64 0, .int .i64 0, .int .i64 0] 54)) (.slice (some ⟨w.heap.size + 1, 0, none⟩) 4 4) 4 4 (bkc [⟨0, 0, 0, 0⟩, ⟨0, 0, 0, 0⟩, ⟨0, 0, 0, 0⟩, ⟨0, 0, 0, 0⟩]) := by
    have hA := AtF.new_at (w := w.alloc (.cells #[.int .i64 1, .int .i64 1, .int .i64 1, .int .i64 1] 3)) (g := w.heap.size + 1) (by simp) 54 [.int .i64 0, .int .i64 0, .int .i64 0, .int .i64 0, .int .i64 0, .int .i64 0, .int .i64 0, .int .i64 0, .int .i64 0, .int .i64 0, .int .i64 0, .int .i64 0, .int .i64 0, .int .i64 0, .int .i64 0, .int .i64 0]
    exact ⟨rfl, _, 4, rfl, Nat.le_refl _, by unfold maxLen; omega, fun _ => ⟨_, 0, rfl, hA.1.1, fun j u hu => by rw [Nat.zero_add]; exact hA.1.2 j u hu⟩⟩
  have hbw : Bel w ((w.alloc (.cells #[.int .i64 1, .int .i64 1, .int .i64 1, .int .i64 1] 3)).alloc (.cells #[.int .i64 0, .int .i64 0, .int .i64 0, .int .i64 0, .int .i64 0, .int .i64 0, .int .i64 0, .int .i64 0, .int .i64 0, .int .i64 0, .int .i64 0, .int .i64 0, .int .i64 0, .int .i64 0, .int .i64 0, .int .i64 0] 54)) := bI
  have HNW2 := Lib.hid (HNW.out _ _ _ hWI hBR)
  clear HNW hWI hBR
  obtain ⟨E0, HE0⟩ : ∃ E, Hid (madeE 4 3 = E) := ⟨_, rfl⟩
  have HMD := Lib.hid (fun W => made_E 4 3 W ⟨by omega, by omega⟩ rfl)
  rw [HE0.out] at HMD
  go_enter Tryz.func16, Tryz.ntmps16
  go_wp2_with fail
  refine HNW2.out.mono ?_; rintro e w1 ⟨fl0, bu0, en0, rfl, hEN0, hb1⟩
  obtain ⟨A1, c1, rfl⟩ := own_slice hEN0.flo
  obtain ⟨A2, c2, rfl⟩ := own_slice hEN0.buo
  obtain ⟨A3, c3, hv3⟩ := own_slice hEN0.eno.bo.own
  subst hv3
  have hX := AtF.new_at (w := w1) rfl 31 [.int .i64 0, .int .i64 0, .int .i64 0, .int .i64 0, .slice A1 ([] : List (Int × Int)).length c1, .slice A2 ([] : List Bk).length c2, .slice A3 ([] : List QM).length c3, .int .i64 0]
  have hb2 : Bel w (w1.alloc (.cells [.int .i64 0, .int .i64 0, .int .i64 0, .int .i64 0, .slice A1 ([] : List (Int × Int)).length c1, .slice A2 ([] : List Bk).length c2, .slice A3 ([] : List QM).length c3, .int .i64 0].toArray 31)) := bI
  have hXs := hbw.trans hb1 |>.size
  simp only [List.toArray] at hX hb2
  go_upto_region 4 with fail
  clear hEN0 hb1 hmk
  generalize hW1 : w1.alloc _ = W1 at *
  clear hW1
  generalize w1.heap.size = X at *
  go_wp2_with fail
  refine (HMD.out _).mono ?_; rintro e w2 ⟨fl1, bu1, en1, rfl, hEN, hb3⟩
  obtain ⟨A4, c4, rfl⟩ := own_slice hEN.flo
  obtain ⟨A5, c5, rfl⟩ := own_slice hEN.buo
  obtain ⟨A6, c6, hv6⟩ := own_slice hEN.eno.bo.own
  subst hv6
  have hX2 := hX.bel hb3
  have hXl := hX.1.1
  have hb23 := hb2.trans hb3
  have k0 := (hX2).1.2 0 _ rfl
  have k1 := (hX2).1.2 1 _ rfl
  have k2 := (hX2).1.2 2 _ rfl
  have k3 := (hX2).1.2 3 _ rfl
  have k4 := (hX2).1.2 4 _ rfl
  have k5 := (hX2).1.2 5 _ rfl
  have k6 := (hX2).1.2 6 _ rfl
  have k7 := (hX2).1.2 7 _ rfl
  have kf := (hX2).2
  have kl := (hX2).1.1
  have hXn := (hX2).setRow [.int .i64 E0.knd, .int .i64 E0.rdE, .int .i64 E0.wrE, .int .i64 E0.vt, .slice A4 E0.fl.length c4, .slice A5 E0.bk.length c5, .slice A6 0 c6, .int .i64 E0.hd] rfl
  have hENn := (ElN.setRow (B := X) (i := 0) [.int .i64 E0.knd, .int .i64 E0.rdE, .int .i64 E0.wrE, .int .i64 E0.vt, .slice A4 E0.fl.length c4, .slice A5 E0.bk.length c5, .slice A6 0 c6, .int .i64 E0.hd] hEN (by omega)).mono (base' := X + 1) (by omega)
  have hbn := Bel.setRow (B := X) (i := 0) [.int .i64 E0.knd, .int .i64 E0.rdE, .int .i64 E0.wrE, .int .i64 E0.vt, .slice A4 E0.fl.length c4, .slice A5 E0.bk.length c5, .slice A6 0 c6, .int .i64 E0.hd] hb23 (by omega)
  simp only [setRow, Nat.zero_add, Nat.reduceAdd] at hXn hENn hbn
  go_upto_region 5 with fail
  clear k0 k1 k2 k3 k4 k5 k6 k7 kf kl
  generalize hWn : World.setCell _ ⟨X, 7, none⟩ _ = W3 at *
  clear hWn
  clear hX2 hX hEN hb23 hb2 hb3
  go_wp2
  go_loopw [2, 3] (fun okv iv wr => ∃ (i : Nat) (E : El) (fl bu en : Value) (L : List QM), okv = .bool true ∧ iv = .int .i64 i ∧ i ≤ 4 ∧ Hid (E = awE i) ∧ AtF wr X [.int .i64 E.knd, .int .i64 E.rdE, .int .i64 E.wrE, .int .i64 E.vt, fl, bu, en, .int .i64 E.hd] ∧ ElN wr (X + 1) fl bu en E.fl E.bk L ∧ Hid (L.map QM.qu = E.en) ∧ Bel w wr) (fun _ iv _ => 4 - (intOf iv).toNat)
  case atStart => exact ⟨0, E0, _, _, _, [], rfl, rfl, by omega, by show _ = madeE 4 3; rw [HE0.out], hXn, hENn, by show [] = E0.en; rw [← HE0.out]; rfl, hbn⟩
  case round =>
    clear hXn hENn hbn
    obtain ⟨i, E, fl, bu, en, L, rfl, rfl, p1, HE, hX, hEN, HL, hbr⟩ := hrel
    obtain ⟨W4, rfl⟩ : ∃ X, X = wr := ⟨_, rfl⟩
    obtain ⟨A1, c1, rfl⟩ := own_slice hEN.flo
    obtain ⟨A2, c2, rfl⟩ := own_slice hEN.buo
    obtain ⟨A3, c3, hv3⟩ := own_slice hEN.eno.bo.own
    subst hv3
    by_cases hlt : i < 4
    · have hin : (i : Int) < 4 := by omega
      have hOK : OkE E := by rw [HE.out]; exact awE_OkE (by omega)
      have hM := AtF.new_at (w := W4) rfl 93 [.int .i64 (i : Int), .int .i64 0, .int .i64 1]
      have hb5 : Bel W4 (W4.alloc (.cells [.int .i64 (i : Int), .int .i64 0, .int .i64 1].toArray 93)) := bI
      simp only [List.toArray] at hM hb5
      have hMY : Mems (W4.alloc (.cells #[.int .i64 (i : Int), .int .i64 0, .int .i64 1] 93)) ⟨(i : Int), (i : Int) / 3, 1, 2 * (i : Int), 1, ⟨#[]⟩, false, some ⟨W4.heap.size, 0, none⟩, 1, 1, 0⟩ [⟨(i : Int), 0, 1⟩] := by
        refine ⟨rfl, ⟨rfl, _, 1, rfl, Nat.le_refl _, by unfold maxLen; omega, fun _ => ⟨_, 0, rfl, hM.1.1, fun j u hu => ?_⟩⟩, fun m hm => ?_, by show (0 : Nat) ≤ maxLen; omega⟩
        · rw [Nat.zero_add]; exact hM.1.2 j u hu
        · rw [List.mem_singleton] at hm
          subst hm
          show IsInt (i : Int)
          unfold IsInt; omega
      have HAD := Lib.hid (elAdd_E 1 0 E _ _ _ L ⟨_, _⟩ _ (X + 1) (hEN.keep hb5) HL.out hOK hMY (by show 1 ≤ 1000; omega))
      have hy : BM.bu ⟨⟨(i : Int), (i : Int) / 3, 1, 2 * (i : Int), 1, ⟨#[]⟩, false, some ⟨W4.heap.size, 0, none⟩, 1, 1, 0⟩, [⟨(i : Int), 0, 1⟩]⟩ = awB i := rfl
      have hok2 : (addE 1 0 E (awB i)).2 = true := by rw [HE.out]; exact awE_ok i hlt
      rw [hy, hok2] at HAD
      obtain ⟨E', HE'⟩ : ∃ E', Hid (E' = (addE 1 0 E (awB i)).1) := ⟨_, rfl⟩
      have HSM := Lib.hid (addE_same 1 0 E (awB i))
      rw [← HE'.out] at HAD HSM
      have HE2 : Hid (E' = awE (i + 1)) := by show _ = (addE 1 0 (awE i) (awB i)).1; rw [HE'.out, HE.out]
      clear hy hok2 hM hMY HE'
      have k0 := (hX).1.2 0 _ rfl
      have k1 := (hX).1.2 1 _ rfl
      have k2 := (hX).1.2 2 _ rfl
      have k3 := (hX).1.2 3 _ rfl
      have k4 := (hX).1.2 4 _ rfl
      have k5 := (hX).1.2 5 _ rfl
      have k6 := (hX).1.2 6 _ rfl
      have k7 := (hX).1.2 7 _ rfl
      have kl := hX.1.1
      go_wp2_with fail
      refine HAD.out.mono ?_; rintro e w6 ⟨fl6, bu6, en6, L6, rfl, hEN6, hL6, hb6⟩
      clear k0 k1 k2 k3 k4 k5 k6 k7 kl HAD
      obtain ⟨A7, c7, rfl⟩ := own_slice hEN6.flo
      obtain ⟨A8, c8, rfl⟩ := own_slice hEN6.buo
      obtain ⟨A9, c9, hv9⟩ := own_slice hEN6.eno.bo.own
      subst hv9
      have HL6 := Lib.hid hL6
      have hb46 := hb5.trans hb6
      have hX7 := (hX.bel hb46).alloc (.cells [.int .i64 E.knd, .int .i64 E.rdE, .int .i64 E.wrE, .int .i64 E.vt, .slice A7 E'.fl.length c7, .slice A8 E.bk.length c8, .slice A9 L6.length c9, .int .i64 E.hd].toArray 31)
      have hY7 := AtF.new_at (w := w6) rfl 31 [.int .i64 E.knd, .int .i64 E.rdE, .int .i64 E.wrE, .int .i64 E.vt, .slice A7 E'.fl.length c7, .slice A8 E.bk.length c8, .slice A9 L6.length c9, .int .i64 E.hd]
      have hbn7 : Bel w6 (w6.alloc (.cells [.int .i64 E.knd, .int .i64 E.rdE, .int .i64 E.wrE, .int .i64 E.vt, .slice A7 E'.fl.length c7, .slice A8 E.bk.length c8, .slice A9 L6.length c9, .int .i64 E.hd].toArray 31)) := bI
      have hEN7 := hEN6.keep hbn7
      have hb7 := (hbr.trans hb46).trans hbn7
      simp only [List.toArray] at hX7 hY7 hEN7 hb7
      have hXl := hX.1.1
      have hs6 := hb46.size
      have hs5 := hb5.size
      go_upto_region 9 with fail
      clear hL6 hEN6 hb6 hb5 hbn7 hb46 hX hEN hbr
      generalize w6.alloc (.cells #[.int .i64 E.knd, .int .i64 E.rdE, .int .i64 E.wrE, .int .i64 E.vt, .slice A7 E'.fl.length c7, .slice A8 E.bk.length c8, .slice A9 L6.length c9, .int .i64 E.hd] 31) = W7 at *
      generalize w6.heap.size = Y at *
      have y0 := (hY7).1.2 0 _ rfl
      have y1 := (hY7).1.2 1 _ rfl
      have y2 := (hY7).1.2 2 _ rfl
      have y3 := (hY7).1.2 3 _ rfl
      have y4 := (hY7).1.2 4 _ rfl
      have y5 := (hY7).1.2 5 _ rfl
      have y6 := (hY7).1.2 6 _ rfl
      have y7 := (hY7).1.2 7 _ rfl
      have yl := hY7.1.1
      have k0 := (hX7).1.2 0 _ rfl
      have k1 := (hX7).1.2 1 _ rfl
      have k2 := (hX7).1.2 2 _ rfl
      have k3 := (hX7).1.2 3 _ rfl
      have k4 := (hX7).1.2 4 _ rfl
      have k5 := (hX7).1.2 5 _ rfl
      have k6 := (hX7).1.2 6 _ rfl
      have k7 := (hX7).1.2 7 _ rfl
      have kf := (hX7).2
      have kl := (hX7).1.1
      have hXn := (hX7).setRow [.int .i64 E.knd, .int .i64 E.rdE, .int .i64 E.wrE, .int .i64 E.vt, .slice A7 E'.fl.length c7, .slice A8 E.bk.length c8, .slice A9 L6.length c9, .int .i64 E.hd] rfl
      have hENn := (ElN.setRow (B := X) (i := 0) [.int .i64 E.knd, .int .i64 E.rdE, .int .i64 E.wrE, .int .i64 E.vt, .slice A7 E'.fl.length c7, .slice A8 E.bk.length c8, .slice A9 L6.length c9, .int .i64 E.hd] hEN7 (by omega)).mono (base' := X + 1) (by omega)
      have hbn := Bel.setRow (B := X) (i := 0) [.int .i64 E.knd, .int .i64 E.rdE, .int .i64 E.wrE, .int .i64 E.vt, .slice A7 E'.fl.length c7, .slice A8 E.bk.length c8, .slice A9 L6.length c9, .int .i64 E.hd] hb7 (by omega)
      simp only [setRow, Nat.zero_add, Nat.reduceAdd] at hXn hENn hbn
      clear hX7 hEN7 hb7 hY7 HE
      go_wp2
      clear y0 y1 y2 y3 y4 y5 y6 y7 yl k0 k1 k2 k3 k4 k5 k6 k7 kf kl
      go_roundw
      case rel =>
        obtain ⟨q1, q2, q3, q4, q5, q6⟩ := HSM.out
        refine ⟨i + 1, E', .slice A7 E'.fl.length c7, .slice A8 E.bk.length c8, .slice A9 L6.length c9, L6, rfl, by go_num, by omega, HE2, ?_, ?_, HL6, hbn⟩
        · rw [q1, q2, q3, q4, q6]; exact hXn
        · rw [q5]; exact hENn
      case measure => simp [intOf]; omega
    · obtain rfl : i = 4 := by omega
      have hOK : OkE E := by rw [HE.out]; exact awE_OkE (by omega)
      have HNX := Lib.hid (fun W (h : Bel W4 W) => elNext_E E 5 _ _ _ _ L [] W (X + 1) (hEN.keep h) HL.out hOK (BL.nil W))
      simp only [List.map_nil] at HNX
      obtain ⟨⟨E', u, b⟩, HR⟩ : ∃ R, Hid (nxtE E 5 [] = R) := ⟨_, rfl⟩
      have hb0 : b = true := by
        have h := awE_next.1
        rw [← HE.out, HR.out] at h
        exact h
      subst hb0
      have hOK2 : OkE E' := by
        have h := awE_OkE5
        rw [← HE.out, HR.out] at h
        exact h
      have HFN : Hid ((nxtE E' 5 []).2.2 = true ∧ (nxtE E' 5 []).2.1.ten = 1 ∧ (nxtE E' 5 []).1.en.length = 2) := by
        have h := awE_next.2
        rw [← HE.out, HR.out] at h
        exact h
      have HSM := Lib.hid (nxtE_same E 5 [])
      rw [HR.out] at HNX HSM
      simp only at HNX HSM
      clear HE HR hOK HL
      have k0 := (hX).1.2 0 _ rfl
      have k1 := (hX).1.2 1 _ rfl
      have k2 := (hX).1.2 2 _ rfl
      have k3 := (hX).1.2 3 _ rfl
      have k4 := (hX).1.2 4 _ rfl
      have k5 := (hX).1.2 5 _ rfl
      have k6 := (hX).1.2 6 _ rfl
      have k7 := (hX).1.2 7 _ rfl
      have kl := hX.1.1
      go_wp2_with fail
      refine (HNX.out _ (Bel.refl _)).mono ?_; rintro e w5 ⟨fl5, bu5, en5, L5, A, c, rfl, hEN5, hL5, hZ5, hb5⟩
      obtain ⟨A4, c4, rfl⟩ := own_slice hEN5.flo
      obtain ⟨A5, c5, rfl⟩ := own_slice hEN5.buo
      obtain ⟨A6, c6, hv6⟩ := own_slice hEN5.eno.bo.own
      subst hv6
      obtain ⟨i1, t1, k1', s1, n1, d1, f1, m1, tm⟩ := u
      simp only [Bu.at]
      clear k0 k1 k2 k3 k4 k5 k6 k7 kl
      have hXl := hX.1.1
      have nx0 := ((hX.bel hb5)).alloc (.cells [.int .i64 0, .int .i64 0, .int .i64 0, .int .i64 0, .int .i64 0, .string ⟨#[]⟩, .bool false, .slice none 0 0, .int .i64 0].toArray 44)
      have ny0 := AtF.new_at (w := w5) rfl 44 [.int .i64 0, .int .i64 0, .int .i64 0, .int .i64 0, .int .i64 0, .string ⟨#[]⟩, .bool false, .slice none 0 0, .int .i64 0]
      have nbn : Bel w5 (w5.alloc (.cells [.int .i64 0, .int .i64 0, .int .i64 0, .int .i64 0, .int .i64 0, .string ⟨#[]⟩, .bool false, .slice none 0 0, .int .i64 0].toArray 44)) := bI
      have ne0 := (hEN5).keep nbn
      have nb0 := ((hbr.trans hb5)).trans nbn
      have nxl : X < w5.heap.size := ((hX.bel hb5)).1.1
      have hi8 : (Tryz.prog.info? 31).map (·.size) = some 8 := by kernel_rfl
      have hi9 : (Tryz.prog.info? 44).map (·.size) = some 9 := by kernel_rfl
      have one8 : ∀ u ∈ ([.int .i64 E.knd, .int .i64 E.rdE, .int .i64 E.wrE, .int .i64 E'.vt, .slice A4 E'.fl.length c4, .slice A5 E'.bk.length c5, .slice A6 L5.length c6, .int .i64 E'.hd] : List Value), u.oneCell' = true := fun u hu => by
        simp only [List.mem_cons, List.not_mem_nil, or_false] at hu
        rcases hu with rfl | rfl | rfl | rfl | rfl | rfl | rfl | rfl <;> rfl
      have one9 : ∀ u ∈ ([.int .i64 i1, .int .i64 t1, .int .i64 k1', .int .i64 s1, .int .i64 n1, .string d1, .bool f1, .slice A m1.length c, .int .i64 tm] : List Value), u.oneCell' = true := fun u hu => by
        simp only [List.mem_cons, List.not_mem_nil, or_false] at hu
        rcases hu with rfl | rfl | rfl | rfl | rfl | rfl | rfl | rfl | rfl <;> rfl
      have ny1 := ny0.setRow_other (B := X) (i := 0) [.int .i64 E.knd, .int .i64 E.rdE, .int .i64 E.wrE, .int .i64 E'.vt, .slice A4 E'.fl.length c4, .slice A5 E'.bk.length c5, .slice A6 L5.length c6, .int .i64 E'.hd] (by omega)
      have nx2 := (nx0.setRow [.int .i64 E.knd, .int .i64 E.rdE, .int .i64 E.wrE, .int .i64 E'.vt, .slice A4 E'.fl.length c4, .slice A5 E'.bk.length c5, .slice A6 L5.length c6, .int .i64 E'.hd] rfl).setRow_other (B := w5.heap.size) (i := 0) [.int .i64 i1, .int .i64 t1, .int .i64 k1', .int .i64 s1, .int .i64 n1, .string d1, .bool f1, .slice A m1.length c, .int .i64 tm] (by omega)
      have ny2 := ny1.setRow [.int .i64 i1, .int .i64 t1, .int .i64 k1', .int .i64 s1, .int .i64 n1, .string d1, .bool f1, .slice A m1.length c, .int .i64 tm] rfl
      have ne2 := (ElN.offRow (ElN.newOff (hEN5) (Nat.le_refl _)) [.int .i64 i1, .int .i64 t1, .int .i64 k1', .int .i64 s1, .int .i64 n1, .string d1, .bool f1, .slice A m1.length c, .int .i64 tm] (i := 0) (ElN.setRow (B := X) (i := 0) [.int .i64 E.knd, .int .i64 E.rdE, .int .i64 E.wrE, .int .i64 E'.vt, .slice A4 E'.fl.length c4, .slice A5 E'.bk.length c5, .slice A6 L5.length c6, .int .i64 E'.hd] ne0 (by omega))).mono (base' := X + 1) (by omega)
      have nb2 := Bel.setRow (B := w5.heap.size) (i := 0) [.int .i64 i1, .int .i64 t1, .int .i64 k1', .int .i64 s1, .int .i64 n1, .string d1, .bool f1, .slice A m1.length c, .int .i64 tm] (Bel.setRow (B := X) (i := 0) [.int .i64 E.knd, .int .i64 E.rdE, .int .i64 E.wrE, .int .i64 E'.vt, .slice A4 E'.fl.length c4, .slice A5 E'.bk.length c5, .slice A6 L5.length c6, .int .i64 E'.hd] nb0 (by omega)) (by omega)
      simp only [List.toArray] at nx0 ny0 ny1 nx2 ny2 ne2 nb2
      rename_i hKK
      refine hKK _ _ ?_
      iterate 15 (first | go_step | go_upon | go_values)
      refine wpList_store_at rfl 31 _ _ rfl rfl rfl nx0 rfl one8 hi8 ?_
      refine wpList_store_at rfl 44 _ _ rfl rfl rfl ny1 rfl one9 hi9 ?_
      clear nx0 ny0 nbn ne0 nb0 ny1 one8 one9 hi8 hi9
      generalize setRow (setRow (w5.alloc (.cells #[.int .i64 0, .int .i64 0, .int .i64 0, .int .i64 0, .int .i64 0, .string ⟨#[]⟩, .bool false, .slice none 0 0, .int .i64 0] 44)) X 0 [.int .i64 E.knd, .int .i64 E.rdE, .int .i64 E.wrE, .int .i64 E'.vt, .slice A4 E'.fl.length c4, .slice A5 E'.bk.length c5, .slice A6 L5.length c6, .int .i64 E'.hd]) w5.heap.size 0 [.int .i64 i1, .int .i64 t1, .int .i64 k1', .int .i64 s1, .int .i64 n1, .string d1, .bool f1, .slice A m1.length c, .int .i64 tm] = NW at *
      generalize w5.heap.size = NY at *
      simp only [Act.put, Act.eval, List.setIfInBounds_toArray, List.set_cons_succ, List.set_cons_zero]
      go_upto_region 11 with fail
      obtain ⟨q1, q2, q3⟩ := HSM.out
      have HNX3 := Lib.hid (fun W (h : Bel NW W) => elNext_E E' 5 _ _ _ _ L5 [] W (X + 1) (ne2.keep h) hL5 hOK2 (BL.nil W))
      simp only [List.map_nil, q1, q2, q3] at HNX3
      obtain ⟨⟨F', u, b⟩, HR⟩ : ∃ R, Hid (nxtE E' 5 [] = R) := ⟨_, rfl⟩
      rw [HR.out] at HNX3 HFN
      obtain ⟨f1', f2', f3'⟩ := HFN.out
      simp only at f1' f2' f3' HNX3
      subst f1'
      obtain ⟨i2, t2, k2, s2, n2, d2, f2, m2, tn⟩ := u
      simp only at f2'
      subst f2'
      clear HR HFN HNX hEN5 hL5 hZ5 hb5 hX hEN hbr
      have k0 := (nx2).1.2 0 _ rfl
      have k1 := (nx2).1.2 1 _ rfl
      have k2 := (nx2).1.2 2 _ rfl
      have k3 := (nx2).1.2 3 _ rfl
      have k4 := (nx2).1.2 4 _ rfl
      have k5 := (nx2).1.2 5 _ rfl
      have k6 := (nx2).1.2 6 _ rfl
      have k7 := (nx2).1.2 7 _ rfl
      have kl := nx2.1.1
      go_wp2_with fail
      refine (HNX3.out _ (Bel.refl _)).mono ?_; rintro e w7 ⟨fl7, bu7, en7, L7, AA, cc, rfl, hEN7, hL7, hZ7, hb7⟩
      obtain ⟨A7, c7, rfl⟩ := own_slice hEN7.flo
      obtain ⟨A8, c8, rfl⟩ := own_slice hEN7.buo
      obtain ⟨A9, c9, hv9⟩ := own_slice hEN7.eno.bo.own
      subst hv9
      have HL7 : Hid (L7.length = 2) := by show _ = _; rw [← f3', ← hL7, List.length_map]
      clear f3'
      simp only [Bu.at]
      clear k0 k1 k2 k3 k4 k5 k6 k7 kl
      have hX7 := nx2.bel hb7
      have hb27 := nb2.trans hb7
      have hX2l := nx2.1.1
      clear nx2 ny2 ne2 nb2 hKK nxl
      have nx0 := (hX7).alloc (.cells [.int .i64 0, .int .i64 0, .int .i64 0, .int .i64 0, .int .i64 0, .string ⟨#[]⟩, .bool false, .slice none 0 0, .int .i64 0].toArray 44)
      have ny0 := AtF.new_at (w := w7) rfl 44 [.int .i64 0, .int .i64 0, .int .i64 0, .int .i64 0, .int .i64 0, .string ⟨#[]⟩, .bool false, .slice none 0 0, .int .i64 0]
      have nbn : Bel w7 (w7.alloc (.cells [.int .i64 0, .int .i64 0, .int .i64 0, .int .i64 0, .int .i64 0, .string ⟨#[]⟩, .bool false, .slice none 0 0, .int .i64 0].toArray 44)) := bI
      have ne0 := (hEN7).keep nbn
      have nb0 := (hb27).trans nbn
      have nxl : X < w7.heap.size := (hX7).1.1
      have hi8 : (Tryz.prog.info? 31).map (·.size) = some 8 := by kernel_rfl
      have hi9 : (Tryz.prog.info? 44).map (·.size) = some 9 := by kernel_rfl
      have one8 : ∀ u ∈ ([.int .i64 E.knd, .int .i64 E.rdE, .int .i64 E.wrE, .int .i64 F'.vt, .slice A7 F'.fl.length c7, .slice A8 F'.bk.length c8, .slice A9 L7.length c9, .int .i64 F'.hd] : List Value), u.oneCell' = true := fun u hu => by
        simp only [List.mem_cons, List.not_mem_nil, or_false] at hu
        rcases hu with rfl | rfl | rfl | rfl | rfl | rfl | rfl | rfl <;> rfl
      have one9 : ∀ u ∈ ([.int .i64 i2, .int .i64 1, .int .i64 k2, .int .i64 s2, .int .i64 n2, .string d2, .bool f2, .slice AA m2.length cc, .int .i64 tn] : List Value), u.oneCell' = true := fun u hu => by
        simp only [List.mem_cons, List.not_mem_nil, or_false] at hu
        rcases hu with rfl | rfl | rfl | rfl | rfl | rfl | rfl | rfl | rfl <;> rfl
      have ny1 := ny0.setRow_other (B := X) (i := 0) [.int .i64 E.knd, .int .i64 E.rdE, .int .i64 E.wrE, .int .i64 F'.vt, .slice A7 F'.fl.length c7, .slice A8 F'.bk.length c8, .slice A9 L7.length c9, .int .i64 F'.hd] (by omega)
      have nx2 := (nx0.setRow [.int .i64 E.knd, .int .i64 E.rdE, .int .i64 E.wrE, .int .i64 F'.vt, .slice A7 F'.fl.length c7, .slice A8 F'.bk.length c8, .slice A9 L7.length c9, .int .i64 F'.hd] rfl).setRow_other (B := w7.heap.size) (i := 0) [.int .i64 i2, .int .i64 1, .int .i64 k2, .int .i64 s2, .int .i64 n2, .string d2, .bool f2, .slice AA m2.length cc, .int .i64 tn] (by omega)
      have ny2 := ny1.setRow [.int .i64 i2, .int .i64 1, .int .i64 k2, .int .i64 s2, .int .i64 n2, .string d2, .bool f2, .slice AA m2.length cc, .int .i64 tn] rfl
      have ne2 := (ElN.offRow (ElN.newOff (hEN7) (Nat.le_refl _)) [.int .i64 i2, .int .i64 1, .int .i64 k2, .int .i64 s2, .int .i64 n2, .string d2, .bool f2, .slice AA m2.length cc, .int .i64 tn] (i := 0) (ElN.setRow (B := X) (i := 0) [.int .i64 E.knd, .int .i64 E.rdE, .int .i64 E.wrE, .int .i64 F'.vt, .slice A7 F'.fl.length c7, .slice A8 F'.bk.length c8, .slice A9 L7.length c9, .int .i64 F'.hd] ne0 (by omega))).mono (base' := X + 1) (by omega)
      have nb2 := Bel.setRow (B := w7.heap.size) (i := 0) [.int .i64 i2, .int .i64 1, .int .i64 k2, .int .i64 s2, .int .i64 n2, .string d2, .bool f2, .slice AA m2.length cc, .int .i64 tn] (Bel.setRow (B := X) (i := 0) [.int .i64 E.knd, .int .i64 E.rdE, .int .i64 E.wrE, .int .i64 F'.vt, .slice A7 F'.fl.length c7, .slice A8 F'.bk.length c8, .slice A9 L7.length c9, .int .i64 F'.hd] nb0 (by omega)) (by omega)
      simp only [List.toArray] at nx0 ny0 ny1 nx2 ny2 ne2 nb2
      rename_i hKK
      refine hKK _ _ ?_
      iterate 15 (first | go_step | go_upon | go_values)
      refine wpList_store_at rfl 31 _ _ rfl rfl rfl nx0 rfl one8 hi8 ?_
      refine wpList_store_at rfl 44 _ _ rfl rfl rfl ny1 rfl one9 hi9 ?_
      clear nx0 ny0 nbn ne0 nb0 ny1 one8 one9 hi8 hi9
      generalize setRow (setRow (w7.alloc (.cells #[.int .i64 0, .int .i64 0, .int .i64 0, .int .i64 0, .int .i64 0, .string ⟨#[]⟩, .bool false, .slice none 0 0, .int .i64 0] 44)) X 0 [.int .i64 E.knd, .int .i64 E.rdE, .int .i64 E.wrE, .int .i64 F'.vt, .slice A7 F'.fl.length c7, .slice A8 F'.bk.length c8, .slice A9 L7.length c9, .int .i64 F'.hd]) w7.heap.size 0 [.int .i64 i2, .int .i64 1, .int .i64 k2, .int .i64 s2, .int .i64 n2, .string d2, .bool f2, .slice AA m2.length cc, .int .i64 tn] = NW at *
      generalize w7.heap.size = NY at *
      simp only [Act.put, Act.eval, List.setIfInBounds_toArray, List.set_cons_succ, List.set_cons_zero]
      go_upto_region 12 with fail
      have k6 := nx2.1.2 6 _ rfl
      have kl := nx2.1.1
      have y1 := ny2.1.2 1 _ rfl
      have yl := ny2.1.1
      rw [HL7.out] at k6
      go_wp2
      go_ret
      exact ⟨rfl, nb2⟩
end Go.Proofs.YtpgjbocjhconoaaGreat
