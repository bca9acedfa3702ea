/- The reference's price and Next. -/
import Derived.Test.YtpgjbocjhconoaaGreatElRA
import Derived.Test.YtpgjbocjhconoaaGreatK11
import Derived.Test.YtpgjbocjhconoaaGreatRPd
import Derived.Test.YtpgjbocjhconoaaGreatRefPick
import Derived.Test.YtpgjbocjhconoaaGreatElI
import Derived.Deep.DeepCutAuto
namespace Go.Proofs.YtpgjbocjhconoaaGreat
open Go.RowKit Go.Maps
set_option linter.unusedSimpArgs false

set_option maxRecDepth 100000 in
set_option maxHeartbeats 8000000 in
theorem refPrice_any (knd rd wt V hd : Int) (fl bu en : Value) (bs : List Bk) (b : Bun) (k : Nat) (r u l t : Int) (w : World) (hb : Rd w bu 4 bs.length (bkc bs)) (hk : bs[k]? = some ⟨r, u, l, t⟩) (ht : (k : Int) = b.ten) :
    Calls Tryz.prog 43 #[.agg #[.int .i64 knd, .int .i64 rd, .int .i64 wt, .int .i64 V, fl, bu, en, .int .i64 hd], .agg #[.int .i64 (b).id, .int .i64 (b).ten, .int .i64 (b).knd, .int .i64 (b).sec, .int .i64 (b).cnt, .string (b).dat, .bool (b).fua, .slice (b).mA (b).mL (b).mC, .int .i64 (b).tim]] w fun e w' => e = .returned (.int .i64 (min b.cnt u)) ∧ Bel w w' := by
  have hkl := (List.getElem?_eq_some_iff.1 hk).1
  obtain ⟨g, o, c, rfl, hgl, hcx⟩ := hb.at (by omega)
  have q1 := hcx _ _ (bkc_at hk (j := 1) rfl)
  rw [← Nat.add_assoc] at q1
  have hmin : (if u < b.cnt then u else b.cnt) = min b.cnt u := by rw [Int.min_def]; split <;> split <;> omega
  have HMN := Lib.hid hmin
  have hbw : Bel w ((w.alloc (.cells [.int .i64 knd, .int .i64 rd, .int .i64 wt, .int .i64 V, fl, .slice (some ⟨g, o, none⟩) bs.length c, en, .int .i64 hd].toArray 31)).alloc (.cells [.int .i64 (b).id, .int .i64 (b).ten, .int .i64 (b).knd, .int .i64 (b).sec, .int .i64 (b).cnt, .string (b).dat, .bool (b).fua, .slice (b).mA (b).mL (b).mC, .int .i64 (b).tim].toArray 44)) := bI
  have hE := (AtF.new_at (w := w) rfl 31 [.int .i64 knd, .int .i64 rd, .int .i64 wt, .int .i64 V, fl, .slice (some ⟨g, o, none⟩) bs.length c, en, .int .i64 hd]).alloc (.cells [.int .i64 (b).id, .int .i64 (b).ten, .int .i64 (b).knd, .int .i64 (b).sec, .int .i64 (b).cnt, .string (b).dat, .bool (b).fua, .slice (b).mA (b).mL (b).mC, .int .i64 (b).tim].toArray 44)
  have hB := AtF.new_at (w := w.alloc (.cells [.int .i64 knd, .int .i64 rd, .int .i64 wt, .int .i64 V, fl, .slice (some ⟨g, o, none⟩) bs.length c, en, .int .i64 hd].toArray 31)) (g := w.heap.size + 1) (by simp) 44 [.int .i64 (b).id, .int .i64 (b).ten, .int .i64 (b).knd, .int .i64 (b).sec, .int .i64 (b).cnt, .string (b).dat, .bool (b).fua, .slice (b).mA (b).mL (b).mC, .int .i64 (b).tim]
  simp only [List.toArray] at hbw hE hB
  have q1 := (hbw.cellAt g _ hgl).trans q1
  have hkb : (k : Int) < (bs.length : Int) := by omega
  obtain ⟨n, Hn⟩ : ∃ n, Hid (bs.length = n) := ⟨_, rfl⟩
  rw [Hn.out] at hkb hE hB hbw q1 ⊢
  have HTE := Lib.hid ht
  obtain ⟨i1, t1, k1, s1, n1, d1, f1, a1, l1, c1, m1⟩ := b
  simp only at hE hB hbw q1 HTE HMN ht ⊢
  subst ht
  clear hmin hb hk hkl hcx
  go_enter Tryz.func43, Tryz.ntmps43
  go_upto_region 1 with fail
  generalize (w.alloc _).alloc _ = W at *
  obtain ⟨N, HN⟩ : ∃ N, Hid (w.heap.size = N) := ⟨_, rfl⟩
  rw [HN.out] at hE hB ⊢
  have e5 := hE.1.2 5 _ rfl
  have b4 := hB.1.2 4 _ rfl
  have b1 := hB.1.2 1 _ rfl
  have re5 := fun d os => cell_regrown e5 d os
  have rb4 := fun d os => cell_regrown b4 d os
  have rb1 := fun d os => cell_regrown b1 d os
  have rq1 := fun d os => cell_regrown q1 d os
  refine wp_region_lex [] 10 (by kernel_rfl) (by kernel_rfl) ?_
  simp only [List.take_succ_cons, List.take_zero, List.drop_succ_cons, List.drop_zero]
  with_reducible refine lex_seg 10 _ _ _ _ (by kernel_rfl) ?_
  simp only [List.take_succ_cons, List.take_zero, List.drop_succ_cons, List.drop_zero]
  try simp only [Act.put, List.setIfInBounds_toArray, List.set_cons_succ, List.set_cons_zero]
  repeat (go_big_quiet_step (fail))
  with_reducible refine wpQuiet_nil ?_
  with_reducible refine lex_nil ?_
  clear re5 rb4 rb1 rq1
  go_wp2
  · go_ret
    exact ⟨by have e : min n1 u = u := by omega
              rw [e]; rfl, bI⟩
  · go_ret
    exact ⟨by have e : min n1 u = n1 := by omega
              rw [e]; rfl, bI⟩

theorem firstT_snoc (b : Bool) : ∀ a : List Bool, firstT (a ++ [b]) = match firstT a with
    | some k => some k
    | none => if b then some a.length else none
  | [] => by cases b <;> rfl
  | true :: a => rfl
  | false :: a => by
    have ih := firstT_snoc b a
    show (firstT (a ++ [b])).map (· + 1) = _
    rw [ih]
    show _ = match (firstT a).map (· + 1) with | some k => some k | none => if b then some (a.length + 1) else none
    cases firstT a <;> cases b <;> rfl
theorem payB_at {bs : List Bk} {k : Nat} {x : Bk} {t n now : Int} (hk : bs[k]? = some x) (ht : (k : Int) = t) : payB bs t n now = takeB x now (min n x.burst) := by
  have hb : bktE bs t n = (x, min n x.burst, true) := by
    unfold bktE
    rw [if_pos (by omega), show t.toNat = k by omega, hk]
  unfold payB
  rw [hb]
  rfl
/-- The first that may be sent, as a number. -/
def fz (l : List Bool) (i : Nat) : Int := match firstT (l.take i) with
  | some k => (k : Int)
  | none => -1
theorem fz_step {l : List Bool} {i : Nat} {b : Bool} (h : l[i]? = some b) : fz l (i + 1) = if b = true ∧ fz l i < 0 then (i : Int) else fz l i := by
  have hl := (List.getElem?_eq_some_iff.1 h).1
  unfold fz
  rw [List.take_add_one, h]
  show (match firstT (l.take i ++ [b]) with | some k => (k : Int) | none => -1) = _
  rw [firstT_snoc]
  cases hf : firstT (l.take i) with
  | some k =>
    show (k : Int) = if b = true ∧ (k : Int) < 0 then (i : Int) else (k : Int)
    rw [if_neg (by omega)]
  | none =>
    cases b
    · rfl
    · show (match (if true = true then some (l.take i).length else none) with | some k => (k : Int) | none => -1) = if true = true ∧ (-1 : Int) < 0 then (i : Int) else -1
      rw [if_pos rfl, if_pos (by decide), List.length_take, Nat.min_eq_left (by omega)]
theorem fz_end {l : List Bool} : fz l l.length = match firstT l with
    | some k => (k : Int)
    | none => -1 := by
  unfold fz
  rw [List.take_length]
set_option maxRecDepth 100000 in
set_option maxHeartbeats 16000000 in
theorem refElNext_any (knd rd wt V hd now : Int) (fl bu en bv : Value) (fs : List (Int × Int)) (bs : List Bk) (L : List QM) (B : List BM) (w : World) (hR : ElR w fl bu en fs bs L) (hB : BL w bv B)
    (hfn : fs.length ≤ 1000) (hbn : bs.length ≤ 1000) (hn : L.length ≤ 100) (hten : ∀ x ∈ L, 0 ≤ x.q.b.ten ∧ x.q.b.ten < bs.length) (hsc : ∀ x ∈ L, IsInt (x.q.b.sec + x.q.b.cnt)) :
    Calls Tryz.prog 12 #[.agg #[.int .i64 knd, .int .i64 rd, .int .i64 wt, .int .i64 V, fl, bu, en, .int .i64 hd], .int .i64 now, bv] w fun e w' => ∃ fl' bu' en' L' A c,
      e = .returned (.tuple #[.agg #[.int .i64 knd, .int .i64 rd, .int .i64 wt, .int .i64 (nxtE ⟨knd, rd, wt, V, fs, bs, L.map QM.qu, hd⟩ now (B.map BM.bu)).1.vt, fl', bu', en', .int .i64 (nxtE ⟨knd, rd, wt, V, fs, bs, L.map QM.qu, hd⟩ now (B.map BM.bu)).1.hd], .agg #[.int .i64 (((nxtE ⟨knd, rd, wt, V, fs, bs, L.map QM.qu, hd⟩ now (B.map BM.bu)).2.1.at A c)).id, .int .i64 (((nxtE ⟨knd, rd, wt, V, fs, bs, L.map QM.qu, hd⟩ now (B.map BM.bu)).2.1.at A c)).ten, .int .i64 (((nxtE ⟨knd, rd, wt, V, fs, bs, L.map QM.qu, hd⟩ now (B.map BM.bu)).2.1.at A c)).knd, .int .i64 (((nxtE ⟨knd, rd, wt, V, fs, bs, L.map QM.qu, hd⟩ now (B.map BM.bu)).2.1.at A c)).sec, .int .i64 (((nxtE ⟨knd, rd, wt, V, fs, bs, L.map QM.qu, hd⟩ now (B.map BM.bu)).2.1.at A c)).cnt, .string (((nxtE ⟨knd, rd, wt, V, fs, bs, L.map QM.qu, hd⟩ now (B.map BM.bu)).2.1.at A c)).dat, .bool (((nxtE ⟨knd, rd, wt, V, fs, bs, L.map QM.qu, hd⟩ now (B.map BM.bu)).2.1.at A c)).fua, .slice (((nxtE ⟨knd, rd, wt, V, fs, bs, L.map QM.qu, hd⟩ now (B.map BM.bu)).2.1.at A c)).mA (((nxtE ⟨knd, rd, wt, V, fs, bs, L.map QM.qu, hd⟩ now (B.map BM.bu)).2.1.at A c)).mL (((nxtE ⟨knd, rd, wt, V, fs, bs, L.map QM.qu, hd⟩ now (B.map BM.bu)).2.1.at A c)).mC, .int .i64 (((nxtE ⟨knd, rd, wt, V, fs, bs, L.map QM.qu, hd⟩ now (B.map BM.bu)).2.1.at A c)).tim], .bool (nxtE ⟨knd, rd, wt, V, fs, bs, L.map QM.qu, hd⟩ now (B.map BM.bu)).2.2]) ∧
      ElR w' fl' bu' en' (nxtE ⟨knd, rd, wt, V, fs, bs, L.map QM.qu, hd⟩ now (B.map BM.bu)).1.fl (nxtE ⟨knd, rd, wt, V, fs, bs, L.map QM.qu, hd⟩ now (B.map BM.bu)).1.bk L' ∧ L'.map QM.qu = (nxtE ⟨knd, rd, wt, V, fs, bs, L.map QM.qu, hd⟩ now (B.map BM.bu)).1.en ∧
      Mems w' ((nxtE ⟨knd, rd, wt, V, fs, bs, L.map QM.qu, hd⟩ now (B.map BM.bu)).2.1.at A c) (nxtE ⟨knd, rd, wt, V, fs, bs, L.map QM.qu, hd⟩ now (B.map BM.bu)).2.1.ms ∧ (∀ N < w.heap.size, Off N fl bu en L → Off N fl' bu' en' L') ∧ Bel w w' := by
  have HRR := Lib.hid hR
  have HBB := Lib.hid hB
  have HTN := Lib.hid hten
  have HSC := Lib.hid hsc
  have HBK := Lib.hid (fun w' (h : Bel w w') (i : Nat) => refBlocked_any L i B en bv w' (hR.q.bel h) (hB.bel h))
  have HSV := Lib.hid (fun w' (h : Bel w w') (s : Int) => refServe_any V s fs fl w' (hR.f.bel h) hfn)
  have HPD := Lib.hid (fun w' (h : Bel w w') (may : List Bool) (mv : Value) (hm : Rd w' mv 1 may.length (bcells may)) => refPickDue_any L may hd now en mv w' (hR.q.bel h) hm (by omega))
  have HPF := Lib.hid (fun w' (h : Bel w w') (may : List Bool) (mv : Value) (hm : Rd w' mv 1 may.length (bcells may)) => refPick_any (L.map QM.q) may en mv w' (by rw [List.length_map]; exact hR.q.rd.bel h) hm)
  obtain ⟨Af, cf, rfl, _, _⟩ := hR.f.form
  obtain ⟨Ab, cb, rfl, _, _⟩ := hR.b.form
  obtain ⟨Ae, ce, rfl, _, hce⟩ := hR.q.form
  obtain ⟨Av, cv, rfl, _, _⟩ := hB.form
  unfold maxLen at hce
  have HPR := Lib.hid (fun w' (h : Bel w w') (b : Bun) (k : Nat) (r u l t : Int) (hk : bs[k]? = some ⟨r, u, l, t⟩) (ht : (k : Int) = b.ten) => refPrice_any knd rd wt V hd (.slice Af fs.length cf) _ (.slice Ae L.length ce) bs b k r u l t w' (hR.b.bel h) hk ht)
  obtain ⟨E, HE⟩ : ∃ E, Hid (E = (⟨knd, rd, wt, V, fs, bs, L.map QM.qu, hd⟩ : El)) := ⟨_, rfl⟩
  rw [← HE.out]
  obtain ⟨R, HR⟩ : ∃ R, Hid (nxtE E now (B.map BM.bu) = R) := ⟨_, rfl⟩
  rw [HR.out]
  obtain ⟨l, HL⟩ : ∃ l, Hid (mayE E now (B.map BM.bu) = l) := ⟨_, rfl⟩
  have hll : l.length = L.length := by rw [← HL.out, HE.out]; simp [mayE]
  have HLA : Hid (∀ (i : Nat) (x : QM), L[i]? = some x → l[i]? = some ((payB bs x.q.b.ten x.q.b.cnt now).2 && !blk L i B)) := by
    intro i x hx
    have hil := (List.getElem?_eq_some_iff.1 hx).1
    have hEn : E.en = L.map QM.qu := by rw [HE.out]
    rw [← HL.out]
    unfold mayE
    rw [List.getElem?_map, List.getElem?_range (by rw [hEn, List.length_map]; exact hil)]
    have h2 : E.en[i]? = some x.qu := by rw [hEn, List.getElem?_map, hx]; rfl
    simp only [Option.map_some, h2]
    have h3 : E.bk = bs := by rw [HE.out]
    rw [← payB_E, h3, blk_natE, blkN_Q E.en L hEn.symm]
    rfl
  have HCC : Hid (choL knd L l hd now = choE E l now) := by
    have := choE_L E L (by rw [HE.out]) l now
    show _ = _
    rw [← this, HE.out]
  obtain ⟨C, HC⟩ : ∃ C, Hid (choE E l now = C) := ⟨_, rfl⟩
  rw [HC.out] at HCC
  obtain ⟨n, Hn⟩ : ∃ n, Hid (L.length = n) := ⟨_, rfl⟩
  have HLL : Hid (l.length = n) := by show _ = _; rw [hll, Hn.out]
  simp only [List.length_map] at HPF
  rw [Hn.out] at HRR HBK HPR HPD HPF hn ⊢
  have hmk : ∀ w, (Instr.makeSlice 77 (.int .i64 (n : Int)) (.int .i64 (n : Int))).run Tryz.prog w = .ok (.slice (some ⟨w.heap.size, 0, none⟩) n n) (w.alloc (.cells (bcells (laidB l 0)).toArray 4)) := by
    intro w
    have h1 := run_make_row' (P := Tryz.prog) 77 4 (.bool false) 1 Tryz.underlying77 Tryz.infoBoolE rfl .i64 .i64 n (by omega) (by omega) w
    have h2 : madeCells #[.bool false] n = (bcells (laidB l 0)).toArray := by
      apply Array.toList_inj.1
      rw [toList_madeCells_one, laidB_zero, HLL.out]; simp [bcells]
    rw [h2] at h1
    exact h1
  have hbw : Bel w (((w.alloc (.cells [.int .i64 knd, .int .i64 rd, .int .i64 wt, .int .i64 V, .slice Af fs.length cf, .slice Ab bs.length cb, .slice Ae n ce, .int .i64 hd].toArray 31)).alloc (.cells [.int .i64 0, .int .i64 0, .int .i64 0, .int .i64 0, .slice none 0 0, .slice none 0 0, .slice none 0 0, .int .i64 0].toArray 31)).alloc (.cells [.int .i64 0, .int .i64 0, .int .i64 0, .int .i64 0, .int .i64 0, .string ⟨#[]⟩, .bool false, .slice none 0 0, .int .i64 0].toArray 44)) := bI
  have hE := ((AtF.new_at (w := w) rfl 31 [.int .i64 knd, .int .i64 rd, .int .i64 wt, .int .i64 V, .slice Af fs.length cf, .slice Ab bs.length cb, .slice Ae n ce, .int .i64 hd]).alloc (.cells [.int .i64 0, .int .i64 0, .int .i64 0, .int .i64 0, .slice none 0 0, .slice none 0 0, .slice none 0 0, .int .i64 0].toArray 31)).alloc (.cells [.int .i64 0, .int .i64 0, .int .i64 0, .int .i64 0, .int .i64 0, .string ⟨#[]⟩, .bool false, .slice none 0 0, .int .i64 0].toArray 44)
  have hP := (AtF.new_at (w := (w.alloc (.cells [.int .i64 knd, .int .i64 rd, .int .i64 wt, .int .i64 V, .slice Af fs.length cf, .slice Ab bs.length cb, .slice Ae n ce, .int .i64 hd].toArray 31))) (g := w.heap.size + 1) (by simp) 31 [.int .i64 0, .int .i64 0, .int .i64 0, .int .i64 0, .slice none 0 0, .slice none 0 0, .slice none 0 0, .int .i64 0]).alloc (.cells [.int .i64 0, .int .i64 0, .int .i64 0, .int .i64 0, .int .i64 0, .string ⟨#[]⟩, .bool false, .slice none 0 0, .int .i64 0].toArray 44)
  have hQ := AtF.new_at (w := ((w.alloc (.cells [.int .i64 knd, .int .i64 rd, .int .i64 wt, .int .i64 V, .slice Af fs.length cf, .slice Ab bs.length cb, .slice Ae n ce, .int .i64 hd].toArray 31)).alloc (.cells [.int .i64 0, .int .i64 0, .int .i64 0, .int .i64 0, .slice none 0 0, .slice none 0 0, .slice none 0 0, .int .i64 0].toArray 31))) (g := w.heap.size + 2) (by simp) 44 [.int .i64 0, .int .i64 0, .int .i64 0, .int .i64 0, .int .i64 0, .string ⟨#[]⟩, .bool false, .slice none 0 0, .int .i64 0]
  have hws : (((w.alloc (.cells [.int .i64 knd, .int .i64 rd, .int .i64 wt, .int .i64 V, .slice Af fs.length cf, .slice Ab bs.length cb, .slice Ae n ce, .int .i64 hd].toArray 31)).alloc (.cells [.int .i64 0, .int .i64 0, .int .i64 0, .int .i64 0, .slice none 0 0, .slice none 0 0, .slice none 0 0, .int .i64 0].toArray 31)).alloc (.cells [.int .i64 0, .int .i64 0, .int .i64 0, .int .i64 0, .int .i64 0, .string ⟨#[]⟩, .bool false, .slice none 0 0, .int .i64 0].toArray 44)).heap.size = w.heap.size + 3 := by simp
  simp only [List.toArray] at hbw hE hP hQ hws
  clear hR hB hfn hten hsc hll
  go_enter Tryz.func12, Tryz.ntmps12
  go_upto_region 1 with fail
  generalize (((w.alloc (.cells #[.int .i64 knd, .int .i64 rd, .int .i64 wt, .int .i64 V, .slice Af fs.length cf, .slice Ab bs.length cb, .slice Ae n ce, .int .i64 hd] 31)).alloc (.cells #[.int .i64 0, .int .i64 0, .int .i64 0, .int .i64 0, .slice none 0 0, .slice none 0 0, .slice none 0 0, .int .i64 0] 31)).alloc (.cells #[.int .i64 0, .int .i64 0, .int .i64 0, .int .i64 0, .int .i64 0, .string ⟨#[]⟩, .bool false, .slice none 0 0, .int .i64 0] 44)) = W at *
  obtain ⟨N, HN⟩ : ∃ N, Hid (w.heap.size = N) := ⟨_, rfl⟩
  rw [HN.out] at hE hP hQ hws ⊢
  have hNw : w.heap.size ≤ N := Nat.le_of_eq HN.out
  have e6 := hE.1.2 6 _ rfl
  have el := hE.1.1
  have hM := AtF.new_at (w := W) hws.symm 4 (bcells (laidB l 0))
  have hbm : Bel W (W.alloc (.cells (bcells (laidB l 0)).toArray 4)) := bI
  go_wp2

  obtain ⟨WM, HWM⟩ : ∃ X, Hid (X = W.alloc (.cells (bcells (laidB l 0)).toArray 4)) := ⟨_, rfl⟩
  rw [← HWM.out] at hM hbm ⊢
  clear HWM e6 el hmk
  go_loopw [10, 11] (fun fv iv wr => ∃ i : Nat, iv = .int .i64 i ∧ fv = .int .i64 (fz l i) ∧ i ≤ n ∧ AtF wr (N + 3) (bcells (laidB l i)) ∧ Bel W wr) (fun _ iv _ => n - (intOf iv).toNat)
  case atStart => exact ⟨0, rfl, rfl, by omega, hM, hbm⟩
  case round =>
    clear hM hbm
    obtain ⟨i, rfl, rfl, p1, hM, hbr⟩ := hrel
    obtain ⟨W2, rfl⟩ : ∃ X, X = wr := ⟨_, rfl⟩
    by_cases hlt : i < n
    · have hin : (i : Int) < (n : Int) := by omega
      obtain ⟨x, hx⟩ : ∃ x, L[i]? = some x := ⟨L[i]'(by have := Hn.out; omega), List.getElem?_eq_getElem _⟩
      have hbw2 := hbw.trans hbr
      obtain ⟨g, o, cx, hat⟩ := (HRR.out.q.bel hbw2).at hx
      have hf := hat.form
      injection hf with hf1 hf2 hf3
      subst hf1 hf3
      clear hf2
      have hrow := hat.row
      have hgl := hat.lt
      have HLI := Lib.hid (HLA.out i x hx)
      obtain ⟨h0, h4⟩ := HTN.out x (List.mem_of_getElem? hx)
      obtain ⟨tq, htq⟩ : ∃ k : Nat, (k : Int) = x.q.b.ten := ⟨x.q.b.ten.toNat, by omega⟩
      obtain ⟨⟨br, bb, bl, bt⟩, hbq⟩ : ∃ k, bs[tq]? = some k := ⟨bs[tq]'(by omega), List.getElem?_eq_getElem _⟩
      obtain ⟨gb, ob, cb', hfb, hgb, hcb⟩ := (HRR.out.b.bel hbw2).at (show 0 < bs.length by omega)
      injection hfb with hf1 hf2 hf3
      subst hf1 hf3
      clear hf2
      have z0 := hcb _ _ (bkc_at hbq (j := 0) rfl)
      have z1 := hcb _ _ (bkc_at hbq (j := 1) rfl)
      have z2 := hcb _ _ (bkc_at hbq (j := 2) rfl)
      have z3 := hcb _ _ (bkc_at hbq (j := 3) rfl)
      simp only [Nat.add_zero, ← Nat.add_assoc] at z0 z1 z2 z3
      have hpb : payB bs x.q.b.ten x.q.b.cnt now = takeB ⟨br, bb, bl, bt⟩ now (min x.q.b.cnt bb) := payB_at hbq htq
      obtain ⟨⟨pk, pd⟩, HP0⟩ : ∃ r, Hid (payB bs x.q.b.ten x.q.b.cnt now = r) := ⟨_, rfl⟩
      have HTK := Lib.hid (fun W' => refTake_any br bb bl bt now (min x.q.b.cnt bb) W')
      rw [← hpb, HP0.out] at HTK
      rw [HP0.out] at HLI
      have HPR2 := Lib.hid (fun W' (h : Bel W2 W') => HPR.out W' (hbw2.trans h) x.q.b tq br bb bl bt hbq htq)
      have HBK2 := Lib.hid (fun W' (h : Bel W2 W') => HBK.out W' (hbw2.trans h) i)
      obtain ⟨bk, HBK0⟩ : ∃ r, Hid (blk L i B = r) := ⟨_, rfl⟩
      rw [HBK0.out] at HBK2 HLI
      have htb : (tq : Int) < (bs.length : Int) := by omega
      clear hat hx hpb hcb hbq h0 h4
      obtain ⟨⟨⟨i2, t2, k2, s2, n2, d2, f2, a2, l2, c2, m2⟩, du, st, tr⟩, ms2⟩ := x
      obtain ⟨qr, qu, ql, qt⟩ := pk
      simp only at hrow HPR2 HLI HTK htq
      subst htq
      simp only [bv] at HTK
      have hE2 := hE.bel hbr
      have e6 := hE2.1.2 6 _ rfl
      have el := hE2.1.1
      have q0 := (hrow).cell 0 rfl
      have q1 := (hrow).cell 1 rfl
      have q2 := (hrow).cell 2 rfl
      have q3 := (hrow).cell 3 rfl
      have q4 := (hrow).cell 4 rfl
      have q5 := (hrow).cell 5 rfl
      have q6 := (hrow).cell 6 rfl
      have q7 := (hrow).cell 7 rfl
      have q8 := (hrow).cell 8 rfl
      have q9 := (hrow).cell 9 rfl
      have q10 := (hrow).cell 10 rfl
      have q11 := (hrow).cell 11 rfl
      rw [Nat.add_zero] at q0
      have hbx := AtF.new_at (w := W2) rfl 44 [.int .i64 i2, .int .i64 (tq : Int), .int .i64 k2, .int .i64 s2, .int .i64 n2, .string d2, .bool f2, .slice a2 l2 c2, .int .i64 m2]
      have hbn : Bel W2 (W2.alloc (.cells [.int .i64 i2, .int .i64 (tq : Int), .int .i64 k2, .int .i64 s2, .int .i64 n2, .string d2, .bool f2, .slice a2 l2 c2, .int .i64 m2].toArray 44)) := bI
      have hE3 := hE2.bel hbn
      have z0 := (hbn.cellAt gb _ hgb).trans z0
      have z1 := (hbn.cellAt gb _ hgb).trans z1
      have z2 := (hbn.cellAt gb _ hgb).trans z2
      have z3 := (hbn.cellAt gb _ hgb).trans z3
      simp only [List.toArray] at hbx hbn hE3 z0 z1 z2 z3
      go_upto_region 7 with fail
      clear q0 q1 q2 q3 q4 q5 q6 q7 q8 q9 q10 q11 e6 el hrow hE2
      generalize W2.alloc _ = W3 at *
      generalize W2.heap.size = BX at *
      go_cut [14] (fun v wx => v = .bool pd ∧ Bel W3 wx)
      case first =>
        have e0 := (hE3).1.2 0 _ rfl
        have e1 := (hE3).1.2 1 _ rfl
        have e2 := (hE3).1.2 2 _ rfl
        have e3 := (hE3).1.2 3 _ rfl
        have e4 := (hE3).1.2 4 _ rfl
        have e5 := (hE3).1.2 5 _ rfl
        have e6 := (hE3).1.2 6 _ rfl
        have e7 := (hE3).1.2 7 _ rfl
        have re0 := fun d os => cell_regrown e0 d os
        have re1 := fun d os => cell_regrown e1 d os
        have re2 := fun d os => cell_regrown e2 d os
        have re3 := fun d os => cell_regrown e3 d os
        have re4 := fun d os => cell_regrown e4 d os
        have re5 := fun d os => cell_regrown e5 d os
        have re6 := fun d os => cell_regrown e6 d os
        have re7 := fun d os => cell_regrown e7 d os
        have el := hE3.1.1
        have y0 := (hbx).1.2 0 _ rfl
        have y1 := (hbx).1.2 1 _ rfl
        have y2 := (hbx).1.2 2 _ rfl
        have y3 := (hbx).1.2 3 _ rfl
        have y4 := (hbx).1.2 4 _ rfl
        have y5 := (hbx).1.2 5 _ rfl
        have y6 := (hbx).1.2 6 _ rfl
        have y7 := (hbx).1.2 7 _ rfl
        have y8 := (hbx).1.2 8 _ rfl
        have ry0 := fun d os => cell_regrown y0 d os
        have ry1 := fun d os => cell_regrown y1 d os
        have ry2 := fun d os => cell_regrown y2 d os
        have ry3 := fun d os => cell_regrown y3 d os
        have ry4 := fun d os => cell_regrown y4 d os
        have ry5 := fun d os => cell_regrown y5 d os
        have ry6 := fun d os => cell_regrown y6 d os
        have ry7 := fun d os => cell_regrown y7 d os
        have ry8 := fun d os => cell_regrown y8 d os
        have yl := hbx.1.1
        have rz0 := fun d os => cell_regrown z0 d os
        have rz1 := fun d os => cell_regrown z1 d os
        have rz2 := fun d os => cell_regrown z2 d os
        have rz3 := fun d os => cell_regrown z3 d os
        clear e0 e1 e2 e3 e4 e5 e6 e7 y0 y1 y2 y3 y4 y5 y6 y7 y8 z0 z1 z2 z3
        refine wp_region_st [9, 10, 14, 15] 16 (by kernel_rfl) (by kernel_rfl) ?_
        with_reducible refine st_sel [0, 1, 2, 3, 4, 5, 6, 7, 8] (by kernel_rfl) (by kernel_rfl) ?_
        simp only [picked, List.getElem?_cons_succ, List.getElem?_cons_zero, Option.toList_some, List.nil_append, List.cons_append, List.append_nil]
        try simp only [Act.put, List.setIfInBounds_toArray, List.set_cons_succ, List.set_cons_zero]
        repeat (go_big_quiet_step (fail))
        with_reducible refine wpQuiet_nil ?_
        refine st_branch [9, 14] (by kernel_rfl) (branch_cons (by simp only [List.getElem?_toArray, List.getElem?_cons_succ, List.getElem?_cons_zero]; rfl) ?_ (branch_cons (by simp only [List.getElem?_toArray, List.getElem?_cons_succ, List.getElem?_cons_zero]; rfl) ?_ branch_nil))
        · skip
          refine eff_call 43 rfl (by simp [go_sem]; rfl) bI ?_
          refine (HPR2.out _ (hbn.trans bI)).mono ?_; rintro e w5 ⟨rfl, hb5⟩
          refine ⟨_, rfl, hb5, ?_⟩
          try simp only [List.nil_append, List.cons_append, Act.put, List.setIfInBounds_toArray, List.set_cons_succ, List.set_cons_zero]
          refine st_branch [10, 14] (by kernel_rfl) (branch_cons (by simp only [List.getElem?_toArray, List.getElem?_cons_succ, List.getElem?_cons_zero]; rfl) ?_ (branch_cons (by simp only [List.getElem?_toArray, List.getElem?_cons_succ, List.getElem?_cons_zero]; rfl) ?_ branch_nil))
          · skip
            refine eff_call 42 rfl (by simp [go_sem]; rfl) bI ?_
            refine (HTK.out _).mono ?_; rintro e w6 ⟨rfl, hb6⟩
            refine ⟨_, rfl, hb6, ?_⟩
            try simp only [List.nil_append, List.cons_append, Act.put, List.setIfInBounds_toArray, List.set_cons_succ, List.set_cons_zero]
            with_reducible refine st_sel [11, 12, 13] (by kernel_rfl) (by kernel_rfl) ?_
            simp only [picked, List.getElem?_cons_succ, List.getElem?_cons_zero, Option.toList_some, List.nil_append, List.cons_append, List.append_nil]
            try simp only [Act.put, List.setIfInBounds_toArray, List.set_cons_succ, List.set_cons_zero]
            repeat (go_big_quiet_step (fail))
            with_reducible refine wpQuiet_nil ?_
            refine st_branch [14] (by kernel_rfl) (branch_cons (by simp only [List.getElem?_toArray, List.getElem?_cons_succ, List.getElem?_cons_zero]; rfl) ?_ branch_nil)
            refine eff_made rfl (by simp [go_sem]; exact ⟨rfl, rfl⟩) bI ?_
            try simp only [List.nil_append, List.cons_append, Act.put, List.setIfInBounds_toArray, List.set_cons_succ, List.set_cons_zero]
            refine st_branch [15] (by kernel_rfl) (branch_cons (by simp only [List.getElem?_toArray, List.getElem?_cons_succ, List.getElem?_cons_zero]; rfl) ?_ branch_nil)
            have hYY := AtF.new_at (w := w6) rfl 54 [.int .i64 0, .int .i64 0, .int .i64 0, .int .i64 0]
            have hBW : Bel W3 (w6.alloc (.cells [.int .i64 0, .int .i64 0, .int .i64 0, .int .i64 0].toArray 54)) := (((Bel.refl W3).drew.trans hb5).trans hb6).trans ((Bel.refl w6).alloc _)
            have hYl : W3.heap.size ≤ w6.heap.size := by have h1 := hb5.size; have h2 := hb6.size; simp only [World.size_drew] at h1; omega
            simp only [List.toArray] at hYY hBW
            have one4 : ∀ u ∈ ([.int .i64 qr, .int .i64 qu, .int .i64 ql, .int .i64 qt] : List Value), u.oneCell' = true := fun u hu => by
              simp only [List.mem_cons, List.not_mem_nil, or_false] at hu
              rcases hu with rfl | rfl | rfl | rfl <;> rfl
            have hF3 := Bel.setRow (B := w6.heap.size) (i := 0) [.int .i64 qr, .int .i64 qu, .int .i64 ql, .int .i64 qt] hBW hYl
            have HFF := Lib.hid hF3
            with_reducible refine eff_done (w' := setRow (w6.alloc (.cells #[.int .i64 0, .int .i64 0, .int .i64 0, .int .i64 0] 54)) (w6.heap.size) 0 [.int .i64 qr, .int .i64 qu, .int .i64 ql, .int .i64 qt]) ?_ ?_ ?_ ?_
            · rfl
            · exact exec_store_at (vs := [.int .i64 qr, .int .i64 qu, .int .i64 ql, .int .i64 qt]) 54 _ _ rfl rfl rfl hYY rfl one4 (by kernel_rfl)
            · exact hF3
            try simp only [List.nil_append, List.cons_append, Act.put, List.setIfInBounds_toArray, List.set_cons_succ, List.set_cons_zero]
            clear hF3 hYY hBW hYl one4
            generalize setRow (w6.alloc (.cells #[.int .i64 0, .int .i64 0, .int .i64 0, .int .i64 0] 54)) (w6.heap.size) 0 [.int .i64 qr, .int .i64 qu, .int .i64 ql, .int .i64 qt] = WF at HFF ⊢
            refine st_end (by kernel_rfl) ?_
            simp only [List.drop_succ_cons, List.drop_zero, List.drop_nil]
            go_wp2_with fail
            go_meet
            exact ⟨rfl, HFF.out⟩
          · skip
            refine eff_made rfl (by simp [go_sem]; exact ⟨rfl, rfl⟩) bI ?_
            try simp only [List.nil_append, List.cons_append, Act.put, List.setIfInBounds_toArray, List.set_cons_succ, List.set_cons_zero]
            refine st_branch [10] (by kernel_rfl) (branch_cons (by simp only [List.getElem?_toArray, List.getElem?_cons_succ, List.getElem?_cons_zero]; rfl) ?_ branch_nil)
            refine eff_call 42 rfl (by simp [go_sem]; rfl) bI ?_
            refine (HTK.out _).mono ?_; rintro e w6 ⟨rfl, hb6⟩
            refine ⟨_, rfl, hb6, ?_⟩
            try simp only [List.nil_append, List.cons_append, Act.put, List.setIfInBounds_toArray, List.set_cons_succ, List.set_cons_zero]
            with_reducible refine st_sel [11, 12, 13] (by kernel_rfl) (by kernel_rfl) ?_
            simp only [picked, List.getElem?_cons_succ, List.getElem?_cons_zero, Option.toList_some, List.nil_append, List.cons_append, List.append_nil]
            try simp only [Act.put, List.setIfInBounds_toArray, List.set_cons_succ, List.set_cons_zero]
            repeat (go_big_quiet_step (fail))
            with_reducible refine wpQuiet_nil ?_
            refine st_branch [15] (by kernel_rfl) (branch_cons (by simp only [List.getElem?_toArray, List.getElem?_cons_succ, List.getElem?_cons_zero]; rfl) ?_ branch_nil)
            have hYY := (AtF.new_at (w := w5) rfl 54 [.int .i64 0, .int .i64 0, .int .i64 0, .int .i64 0]).bel hb6
            have hBW : Bel W3 w6 := ((Bel.refl W3).drew.trans hb5).trans (((Bel.refl w5).alloc _).trans hb6)
            have hYl : W3.heap.size ≤ w5.heap.size := by have h1 := hb5.size; simp only [World.size_drew] at h1; omega
            have one4 : ∀ u ∈ ([.int .i64 qr, .int .i64 qu, .int .i64 ql, .int .i64 qt] : List Value), u.oneCell' = true := fun u hu => by
              simp only [List.mem_cons, List.not_mem_nil, or_false] at hu
              rcases hu with rfl | rfl | rfl | rfl <;> rfl
            have hF3 := Bel.setRow (B := w5.heap.size) (i := 0) [.int .i64 qr, .int .i64 qu, .int .i64 ql, .int .i64 qt] hBW hYl
            have HFF := Lib.hid hF3
            with_reducible refine eff_done (w' := setRow (w6) (w5.heap.size) 0 [.int .i64 qr, .int .i64 qu, .int .i64 ql, .int .i64 qt]) ?_ ?_ ?_ ?_
            · rfl
            · exact exec_store_at (vs := [.int .i64 qr, .int .i64 qu, .int .i64 ql, .int .i64 qt]) 54 _ _ rfl rfl rfl hYY rfl one4 (by kernel_rfl)
            · exact hF3
            try simp only [List.nil_append, List.cons_append, Act.put, List.setIfInBounds_toArray, List.set_cons_succ, List.set_cons_zero]
            clear hF3 hYY hBW hYl one4
            generalize setRow (w6) (w5.heap.size) 0 [.int .i64 qr, .int .i64 qu, .int .i64 ql, .int .i64 qt] = WF at HFF ⊢
            refine st_end (by kernel_rfl) ?_
            simp only [List.drop_succ_cons, List.drop_zero, List.drop_nil]
            go_wp2_with fail
            go_meet
            exact ⟨rfl, HFF.out⟩
        · skip
          refine eff_made rfl (by simp [go_sem]; exact ⟨rfl, rfl⟩) bI ?_
          try simp only [List.nil_append, List.cons_append, Act.put, List.setIfInBounds_toArray, List.set_cons_succ, List.set_cons_zero]
          refine st_branch [9] (by kernel_rfl) (branch_cons (by simp only [List.getElem?_toArray, List.getElem?_cons_succ, List.getElem?_cons_zero]; rfl) ?_ branch_nil)
          refine eff_call 43 rfl (by simp [go_sem]; rfl) bI ?_
          refine (HPR2.out _ (hbn.trans bI)).mono ?_; rintro e w5 ⟨rfl, hb5⟩
          refine ⟨_, rfl, hb5, ?_⟩
          try simp only [List.nil_append, List.cons_append, Act.put, List.setIfInBounds_toArray, List.set_cons_succ, List.set_cons_zero]
          refine st_branch [10] (by kernel_rfl) (branch_cons (by simp only [List.getElem?_toArray, List.getElem?_cons_succ, List.getElem?_cons_zero]; rfl) ?_ branch_nil)
          refine eff_call 42 rfl (by simp [go_sem]; rfl) bI ?_
          refine (HTK.out _).mono ?_; rintro e w6 ⟨rfl, hb6⟩
          refine ⟨_, rfl, hb6, ?_⟩
          try simp only [List.nil_append, List.cons_append, Act.put, List.setIfInBounds_toArray, List.set_cons_succ, List.set_cons_zero]
          with_reducible refine st_sel [11, 12, 13] (by kernel_rfl) (by kernel_rfl) ?_
          simp only [picked, List.getElem?_cons_succ, List.getElem?_cons_zero, Option.toList_some, List.nil_append, List.cons_append, List.append_nil]
          try simp only [Act.put, List.setIfInBounds_toArray, List.set_cons_succ, List.set_cons_zero]
          repeat (go_big_quiet_step (fail))
          with_reducible refine wpQuiet_nil ?_
          refine st_branch [15] (by kernel_rfl) (branch_cons (by simp only [List.getElem?_toArray, List.getElem?_cons_succ, List.getElem?_cons_zero]; rfl) ?_ branch_nil)
          have hYY := ((AtF.new_at (w := W3.drew) (g := W3.heap.size) (by simp) 54 [.int .i64 0, .int .i64 0, .int .i64 0, .int .i64 0]).bel hb5).bel hb6
          have hBW : Bel W3 w6 := (Bel.refl W3).drew.trans (((Bel.refl W3.drew).alloc _).trans (hb5.trans hb6))
          have hYl : W3.heap.size ≤ W3.heap.size := Nat.le_refl _
          have one4 : ∀ u ∈ ([.int .i64 qr, .int .i64 qu, .int .i64 ql, .int .i64 qt] : List Value), u.oneCell' = true := fun u hu => by
            simp only [List.mem_cons, List.not_mem_nil, or_false] at hu
            rcases hu with rfl | rfl | rfl | rfl <;> rfl
          have hF3 := Bel.setRow (B := W3.heap.size) (i := 0) [.int .i64 qr, .int .i64 qu, .int .i64 ql, .int .i64 qt] hBW hYl
          have HFF := Lib.hid hF3
          with_reducible refine eff_done (w' := setRow (w6) (W3.heap.size) 0 [.int .i64 qr, .int .i64 qu, .int .i64 ql, .int .i64 qt]) ?_ ?_ ?_ ?_
          · rfl
          · exact exec_store_at (vs := [.int .i64 qr, .int .i64 qu, .int .i64 ql, .int .i64 qt]) 54 _ _ rfl rfl rfl hYY rfl one4 (by kernel_rfl)
          · exact hF3
          try simp only [List.nil_append, List.cons_append, Act.put, List.setIfInBounds_toArray, List.set_cons_succ, List.set_cons_zero]
          clear hF3 hYY hBW hYl one4
          generalize setRow (w6) (W3.heap.size) 0 [.int .i64 qr, .int .i64 qu, .int .i64 ql, .int .i64 qt] = WF at HFF ⊢
          refine st_end (by kernel_rfl) ?_
          simp only [List.drop_succ_cons, List.drop_zero, List.drop_nil]
          go_wp2_with fail
          go_meet
          exact ⟨rfl, HFF.out⟩
      case rest =>
        obtain ⟨rfl, hb3⟩ := hcut
        have hb23 := hbn.trans hb3
        have hE4 := hE.bel (hbr.trans hb23)
        have e6 := hE4.1.2 6 _ rfl
        have el := hE4.1.1
        have hM4 := hM.bel hb23
        have hil : i < (bcells (laidB l i)).length := by rw [bcells, List.length_map, laidB_len (by rw [HLL.out]; omega), HLL.out]; exact hlt
        have mi := hM4.1.2 i _ (bcells_at (k := i) (b := (laidB l i)[i]'(by rw [laidB_len (by rw [HLL.out]; omega), HLL.out]; exact hlt)) (List.getElem?_eq_getElem _))
        have mf := hM4.2 i
        have ml := hM4.1.1
        have hb14 := hbr.trans hb23
        have hWN : W.heap.size ≤ N + 3 := Nat.le_of_eq hws
        obtain ⟨F, HF⟩ : ∃ F, Hid (fz l i = F) := ⟨_, rfl⟩
        rw [HF.out]
        clear hE3 hbx z0 z1 z2 z3
        cases pd
        · have HLS : Hid ((laidB l i).set i false = laidB l (i + 1)) := laidB_set HLI.out
          have HFS : Hid (fz l (i + 1) = F) := by
            have h := fz_step HLI.out
            simp only [Bool.false_and, Bool.false_eq_true, false_and, if_false] at h
            exact h.trans HF.out
          have hM5 : AtF (wc.setCell ⟨N + 3, i, none⟩ (.bool false)) (N + 3) (bcells (laidB l (i + 1))) := by rw [← HLS.out, ← bcells_set]; exact hM4.set i hil _
          have hb5 : Bel W (wc.setCell ⟨N + 3, i, none⟩ (.bool false)) := hb14.setNew hWN _
          have HX5 := Lib.hid (And.intro hM5 hb5)
          clear hM5 hb5 hM4 hb14 hb23 hE4 hM hbr
          go_wp2
          go_roundw
          case rel => exact ⟨i + 1, by go_num, by rw [HFS.out], by omega, HX5.out.1, HX5.out.2⟩
          case measure => simp [intOf]; omega
        · go_wp2_with fail
          refine (HBK2.out _ hb23).mono ?_; rintro e w5 ⟨rfl, hb5⟩
          clear mi mf ml e6 el
          have hM5 := hM4.bel hb5
          have mi := hM5.1.2 i _ (bcells_at (k := i) (b := (laidB l i)[i]'(by rw [laidB_len (by rw [HLL.out]; omega), HLL.out]; exact hlt)) (List.getElem?_eq_getElem _))
          have mf := hM5.2 i
          have ml := hM5.1.1
          have HLS : Hid ((laidB l i).set i (!bk) = laidB l (i + 1)) := laidB_set HLI.out
          have hM6 : AtF (w5.setCell ⟨N + 3, i, none⟩ (.bool (!bk))) (N + 3) (bcells (laidB l (i + 1))) := by rw [← HLS.out, ← bcells_set]; exact hM5.set i hil _
          have hb6 : Bel W (w5.setCell ⟨N + 3, i, none⟩ (.bool (!bk))) := (hb14.trans hb5).setNew hWN _
          have HX5 := Lib.hid (And.intro hM6 hb6)
          have HFS := Lib.hid (fz_step HLI.out)
          rw [HF.out] at HFS
          clear hM6 hb6 hM5 hM4 hb14 hb23 hE4 hM hbr hb5
          cases bk
          · by_cases hF : F < 0
            · have HFT : Hid (fz l (i + 1) = (i : Int)) := by
                have h := HFS.out
                rw [if_pos ⟨rfl, hF⟩] at h
                exact h
              go_wp2
              go_roundw
              case rel => exact ⟨i + 1, by go_num, by rw [HFT.out], by omega, HX5.out.1, HX5.out.2⟩
              case measure => simp [intOf]; omega
            · have HFT : Hid (fz l (i + 1) = F) := by
                have h := HFS.out
                rw [if_neg (fun h => hF h.2)] at h
                exact h
              go_wp2
              go_roundw
              case rel => exact ⟨i + 1, by go_num, by rw [HFT.out], by omega, HX5.out.1, HX5.out.2⟩
              case measure => simp [intOf]; omega
          · have HFT : Hid (fz l (i + 1) = F) := by
              have h := HFS.out
              rw [if_neg (fun h => by cases h.1)] at h
              exact h
            go_wp2
            go_roundw
            case rel => exact ⟨i + 1, by go_num, by rw [HFT.out], by omega, HX5.out.1, HX5.out.2⟩
            case measure => simp [intOf]; omega
    · obtain rfl : i = n := by omega
      have jk : decide ((i : Int) < (i : Int)) = false := by simp
      have hM9 : AtF W2 (N + 3) (bcells l) := by
        have h9 := laidB_end l
        rw [HLL.out] at h9
        rw [← h9]; exact hM
      have hRM : Rd W2 (.slice (some ⟨N + 3, 0, none⟩) i i) 1 l.length (bcells l) := by
        rw [HLL.out]
        exact ⟨by rw [bcells, List.length_map, HLL.out, Nat.mul_one], _, i, rfl, Nat.le_refl _, by unfold maxLen; omega, fun _ => ⟨N + 3, 0, rfl, hM9.1.1, fun j u hu => by rw [Nat.zero_add]; exact hM9.1.2 j u hu⟩⟩
      obtain ⟨F, HF⟩ : ∃ F, Hid (fz l i = F) := ⟨_, rfl⟩
      have HFZ : Hid (F = match firstT l with | some k => (k : Int) | none => -1) := by
        have h := fz_end (l := l)
        rw [HLL.out, HF.out] at h
        exact h
      rw [HF.out]
      obtain ⟨K0, HK0⟩ : ∃ x, Hid (((firstT l).getD 0 : Nat) = x) := ⟨_, rfl⟩
      obtain ⟨B0, HB0⟩ : ∃ x, Hid ((firstT l).isSome = x) := ⟨_, rfl⟩
      have hbw2 := hbw.trans hbr
      have HPD2 := Lib.hid (fun W' (h : Bel W2 W') => HPD.out W' (hbw2.trans h) l _ (hRM.bel h))
      have HPF2 := Lib.hid (fun W' (h : Bel W2 W') => HPF.out W' (hbw2.trans h) l _ (hRM.bel h))
      have hch := HCC.out
      unfold choL at hch
      rw [Hn.out] at hch
      have HCH := Lib.hid hch
      obtain ⟨CK, HCK⟩ : ∃ x, Hid ((C.getD 0 : Nat) = x) := ⟨_, rfl⟩
      obtain ⟨CB, HCB⟩ : ∃ x, Hid (C.isSome = x) := ⟨_, rfl⟩
      have hE2 := hE.bel hbr
      clear hM9 hRM hM hch
      go_upto_region 11 with fail
      go_cut [15, 16] (fun kv okv wx => kv = .int .i64 (K0 : Int) ∧ okv = .bool B0 ∧ W2 = wx)
      case first =>
        cases hft : firstT l with
        | none =>
          have h1 : F = -1 := by rw [HFZ.out, hft]
          have h2 : K0 = 0 := by rw [← HK0.out, hft]; rfl
          have h3 : B0 = false := by rw [← HB0.out, hft]; rfl
          subst h1 h2 h3
          go_wp2_with fail
          go_meet
          exact ⟨rfl, rfl, rfl⟩
        | some k =>
          have h1 : F = (k : Int) := by rw [HFZ.out, hft]
          have h2 : K0 = k := by rw [← HK0.out, hft]; rfl
          have h3 : B0 = true := by rw [← HB0.out, hft]; rfl
          subst h1 h2 h3
          have hk0 : (0 : Int) ≤ (K0 : Int) := by omega
          have hkm : ¬ (K0 : Int) < 0 := by omega
          go_wp2_with fail
          all_goals
            go_meet
            exact ⟨by first | rfl | (congr 1; omega), rfl, rfl⟩
      case rest =>
      obtain ⟨rfl, rfl, rfl⟩ := hcut
      have e0 := (hE2).1.2 0 _ rfl
      have e1 := (hE2).1.2 1 _ rfl
      have e2 := (hE2).1.2 2 _ rfl
      have e3 := (hE2).1.2 3 _ rfl
      have e4 := (hE2).1.2 4 _ rfl
      have e5 := (hE2).1.2 5 _ rfl
      have e6 := (hE2).1.2 6 _ rfl
      have e7 := (hE2).1.2 7 _ rfl
      have el := hE2.1.1
      rename_i hKK
      refine hKK _ _ ?_
      go_step
      go_cut [15, 16] (fun kv okv wx => kv = .int .i64 (CK : Int) ∧ okv = .bool CB ∧ Bel W2 wx)
      case first =>
        by_cases h2 : knd = 2
        · have h2b : (knd == 2) = true := by simpa using h2
          have hch := HCH.out
          rw [if_pos h2] at hch
          rw [hch, HCK.out, HCB.out] at HPD2
          clear h2 hch
          go_wp2_with fail
          refine (HPD2.out _ (Bel.refl _)).mono ?_; rintro e w5 ⟨rfl, hb5⟩
          go_wp2_with fail
          go_meet
          exact ⟨rfl, rfl, hb5⟩
        · have h2b : (knd == 2) = false := by simpa using h2
          have hch := HCH.out
          rw [if_neg h2] at hch
          by_cases h3 : knd = 3
          · have h3b : (knd == 3) = true := by simpa using h3
            rw [if_pos h3] at hch
            rw [hch, HCK.out, HCB.out] at HPF2
            clear h2 h3 hch
            go_wp2_with fail
            refine (HPF2.out _ (Bel.refl _)).mono ?_; rintro e w5 ⟨rfl, hb5⟩
            go_wp2_with fail
            go_meet
            exact ⟨rfl, rfl, hb5⟩
          · have h3b : (knd == 3) = false := by simpa using h3
            rw [if_neg h3] at hch
            clear h2 h3
            have e1 : CK = K0 := by rw [← HCK.out, ← HK0.out, hch]
            have e2 : CB = B0 := by rw [← HCB.out, ← HB0.out, hch]
            subst e1 e2
            clear hch
            go_wp2_with fail
            go_meet
            exact ⟨rfl, rfl, Bel.refl _⟩
      case rest =>
        obtain ⟨rfl, rfl, hb5⟩ := hcut
        obtain ⟨w5, rfl⟩ : ∃ x, x = wc := ⟨_, rfl⟩
        clear e0 e1 e2 e3 e4 e5 e6 e7 el hE2 hKK
        have hb15 := hbr.trans hb5
        have hE5 := hE.bel hb15
        have hP5 := hP.bel hb15
        have hQ5 := hQ.bel hb15
        have hbw5 := hbw.trans hb15
        have hN5 : N + 3 ≤ w5.heap.size := by have := hb15.size; omega
        cases C with
        | none =>
          have h1 : CK = 0 := by rw [← HCK.out]; rfl
          have h2 : CB = false := by rw [← HCB.out]; rfl
          subst h1 h2
          have HRN : Hid (R = (E, zeroU, false)) := by
            show _ = _
            rw [← HR.out]
            unfold nxtE nextE
            rw [HL.out, HC.out]
          obtain rfl : R = (E, zeroU, false) := HRN.out
          obtain rfl : E = ⟨knd, rd, wt, V, fs, bs, L.map QM.qu, hd⟩ := HE.out
          go_upto_region 18 with fail
          refine wp_region_lit ?_
          have hi8 : (Tryz.prog.info? 31).map (·.size) = some 8 := by kernel_rfl
          have hi9 : (Tryz.prog.info? 44).map (·.size) = some 9 := by kernel_rfl
          refine wpList_load_at rfl 31 _ rfl rfl hE5 _ Tryz.underlying31 rfl hi8 ?_
          refine wpList_pure rfl (.agg #[.int .i64 0, .int .i64 0, .int .i64 0, .int .i64 0, .int .i64 0, .string ⟨#[]⟩, .bool false, .slice none 0 0, .int .i64 0]) (by kernel_rfl) ?_
          have one8 : ∀ u ∈ ([.int .i64 knd, .int .i64 rd, .int .i64 wt, .int .i64 V, .slice Af fs.length cf, .slice Ab bs.length cb, .slice Ae i ce, .int .i64 hd] : List Value), u.oneCell' = true := fun u hu => by
            simp only [List.mem_cons, List.not_mem_nil, or_false] at hu
            rcases hu with rfl | rfl | rfl | rfl | rfl | rfl | rfl | rfl <;> rfl
          have one9 : ∀ u ∈ ([.int .i64 0, .int .i64 0, .int .i64 0, .int .i64 0, .int .i64 0, .string ⟨#[]⟩, .bool false, .slice none 0 0, .int .i64 0] : List Value), u.oneCell' = true := fun u hu => by
            simp only [List.mem_cons, List.not_mem_nil, or_false] at hu
            rcases hu with rfl | rfl | rfl | rfl | rfl | rfl | rfl | rfl | rfl <;> rfl
          refine wpList_store_at rfl 31 _ _ rfl rfl rfl hP5 rfl one8 hi8 ?_
          have hP8 := hP5.setRow [.int .i64 knd, .int .i64 rd, .int .i64 wt, .int .i64 V, .slice Af fs.length cf, .slice Ab bs.length cb, .slice Ae i ce, .int .i64 hd] rfl
          have hQ8 := hQ5.setRow_other (B := N + 1) (i := 0) [.int .i64 knd, .int .i64 rd, .int .i64 wt, .int .i64 V, .slice Af fs.length cf, .slice Ab bs.length cb, .slice Ae i ce, .int .i64 hd] (by omega)
          have hb8 := Bel.setRow (B := N + 1) (i := 0) [.int .i64 knd, .int .i64 rd, .int .i64 wt, .int .i64 V, .slice Af fs.length cf, .slice Ab bs.length cb, .slice Ae i ce, .int .i64 hd] hbw5 (by omega)
          generalize setRow w5 (N + 1) 0 [.int .i64 knd, .int .i64 rd, .int .i64 wt, .int .i64 V, .slice Af fs.length cf, .slice Ab bs.length cb, .slice Ae i ce, .int .i64 hd] = W8 at *
          refine wpList_store_at rfl 44 _ _ rfl rfl rfl hQ8 rfl one9 hi9 ?_
          have hQ9 := hQ8.setRow [.int .i64 0, .int .i64 0, .int .i64 0, .int .i64 0, .int .i64 0, .string ⟨#[]⟩, .bool false, .slice none 0 0, .int .i64 0] rfl
          have hP9 := hP8.setRow_other (B := N + 2) (i := 0) [.int .i64 0, .int .i64 0, .int .i64 0, .int .i64 0, .int .i64 0, .string ⟨#[]⟩, .bool false, .slice none 0 0, .int .i64 0] (by omega)
          have hb9 := Bel.setRow (B := N + 2) (i := 0) [.int .i64 0, .int .i64 0, .int .i64 0, .int .i64 0, .int .i64 0, .string ⟨#[]⟩, .bool false, .slice none 0 0, .int .i64 0] hb8 (by omega)
          have hlv := loadVar_at (P := Tryz.prog) 31 hP9 _ Tryz.underlying31 rfl hi8
          have hlz := loadVar_at (P := Tryz.prog) 44 hQ9 _ Tryz.underlying44 rfl hi9
          generalize setRow W8 (N + 2) 0 [.int .i64 0, .int .i64 0, .int .i64 0, .int .i64 0, .int .i64 0, .string ⟨#[]⟩, .bool false, .slice none 0 0, .int .i64 0] = W9 at *
          simp only [Act.put, Act.eval, List.setIfInBounds_toArray, List.set_cons_succ, List.set_cons_zero]
          go_wp2
          exact bodyPost_ret (v := .tuple #[.agg #[.int .i64 knd, .int .i64 rd, .int .i64 wt, .int .i64 V, .slice Af fs.length cf, .slice Ab bs.length cb, .slice Ae i ce, .int .i64 hd], .agg #[.int .i64 0, .int .i64 0, .int .i64 0, .int .i64 0, .int .i64 0, .string ⟨#[]⟩, .bool false, .slice none 0 0, .int .i64 0], .bool false]) (by simp [results, Tryz.results12, hlv, hlz, asAddr]) rfl ⟨_, _, _, L, none, 0, rfl, HRR.out.bel hb9, rfl, (zb_zero W9 0).1, fun X hX h => h, hb9⟩
        | some k =>
          have h1 : CK = k := by rw [← HCK.out]; rfl
          have h2 : CB = true := by rw [← HCB.out]; rfl
          subst h1 h2
          obtain ⟨k, rfl⟩ : ∃ x, x = CK := ⟨_, rfl⟩
          have hlk : l[k]? = some true := choE_may HC.out
          have hkn : k < i := by rw [← HLL.out]; exact (List.getElem?_eq_some_iff.1 hlk).1
          obtain ⟨x, hx⟩ : ∃ x, L[k]? = some x := ⟨L[k]'(by have := Hn.out; omega), List.getElem?_eq_getElem _⟩
          have hlx := HLA.out k x hx
          rw [hlk] at hlx
          have hpp : (payB bs x.q.b.ten x.q.b.cnt now).2 = true := by
            cases hpp : (payB bs x.q.b.ten x.q.b.cnt now).2
            · rw [hpp] at hlx; simp at hlx
            · rfl
          obtain ⟨q, bq, htq, hbq⟩ := payB_in hpp
          obtain ⟨⟨pk, pd⟩, HP0⟩ : ∃ r, Hid (payB bs x.q.b.ten x.q.b.cnt now = r) := ⟨_, rfl⟩
          have hRS : R = (⟨knd, rd, wt, servV V x.q.sta, fs, bs.set q pk, (L.map QM.qu).eraseIdx k, x.q.b.sec + x.q.b.cnt⟩, x.qu.u, true) := by
            have hE : E = ⟨knd, rd, wt, V, fs, bs, L.map QM.qu, hd⟩ := HE.out
            have h2 : E.en[k]? = some x.qu := by rw [hE]; show (L.map QM.qu)[k]? = _; rw [List.getElem?_map, hx]; rfl
            have h3 : E.bk = bs := by rw [hE]
            have h4 := payB_E E x.qu.u now
            rw [h3] at h4
            have h5 : (payE E x.qu.u now).1 = pk := by
              rw [← h4]
              show (payB bs x.q.b.ten x.q.b.cnt now).1 = pk
              rw [HP0.out]
            have h6 : x.qu.u.ten.toNat = q := by show x.q.b.ten.toNat = q; omega
            rw [← HR.out]
            unfold nxtE nextE
            rw [HL.out, HC.out]
            simp only [h2]
            rw [h5, h6, hE]
            rfl
          have HRS := Lib.hid hRS
          clear hlx hpp hRS hlk
          obtain ⟨br, bb, bl, bt⟩ := bq
          have hpb : payB bs x.q.b.ten x.q.b.cnt now = takeB ⟨br, bb, bl, bt⟩ now (min x.q.b.cnt bb) := payB_at hbq htq.symm
          have HTK := Lib.hid (fun W' => refTake_any br bb bl bt now (min x.q.b.cnt bb) W')
          rw [← hpb, HP0.out] at HTK
          obtain ⟨g, o, cx, hat⟩ := (HRR.out.q.bel hbw5).at hx
          have hf := hat.form
          injection hf with hf1 hf2 hf3
          subst hf1 hf3
          clear hf2
          have hrow := hat.row
          have hgl := hat.lt
          have HXS := Lib.hid (HSC.out x (List.mem_of_getElem? hx))
          have HXM := Lib.hid (fun W' (h : Bel w W') => (HRR.out.q.mem x (List.mem_of_getElem? hx)).bel h)
          obtain ⟨gb, ob, cb', hfb, hgb, hcb⟩ := HRR.out.b.at (show 0 < bs.length by have := (List.getElem?_eq_some_iff.1 hbq).1; omega)
          injection hfb with hf1 hf2 hf3
          subst hf1 hf3
          clear hf2 hat hpb
          have HXI := Lib.hid hx
          have HBQ := Lib.hid hbq
          have hql := (List.getElem?_eq_some_iff.1 hbq).1
          obtain ⟨⟨⟨i2, t2, k2, s2, n2, d2, f2, a2, l2, cz, m2⟩, du, st, tr⟩, ms2⟩ := x
          obtain ⟨qr, qu, ql, qt⟩ := pk
          simp only at hrow htq HP0 HXM HXS HRS HTK
          simp only [bv] at HTK
          obtain rfl := htq
          obtain rfl : l2 = ms2.length := (HXM.out w (Bel.refl _)).len
          have q0 := (hrow).cell 0 rfl
          have q1 := (hrow).cell 1 rfl
          have q2 := (hrow).cell 2 rfl
          have q3 := (hrow).cell 3 rfl
          have q4 := (hrow).cell 4 rfl
          have q5 := (hrow).cell 5 rfl
          have q6 := (hrow).cell 6 rfl
          have q7 := (hrow).cell 7 rfl
          have q8 := (hrow).cell 8 rfl
          have q9 := (hrow).cell 9 rfl
          have q10 := (hrow).cell 10 rfl
          have q11 := (hrow).cell 11 rfl
          rw [Nat.add_zero] at q0
          have e6 := hE5.1.2 6 _ rfl
          have el := hE5.1.1
          have hkk : (k : Int) < (i : Int) := by omega
          have hT6 := AtF.new_at (w := w5) rfl 67 [.int .i64 i2, .int .i64 (q : Int), .int .i64 k2, .int .i64 s2, .int .i64 n2, .string d2, .bool f2, .slice a2 ms2.length cz, .int .i64 m2, .int .i64 du, .int .i64 st, .int .i64 tr]
          have hbt : Bel w5 (w5.alloc (.cells [.int .i64 i2, .int .i64 (q : Int), .int .i64 k2, .int .i64 s2, .int .i64 n2, .string d2, .bool f2, .slice a2 ms2.length cz, .int .i64 m2, .int .i64 du, .int .i64 st, .int .i64 tr].toArray 67)) := bI
          have hE6 := hE5.bel hbt
          have hP6 := hP5.bel hbt
          have hQ6 := hQ5.bel hbt
          have hbw6 := hbw5.trans hbt
          have hs6 := hbt.size
          obtain ⟨mb, Hmb⟩ : ∃ x, Hid (bs.length = x) := ⟨_, rfl⟩
          have hmb : mb ≤ 1000 := by rw [← Hmb.out]; exact hbn
          have hmb0 : 0 < mb := by rw [← Hmb.out]; omega
          have hnews : ∀ (W' : World), Bel w W' → ∀ j u, (bkc bs)[j]? = some u → W'.cell? ((⟨gb, ob, none⟩ : Addr).add j) = some u := fun W' hb j u hu => by
            rw [Addr.add_lit, hb.cellAt _ _ hgb]
            exact hcb j u hu
          have HNE := Lib.hid hnews
          simp only [List.toArray] at hT6 hbt hE6 hP6 hQ6 hbw6 hs6
          clear hx hbq hcb hnews
          go_upto_region 20 with fail
          clear q0 q1 q2 q3 q4 q5 q6 q7 q8 q9 q10 q11 e6 el hrow hE5 hP5 hQ5 hbw5
          generalize w5.alloc _ = W6 at *
          obtain ⟨XB, HXB⟩ : ∃ X, Hid (w5.heap.size = X) := ⟨_, rfl⟩
          rw [HXB.out] at hT6 ⊢
          have hXN : N + 3 ≤ XB := by rw [← HXB.out]; exact hN5
          have e5 := hE6.1.2 5 _ rfl
          have el := hE6.1.1
          have ef := hE6.2 5
          rw [Hmb.out] at hE6 e5
          obtain ⟨i0, hi0, hz0, hz1, hz2⟩ := info_parts Tryz.infoBkt
          have hml : (bkc bs).length = mb * 4 := by rw [bkc_len, Hmb.out]
          have HML := Lib.hid hml
          have hone := bkc_one bs
          have hnw := HNE.out W6 hbw6
          have hT6l := hT6.1.1
          go_wp2_with (at_builtin; go_must (refine wpList_append_own_at _ rfl _ _ 28 rfl W6.heap.size 54 i0 _ 4 32 Tryz.underlying28 hi0 hz0 hz1 hz2 rfl (by omega) (.slice none 0 0) 0 [] rfl ⟨rfl, Or.inl ⟨rfl, rfl⟩⟩ ⟨gb, ob, none⟩ mb _ (bkc bs) rfl hml hnw hone (by unfold maxLen; omega) (by omega) (Nat.le_refl _) ?_); intro v' w7 hown hg7 _ hloc; have hownb : w7.ownsRow W6.heap.size 54 4 v' mb (bkc bs) := (by simpa using hown); obtain ⟨g2, cv2, hvn, _, _⟩ := hownb.form hmb0; subst hvn; have hb67 : Bel W6 w7 := (bel_own (Bel.refl W6) (base := W6.heap.size) (e := 54) (size := 4) (v := .slice none 0 0) (n := 0) (xs := []) ⟨rfl, Or.inl ⟨rfl, rfl⟩⟩ hg7 (Nat.le_refl _)); have hE7 := hE6.bel hb67; have e5 := hE7.1.2 5 _ rfl; have el := hE7.1.1; have ef := hE7.2 5)
          go_upto_region 21 with fail
          have hg2 := hownb.lt g2 rfl
          have hE8 := hE7.set 5 (by simp) (.slice (some ⟨g2, 0, none⟩) mb cv2)
          simp only [List.set_cons_succ, List.set_cons_zero] at hE8
          have hP8 := (hP6.bel hb67).other (C := N) (by omega) 5 (.slice (some ⟨g2, 0, none⟩) mb cv2)
          have hQ8 := (hQ6.bel hb67).other (C := N) (by omega) 5 (.slice (some ⟨g2, 0, none⟩) mb cv2)
          have hT8 := (hT6.bel hb67).other (C := N) (by omega) 5 (.slice (some ⟨g2, 0, none⟩) mb cv2)
          have hNl := hE6.1.1
          have hXl := hT6.1.1
          have hob8 := own_far hownb (p := ⟨N, 5, none⟩) (fun e => by have e2 : some g2 = some N := e; injection e2 with e2; omega) (.slice (some ⟨g2, 0, none⟩) mb cv2)
          have hbw8 := (hbw6.trans hb67).setNew (p := ⟨N, 5, none⟩) (by show w.heap.size ≤ N; omega) (.slice (some ⟨g2, 0, none⟩) mb cv2)
          have hs8 : W6.heap.size ≤ (w7.setCell ⟨N, 5, none⟩ (.slice (some ⟨g2, 0, none⟩) mb cv2)).heap.size := by have := hb67.size; simpa [World.setCell] using this
          clear e5 el ef hE6 hP6 hQ6 hT6 hbw6 hE7 hownb hown hg7 hloc hnw hone hml
          generalize w7.setCell ⟨N, 5, none⟩ (.slice (some ⟨g2, 0, none⟩) mb cv2) = W8 at *
          have hPR3 := fun W' (h : Bel W8 W') => refPrice_any knd rd wt V hd (.slice Af fs.length cf) (.slice (some ⟨g2, 0, none⟩) bs.length cv2) (.slice (some ⟨g, o, none⟩) i ce) bs ⟨i2, (q : Int), k2, s2, n2, d2, f2, a2, ms2.length, cz, m2⟩ q br bb bl bt W' (by rw [Hmb.out]; exact Rd.own (own_keep hob8 h)) HBQ.out rfl
          rw [Hmb.out] at hPR3
          simp only at hPR3
          have HPR3 := Lib.hid hPR3
          have hcb8 : ∀ j v, ([.int .i64 br, .int .i64 bb, .int .i64 bl, .int .i64 bt] : List Value)[j]? = some v → W8.cell? ⟨g2, q * 4 + j, none⟩ = some v := fun j v hv => by
            have h := hob8.cells (g := g2) rfl _ _ (bkc_at HBQ.out (j := j) hv)
            rwa [add_zero_off] at h
          have hg2l : g2 < W8.heap.size := (hob8.lt g2 rfl).2
          clear hPR3
          go_cut [17] (fun xv wx => xv = .pointer (some ⟨XB, 0, none⟩) ∧ AtF wx N [.int .i64 knd, .int .i64 rd, .int .i64 wt, .int .i64 V, .slice Af fs.length cf, .slice (some ⟨g2, 0, none⟩) mb cv2, .slice (some ⟨g, o, none⟩) i ce, .int .i64 hd] ∧ AtF wx (N + 1) [.int .i64 0, .int .i64 0, .int .i64 0, .int .i64 0, .slice none 0 0, .slice none 0 0, .slice none 0 0, .int .i64 0] ∧ AtF wx (N + 2) [.int .i64 0, .int .i64 0, .int .i64 0, .int .i64 0, .int .i64 0, .string ⟨#[]⟩, .bool false, .slice none 0 0, .int .i64 0] ∧ AtF wx XB [.int .i64 i2, .int .i64 (q : Int), .int .i64 k2, .int .i64 s2, .int .i64 n2, .string d2, .bool f2, .slice a2 ms2.length cz, .int .i64 m2, .int .i64 du, .int .i64 st, .int .i64 tr] ∧ wx.ownsRow W6.heap.size 54 4 (.slice (some ⟨g2, 0, none⟩) mb cv2) mb (bkc (bs.set q ⟨qr, qu, ql, qt⟩)) ∧ Bel w wx ∧ W6.heap.size ≤ wx.heap.size)
          case first =>
            let RNS : World → Prop := fun W' => AtF W' N [.int .i64 knd, .int .i64 rd, .int .i64 wt, .int .i64 V, .slice Af fs.length cf, .slice (some ⟨g2, 0, none⟩) mb cv2, .slice (some ⟨g, o, none⟩) i ce, .int .i64 hd] ∧ AtF W' XB [.int .i64 i2, .int .i64 (q : Int), .int .i64 k2, .int .i64 s2, .int .i64 n2, .string d2, .bool f2, .slice a2 ms2.length cz, .int .i64 m2, .int .i64 du, .int .i64 st, .int .i64 tr]
            have hrs : RNS W8.drew := ⟨hE8.drew, hT8.drew⟩
            haveI nnS : Nonempty (InS RNS) := ⟨⟨W8.drew, hrs⟩⟩
            have rg0 := fun (p : InS RNS) => p.h.1.1.2 5 _ rfl
            have rg1 := fun (p : InS RNS) => p.h.2.1.2 1 _ rfl
            have hqm : (q : Int) < (mb : Int) := by rw [← Hmb.out]; omega
            refine wp_region_sts RNS [11, 16, 17, 22] 23 (by kernel_rfl) (by kernel_rfl) ?hS0 ?_
            case hS0 => exact hrs
            with_reducible refine st_sel [0, 1, 2, 3, 4, 5, 6, 7, 8, 9, 10, 12, 13, 14, 15] (by kernel_rfl) (by kernel_rfl) ?_
            simp only [picked, List.getElem?_cons_succ, List.getElem?_cons_zero, Option.toList_some, List.nil_append, List.cons_append, List.append_nil]
            iterate 12 (go_big_quiet_step (fail))
            refine wpQuiet_load_s rfl 31 _ rfl rfl (fun w' h => h.1) _ Tryz.underlying31 rfl (by kernel_rfl) ?_
            try simp only [Act.put, List.setIfInBounds_toArray, List.set_cons_succ, List.set_cons_zero]
            go_big_quiet_step (fail)
            refine wpQuiet_load_s (cs := [.int .i64 i2, .int .i64 (q : Int), .int .i64 k2, .int .i64 s2, .int .i64 n2, .string d2, .bool f2, .slice a2 ms2.length cz, .int .i64 m2]) rfl 44 _ rfl rfl (fun w' h => h.2.pre 9) _ Tryz.underlying44 rfl (by kernel_rfl) ?_
            with_reducible refine wpQuiet_nil ?_
            try simp only [List.nil_append, List.cons_append, Act.put, List.setIfInBounds_toArray, List.set_cons_succ, List.set_cons_zero]
            refine st_branch [11, 16] (by kernel_rfl) (branch_cons (by simp only [List.getElem?_toArray, List.getElem?_cons_succ, List.getElem?_cons_zero]; rfl) ?_ (branch_cons (by simp only [List.getElem?_toArray, List.getElem?_cons_succ, List.getElem?_cons_zero]; rfl) ?_ branch_nil))
            · skip
              refine eff_made_s rfl (exec_load_off (W := W8.drew) (cs := [.int .i64 br, .int .i64 bb, .int .i64 bl, .int .i64 bt]) 54 _ rfl rfl (by first | exact hcb8 | (intro j v hv; exact hcb8 j v hv)) _ Tryz.underlying54 rfl (by kernel_rfl)) hrs ?_
              try simp only [List.nil_append, List.cons_append, Act.put, List.setIfInBounds_toArray, List.set_cons_succ, List.set_cons_zero]
              refine st_branch [16] (by kernel_rfl) (branch_cons (by simp only [List.getElem?_toArray, List.getElem?_cons_succ, List.getElem?_cons_zero]; rfl) ?_ branch_nil)
              refine eff_call_s 43 rfl (by simp [go_sem]; rfl) hrs ?_
              refine (HPR3.out _ bI).mono ?_; rintro e w9 ⟨rfl, hb9⟩
              have hb89 : Bel W8 w9 := (Bel.refl W8).drew.trans hb9
              refine ⟨_, rfl, ⟨hE8.bel hb89, hT8.bel hb89⟩, ?_⟩
              try simp only [List.nil_append, List.cons_append, Act.put, List.setIfInBounds_toArray, List.set_cons_succ, List.set_cons_zero]
              refine st_branch [17] (by kernel_rfl) (branch_cons (by simp only [List.getElem?_toArray, List.getElem?_cons_succ, List.getElem?_cons_zero]; rfl) ?_ branch_nil)
              refine eff_call_s 42 rfl (by simp [go_sem]; rfl) ⟨hE8.bel hb89, hT8.bel hb89⟩ ?_
              refine (HTK.out _).mono ?_; rintro e wa ⟨rfl, hba⟩
              have hb8a : Bel W8 wa := hb89.trans hba
              refine ⟨_, rfl, ⟨hE8.bel hb8a, hT8.bel hb8a⟩, ?_⟩
              try simp only [List.nil_append, List.cons_append, Act.put, List.setIfInBounds_toArray, List.set_cons_succ, List.set_cons_zero]
              with_reducible refine st_sel [18, 19, 20, 21] (by kernel_rfl) (by kernel_rfl) ?_
              simp only [picked, List.getElem?_cons_succ, List.getElem?_cons_zero, Option.toList_some, List.nil_append, List.cons_append, List.append_nil]
              repeat (go_big_quiet_step (fail))
              with_reducible refine wpQuiet_nil ?_
              try simp only [List.nil_append, List.cons_append, Act.put, List.setIfInBounds_toArray, List.set_cons_succ, List.set_cons_zero]
              refine st_branch [22] (by kernel_rfl) (branch_cons (by simp only [List.getElem?_toArray, List.getElem?_cons_succ, List.getElem?_cons_zero]; rfl) ?_ branch_nil)
              have hoba := own_keep hob8 hb8a
              have gf := fun j => hoba.frozenAt (g := g2) j
              have one4 : ∀ u ∈ ([.int .i64 qr, .int .i64 qu, .int .i64 ql, .int .i64 qt] : List Value), u.oneCell' = true := fun u hu => by
                simp only [List.mem_cons, List.not_mem_nil, or_false] at hu
                rcases hu with rfl | rfl | rfl | rfl <;> rfl
              have hna : N ≠ g2 := by omega
              have hxa : XB ≠ g2 := by omega
              with_reducible refine eff_done_s (w' := setRow wa g2 (q * 4) [.int .i64 qr, .int .i64 qu, .int .i64 ql, .int .i64 qt]) ?_ ?_ ?_ ?_
              · rfl
              · exact exec_store_off (vs := [.int .i64 qr, .int .i64 qu, .int .i64 ql, .int .i64 qt]) (cs := [.int .i64 br, .int .i64 bb, .int .i64 bl, .int .i64 bt]) 54 _ _ rfl rfl rfl (fun j v hv => (hb8a.cellAt g2 _ hg2l).trans (hcb8 j v hv)) (fun j => gf (q * 4 + j)) rfl one4 (by kernel_rfl)
              · exact ⟨(hE8.bel hb8a).setRow_other (B := g2) (i := q * 4) [.int .i64 qr, .int .i64 qu, .int .i64 ql, .int .i64 qt] hna, (hT8.bel hb8a).setRow_other (B := g2) (i := q * 4) [.int .i64 qr, .int .i64 qu, .int .i64 ql, .int .i64 qt] hxa⟩
              try simp only [List.nil_append, List.cons_append, Act.put, List.setIfInBounds_toArray, List.set_cons_succ, List.set_cons_zero]
              refine st_end (by kernel_rfl) ?_
              simp only [List.drop_succ_cons, List.drop_zero, List.drop_nil]
              have hobb := own_setRow [.int .i64 qr, .int .i64 qu, .int .i64 ql, .int .i64 qt] (i := q * 4) hoba
              have hbs : setL (bkc bs) (q * 4) [.int .i64 qr, .int .i64 qu, .int .i64 ql, .int .i64 qt] = bkc (bs.set q ⟨qr, qu, ql, qt⟩) := bkc_set (y := ⟨qr, qu, ql, qt⟩) HBQ.out
              rw [hbs] at hobb
              have hEb := (hE8.bel hb8a).setRow_other (B := g2) (i := q * 4) [.int .i64 qr, .int .i64 qu, .int .i64 ql, .int .i64 qt] hna
              have hPb := (hP8.bel hb8a).setRow_other (B := g2) (i := q * 4) [.int .i64 qr, .int .i64 qu, .int .i64 ql, .int .i64 qt] (by omega)
              have hQb := (hQ8.bel hb8a).setRow_other (B := g2) (i := q * 4) [.int .i64 qr, .int .i64 qu, .int .i64 ql, .int .i64 qt] (by omega)
              have hTb := (hT8.bel hb8a).setRow_other (B := g2) (i := q * 4) [.int .i64 qr, .int .i64 qu, .int .i64 ql, .int .i64 qt] hxa
              have hbb := Bel.setRow (B := g2) (i := q * 4) [.int .i64 qr, .int .i64 qu, .int .i64 ql, .int .i64 qt] (hbw8.trans hb8a) (by omega)
              have hsb := hobb.lt g2 rfl
              have hsb2 : W6.heap.size ≤ (setRow wa g2 (q * 4) [.int .i64 qr, .int .i64 qu, .int .i64 ql, .int .i64 qt]).heap.size := by omega
              clear hoba gf
              go_wp2_with fail
              go_meet
              exact ⟨rfl, hEb, hPb, hQb, hTb, hobb, hbb, hsb2⟩
            · skip
              refine eff_call_s 43 rfl (by simp [go_sem]; rfl) hrs ?_
              refine (HPR3.out _ bI).mono ?_; rintro e w9 ⟨rfl, hb9⟩
              have hb89 : Bel W8 w9 := (Bel.refl W8).drew.trans hb9
              refine ⟨_, rfl, ⟨hE8.bel hb89, hT8.bel hb89⟩, ?_⟩
              try simp only [List.nil_append, List.cons_append, Act.put, List.setIfInBounds_toArray, List.set_cons_succ, List.set_cons_zero]
              refine st_branch [11] (by kernel_rfl) (branch_cons (by simp only [List.getElem?_toArray, List.getElem?_cons_succ, List.getElem?_cons_zero]; rfl) ?_ branch_nil)
              refine eff_made_s rfl (exec_load_off (W := w9) (cs := [.int .i64 br, .int .i64 bb, .int .i64 bl, .int .i64 bt]) 54 _ rfl rfl (by first | exact (fun j v hv => (hb89.cellAt g2 _ hg2l).trans (hcb8 j v hv)) | (intro j v hv; exact (fun j v hv => (hb89.cellAt g2 _ hg2l).trans (hcb8 j v hv)) j v hv)) _ Tryz.underlying54 rfl (by kernel_rfl)) (⟨hE8.bel hb89, hT8.bel hb89⟩ : RNS w9) ?_
              try simp only [List.nil_append, List.cons_append, Act.put, List.setIfInBounds_toArray, List.set_cons_succ, List.set_cons_zero]
              refine st_branch [17] (by kernel_rfl) (branch_cons (by simp only [List.getElem?_toArray, List.getElem?_cons_succ, List.getElem?_cons_zero]; rfl) ?_ branch_nil)
              refine eff_call_s 42 rfl (by simp [go_sem]; rfl) ⟨hE8.bel hb89, hT8.bel hb89⟩ ?_
              refine (HTK.out _).mono ?_; rintro e wa ⟨rfl, hba⟩
              have hb8a : Bel W8 wa := hb89.trans hba
              refine ⟨_, rfl, ⟨hE8.bel hb8a, hT8.bel hb8a⟩, ?_⟩
              try simp only [List.nil_append, List.cons_append, Act.put, List.setIfInBounds_toArray, List.set_cons_succ, List.set_cons_zero]
              with_reducible refine st_sel [18, 19, 20, 21] (by kernel_rfl) (by kernel_rfl) ?_
              simp only [picked, List.getElem?_cons_succ, List.getElem?_cons_zero, Option.toList_some, List.nil_append, List.cons_append, List.append_nil]
              repeat (go_big_quiet_step (fail))
              with_reducible refine wpQuiet_nil ?_
              try simp only [List.nil_append, List.cons_append, Act.put, List.setIfInBounds_toArray, List.set_cons_succ, List.set_cons_zero]
              refine st_branch [22] (by kernel_rfl) (branch_cons (by simp only [List.getElem?_toArray, List.getElem?_cons_succ, List.getElem?_cons_zero]; rfl) ?_ branch_nil)
              have hoba := own_keep hob8 hb8a
              have gf := fun j => hoba.frozenAt (g := g2) j
              have one4 : ∀ u ∈ ([.int .i64 qr, .int .i64 qu, .int .i64 ql, .int .i64 qt] : List Value), u.oneCell' = true := fun u hu => by
                simp only [List.mem_cons, List.not_mem_nil, or_false] at hu
                rcases hu with rfl | rfl | rfl | rfl <;> rfl
              have hna : N ≠ g2 := by omega
              have hxa : XB ≠ g2 := by omega
              with_reducible refine eff_done_s (w' := setRow wa g2 (q * 4) [.int .i64 qr, .int .i64 qu, .int .i64 ql, .int .i64 qt]) ?_ ?_ ?_ ?_
              · rfl
              · exact exec_store_off (vs := [.int .i64 qr, .int .i64 qu, .int .i64 ql, .int .i64 qt]) (cs := [.int .i64 br, .int .i64 bb, .int .i64 bl, .int .i64 bt]) 54 _ _ rfl rfl rfl (fun j v hv => (hb8a.cellAt g2 _ hg2l).trans (hcb8 j v hv)) (fun j => gf (q * 4 + j)) rfl one4 (by kernel_rfl)
              · exact ⟨(hE8.bel hb8a).setRow_other (B := g2) (i := q * 4) [.int .i64 qr, .int .i64 qu, .int .i64 ql, .int .i64 qt] hna, (hT8.bel hb8a).setRow_other (B := g2) (i := q * 4) [.int .i64 qr, .int .i64 qu, .int .i64 ql, .int .i64 qt] hxa⟩
              try simp only [List.nil_append, List.cons_append, Act.put, List.setIfInBounds_toArray, List.set_cons_succ, List.set_cons_zero]
              refine st_end (by kernel_rfl) ?_
              simp only [List.drop_succ_cons, List.drop_zero, List.drop_nil]
              have hobb := own_setRow [.int .i64 qr, .int .i64 qu, .int .i64 ql, .int .i64 qt] (i := q * 4) hoba
              have hbs : setL (bkc bs) (q * 4) [.int .i64 qr, .int .i64 qu, .int .i64 ql, .int .i64 qt] = bkc (bs.set q ⟨qr, qu, ql, qt⟩) := bkc_set (y := ⟨qr, qu, ql, qt⟩) HBQ.out
              rw [hbs] at hobb
              have hEb := (hE8.bel hb8a).setRow_other (B := g2) (i := q * 4) [.int .i64 qr, .int .i64 qu, .int .i64 ql, .int .i64 qt] hna
              have hPb := (hP8.bel hb8a).setRow_other (B := g2) (i := q * 4) [.int .i64 qr, .int .i64 qu, .int .i64 ql, .int .i64 qt] (by omega)
              have hQb := (hQ8.bel hb8a).setRow_other (B := g2) (i := q * 4) [.int .i64 qr, .int .i64 qu, .int .i64 ql, .int .i64 qt] (by omega)
              have hTb := (hT8.bel hb8a).setRow_other (B := g2) (i := q * 4) [.int .i64 qr, .int .i64 qu, .int .i64 ql, .int .i64 qt] hxa
              have hbb := Bel.setRow (B := g2) (i := q * 4) [.int .i64 qr, .int .i64 qu, .int .i64 ql, .int .i64 qt] (hbw8.trans hb8a) (by omega)
              have hsb := hobb.lt g2 rfl
              have hsb2 : W6.heap.size ≤ (setRow wa g2 (q * 4) [.int .i64 qr, .int .i64 qu, .int .i64 ql, .int .i64 qt]).heap.size := by omega
              clear hoba gf
              go_wp2_with fail
              go_meet
              exact ⟨rfl, hEb, hPb, hQb, hTb, hobb, hbb, hsb2⟩
          case rest =>
            obtain ⟨rfl, hE9, hP9, hQ9, hT9, hob9, hbw9, hs9⟩ := hcut
            obtain ⟨Y, rfl⟩ : ∃ x, x = wc := ⟨_, rfl⟩
            clear hE8 hP8 hQ8 hT8 hob8 hbw8 hs8 hcb8 hg2l HPR3
            have hs6N : N + 3 ≤ W6.heap.size := by omega
            obtain ⟨lq, HLQ⟩ : ∃ x, Hid (L.map QM.q = x) := ⟨_, rfl⟩
            have hlq : lq.length = i := by rw [← HLQ.out, List.length_map, Hn.out]
            have HLN := Lib.hid hlq
            have hrd0 := HRR.out.q.rd.bel hbw9
            have hRY : Rd Y (.slice (some ⟨g, o, none⟩) lq.length ce) 12 lq.length (qcells lq) := by
              rw [hlq]
              have h := hrd0
              rw [Hn.out] at h
              have e : qmc L = qcells lq := by unfold qmc; rw [HLQ.out]
              rw [e] at h
              exact h
            have hcc : i ≤ ce := by
              obtain ⟨_, _, h1, h2, _⟩ := hRY.form
              injection h1 with _ _ h3
              omega
            have hgY : g < Y.heap.size := by
              obtain ⟨g1, o1, c9, h1, h2, _⟩ := hRY.at (by omega)
              injection h1 with h1 _ _
              injection h1 with h1
              injection h1 with h1 _
              omega
            obtain ⟨hn1, ad1, had1, hn2⟩ := rem_news hRY hgY (by rw [hlq]; exact hkn)
            have hel : k + (i - (k + 1)) = (lq.eraseIdx k).length := by rw [List.length_eraseIdx, if_pos (by omega), hlq]; omega
            obtain ⟨j0, hj0, hy0, hy1, hy2⟩ := info_parts Tryz.infoQue
            have k0 : (0 : Int) ≤ (k : Int) := by omega
            have ekk : IntKind.i64.wrap ((k : Int) + 1) = (k : Int) + 1 := IntWalk.i64_in _ (by omega)
            have e6 := hE9.1.2 6 _ rfl
            have re6 := fun d os => cell_regrown e6 d os
            clear hrd0 hRY hlq e6
            go_upto_region 22 with fail
            refine wp_region_st [4, 10] 11 (by kernel_rfl) (by kernel_rfl) ?_
            with_reducible refine st_sel [0, 1, 2, 3, 5, 6, 7, 8, 9] (by kernel_rfl) (by kernel_rfl) ?_
            simp only [picked, List.getElem?_cons_succ, List.getElem?_cons_zero, Option.toList_some, List.nil_append, List.cons_append, List.append_nil]
            try simp only [Act.put, List.setIfInBounds_toArray, List.set_cons_succ, List.set_cons_zero]
            repeat (go_big_quiet_step (fail))
            with_reducible refine wpQuiet_nil ?_
            refine st_branch [4] (by kernel_rfl) (branch_cons (by simp only [List.getElem?_toArray, List.getElem?_cons_succ, List.getElem?_cons_zero]; rfl) ?_ branch_nil)
            refine eff_append_own rfl _ _ 29 rfl Y.heap.size 67 j0 _ 12 120 Tryz.underlying29 hj0 hy0 hy1 hy2 rfl (by omega) (.slice none 0 0) 0 [] rfl ⟨by simp, Or.inl ⟨rfl, rfl⟩⟩ ⟨g, o, none⟩ k _ (qcells (lq.take k)) rfl (by rw [qcells_len, List.length_take, HLN.out, Nat.min_eq_left (by omega)]) (hn1 _ bI) (qcells_one _) (by unfold maxLen; omega) (by omega) (by simp) bI (by simp) ?_
            intro va wa howna hga hba
            simp only [Nat.zero_add, List.nil_append] at howna
            try simp only [List.nil_append, List.cons_append, Act.put, List.setIfInBounds_toArray, List.set_cons_succ, List.set_cons_zero]
            refine st_branch [10] (by kernel_rfl) (branch_cons (by simp only [List.getElem?_toArray, List.getElem?_cons_succ, List.getElem?_cons_zero]; rfl) ?_ branch_nil)
            refine eff_append_own rfl _ _ 29 rfl Y.heap.size 67 j0 _ 12 120 Tryz.underlying29 hj0 hy0 hy1 hy2 rfl (by omega) va k _ rfl howna ad1 (i - (k + 1)) _ (qcells (lq.drop (k + 1))) rfl (by rw [qcells_len, List.length_drop, HLN.out]) (hn2 _ (Bel.trans bI hba)) (qcells_one _) (by unfold maxLen; omega) (by omega) hba.size hba (by simp) ?_
            intro vb wb hownb hgb hbb
            rw [← qcells_app, erase_eq, hel] at hownb
            try simp only [List.nil_append, List.cons_append, Act.put, List.setIfInBounds_toArray, List.set_cons_succ, List.set_cons_zero]
            refine st_end (by kernel_rfl) ?_
            simp only [List.drop_succ_cons, List.drop_zero, List.drop_nil]
            obtain ⟨nn, Hnn⟩ : ∃ x, Hid ((lq.eraseIdx k).length = x) := ⟨_, rfl⟩
            rw [Hnn.out] at hownb hel
            obtain ⟨A9, c9, rfl⟩ := own_slice hownb
            have HEL := Lib.hid hel
            clear hel howna hga hba
            have hEc := hE9.bel hbb
            have hPc := hP9.bel hbb
            have hQc := hQ9.bel hbb
            have hTc := hT9.bel hbb
            have hobc := own_keep hob9 hbb
            have hbwc := hbw9.trans hbb
            have hsY := hbb.size
            have e6 := hEc.1.2 6 _ rfl
            have el := hEc.1.1
            have ef := hEc.2 6
            go_upto_region 23 with fail
            have hNY : N < Y.heap.size := hE9.1.1
            have hne9 : (Value.slice A9 nn c9).ownBlock ≠ some N := fun e => by have := (hownb.lt N e).1; omega
            have hne2 : (Value.slice (some ⟨g2, 0, none⟩) mb cv2).ownBlock ≠ some N := fun e => by have := (hob9.lt N e).1; omega
            have hEd := hEc.set 6 (by simp) (.slice A9 nn c9)
            have hPd := hPc.other (C := N) (by omega) 6 (.slice A9 nn c9)
            have hQd := hQc.other (C := N) (by omega) 6 (.slice A9 nn c9)
            have hTd := hTc.other (C := N) (by omega) 6 (.slice A9 nn c9)
            have hobd := own_far hobc (p := ⟨N, 6, none⟩) hne2 (.slice A9 nn c9)
            have howd := own_far hownb (p := ⟨N, 6, none⟩) hne9 (.slice A9 nn c9)
            have hbwd := hbwc.setNew (p := ⟨N, 6, none⟩) (by show w.heap.size ≤ N; omega) (.slice A9 nn c9)
            simp only [List.set_cons_succ, List.set_cons_zero] at hEd
            have hs10 : Y.heap.size ≤ (wb.setCell ⟨N, 6, none⟩ (.slice A9 nn c9)).heap.size := by simpa [World.setCell] using hsY
            clear e6 el ef hEc hPc hQc hTc hobc hownb hbwc hE9 hP9 hQ9 hT9 hob9 hbw9 hgb re6 hn1 hn2
            generalize wb.setCell ⟨N, 6, none⟩ (.slice A9 nn c9) = W10 at *
            have t3 := hTd.1.2 3 _ rfl
            have t4 := hTd.1.2 4 _ rfl
            have e7 := hEd.1.2 7 _ rfl
            have el := hEd.1.1
            have ef := hEd.2 7
            have tl := hTd.1.1
            have esn : IntKind.i64.wrap (s2 + n2) = s2 + n2 := IntWalk.i64_in _ HXS.out
            go_upto_region 24 with fail
            have hEe := hEd.set 7 (by simp) (.int .i64 (s2 + n2))
            have hPe := hPd.other (C := N) (by omega) 7 (.int .i64 (s2 + n2))
            have hQe := hQd.other (C := N) (by omega) 7 (.int .i64 (s2 + n2))
            have hTe := hTd.other (C := N) (by omega) 7 (.int .i64 (s2 + n2))
            have hobe := own_far hobd (p := ⟨N, 7, none⟩) hne2 (.int .i64 (s2 + n2))
            have howe := own_far howd (p := ⟨N, 7, none⟩) hne9 (.int .i64 (s2 + n2))
            have hbwe := hbwd.setNew (p := ⟨N, 7, none⟩) (by show w.heap.size ≤ N; omega) (.int .i64 (s2 + n2))
            simp only [List.set_cons_succ, List.set_cons_zero] at hEe
            have hs11 : Y.heap.size ≤ (W10.setCell ⟨N, 7, none⟩ (.int .i64 (s2 + n2))).heap.size := by simpa [World.setCell] using hs10
            clear t3 t4 e7 el ef tl esn hEd hPd hQd hTd hobd howd hbwd
            generalize W10.setCell ⟨N, 7, none⟩ (.int .i64 (s2 + n2)) = W11 at *
            have e3 := hEe.1.2 3 _ rfl
            have e4 := hEe.1.2 4 _ rfl
            have el := hEe.1.1
            have ta := hTe.1.2 10 _ rfl
            have tl := hTe.1.1
            go_wp2_with fail
            refine (HSV.out _ hbwe st).mono ?_; rintro e w12 ⟨v12, rfl, ho12, hb12⟩
            obtain ⟨Ag, cg, rfl⟩ := own_slice ho12
            have hsv : (if V < st ∧ st ≤ 1125899906842624 then st else V) = servV V st := rfl
            rw [hsv]
            clear e3 e4 el ta tl hsv
            have hEf := hEe.bel hb12
            have e3 := hEf.1.2 3 _ rfl
            have e4 := hEf.1.2 4 _ rfl
            have el := hEf.1.1
            have ef := hEf.2
            go_upto_region 25 with fail
            have hNg : N < W11.heap.size := hEe.1.1
            have hneg : (Value.slice Ag fs.length cg).ownBlock ≠ some N := fun e => by have := (ho12.lt N e).1; omega
            have hEg := (hEf.set 3 (by simp) (.int .i64 (servV V st))).set 4 (by simp) (.slice Ag fs.length cg)
            have hPg := ((hPe.bel hb12).other (C := N) (by omega) 3 (.int .i64 (servV V st))).other (C := N) (by omega) 4 (.slice Ag fs.length cg)
            have hQg := ((hQe.bel hb12).other (C := N) (by omega) 3 (.int .i64 (servV V st))).other (C := N) (by omega) 4 (.slice Ag fs.length cg)
            have hTg := ((hTe.bel hb12).other (C := N) (by omega) 3 (.int .i64 (servV V st))).other (C := N) (by omega) 4 (.slice Ag fs.length cg)
            have hobg := own_far (own_far (own_keep hobe hb12) (p := ⟨N, 3, none⟩) hne2 (.int .i64 (servV V st))) (p := ⟨N, 4, none⟩) hne2 (.slice Ag fs.length cg)
            have howg := own_far (own_far (own_keep howe hb12) (p := ⟨N, 3, none⟩) hne9 (.int .i64 (servV V st))) (p := ⟨N, 4, none⟩) hne9 (.slice Ag fs.length cg)
            have hofg := own_far (own_far ho12 (p := ⟨N, 3, none⟩) hneg (.int .i64 (servV V st))) (p := ⟨N, 4, none⟩) hneg (.slice Ag fs.length cg)
            have hbwg := ((hbwe.trans hb12).setNew (p := ⟨N, 3, none⟩) (by show w.heap.size ≤ N; omega) (.int .i64 (servV V st))).setNew (p := ⟨N, 4, none⟩) (by show w.heap.size ≤ N; omega) (.slice Ag fs.length cg)
            simp only [List.set_cons_succ, List.set_cons_zero] at hEg
            clear e3 e4 el ef hEf hEe hPe hQe hTe hobe howe hbwe ho12
            generalize (w12.setCell ⟨N, 3, none⟩ (.int .i64 (servV V st))).setCell ⟨N, 4, none⟩ (.slice Ag fs.length cg) = W13 at *
            let RNT : World → Prop := fun W' => AtF W' N [.int .i64 knd, .int .i64 rd, .int .i64 wt, .int .i64 (servV V st), .slice Ag fs.length cg, .slice (some ⟨g2, 0, none⟩) mb cv2, .slice A9 nn c9, .int .i64 (s2 + n2)] ∧ AtF W' XB [.int .i64 i2, .int .i64 (q : Int), .int .i64 k2, .int .i64 s2, .int .i64 n2, .string d2, .bool f2, .slice a2 ms2.length cz, .int .i64 m2, .int .i64 du, .int .i64 st, .int .i64 tr]
            have hrs : RNT W13.drew := ⟨hEg.drew, hTg.drew⟩
            haveI nnS : Nonempty (InS RNT) := ⟨⟨W13.drew, hrs⟩⟩
            refine wp_region_sts RNT [3] 4 (by kernel_rfl) (by kernel_rfl) ?hS0 ?_
            case hS0 => exact hrs
            with_reducible refine st_sel [0, 1, 2] (by kernel_rfl) (by kernel_rfl) ?_
            simp only [picked, List.getElem?_cons_succ, List.getElem?_cons_zero, Option.toList_some, List.nil_append, List.cons_append, List.append_nil]
            refine wpQuiet_load_s rfl 31 _ rfl rfl (fun w' h => h.1) _ Tryz.underlying31 rfl (by kernel_rfl) ?_
            try simp only [Act.put, List.setIfInBounds_toArray, List.set_cons_succ, List.set_cons_zero]
            go_big_quiet_step (fail)
            refine wpQuiet_load_s (cs := [.int .i64 i2, .int .i64 (q : Int), .int .i64 k2, .int .i64 s2, .int .i64 n2, .string d2, .bool f2, .slice a2 ms2.length cz, .int .i64 m2]) rfl 44 _ rfl rfl (fun w' h => h.2.pre 9) _ Tryz.underlying44 rfl (by kernel_rfl) ?_
            with_reducible refine wpQuiet_nil ?_
            try simp only [List.nil_append, List.cons_append, Act.put, List.setIfInBounds_toArray, List.set_cons_succ, List.set_cons_zero]
            refine st_branch [3] (by kernel_rfl) (branch_cons (by simp only [List.getElem?_toArray, List.getElem?_cons_succ, List.getElem?_cons_zero]; rfl) ?_ branch_nil)
            have hi8 : (Tryz.prog.info? 31).map (·.size) = some 8 := by kernel_rfl
            have hi9 : (Tryz.prog.info? 44).map (·.size) = some 9 := by kernel_rfl
            have one8 : ∀ u ∈ ([.int .i64 knd, .int .i64 rd, .int .i64 wt, .int .i64 (servV V st), .slice Ag fs.length cg, .slice (some ⟨g2, 0, none⟩) mb cv2, .slice A9 nn c9, .int .i64 (s2 + n2)] : List Value), u.oneCell' = true := fun u hu => by
              simp only [List.mem_cons, List.not_mem_nil, or_false] at hu
              rcases hu with rfl | rfl | rfl | rfl | rfl | rfl | rfl | rfl <;> rfl
            have one9 : ∀ u ∈ ([.int .i64 i2, .int .i64 (q : Int), .int .i64 k2, .int .i64 s2, .int .i64 n2, .string d2, .bool f2, .slice a2 ms2.length cz, .int .i64 m2] : List Value), u.oneCell' = true := fun u hu => by
              simp only [List.mem_cons, List.not_mem_nil, or_false] at hu
              rcases hu with rfl | rfl | rfl | rfl | rfl | rfl | rfl | rfl | rfl <;> rfl
            have hrs2 : RNT (setRow W13.drew (N + 1) 0 [.int .i64 knd, .int .i64 rd, .int .i64 wt, .int .i64 (servV V st), .slice Ag fs.length cg, .slice (some ⟨g2, 0, none⟩) mb cv2, .slice A9 nn c9, .int .i64 (s2 + n2)]) := ⟨hrs.1.setRow_other (B := N + 1) (i := 0) [.int .i64 knd, .int .i64 rd, .int .i64 wt, .int .i64 (servV V st), .slice Ag fs.length cg, .slice (some ⟨g2, 0, none⟩) mb cv2, .slice A9 nn c9, .int .i64 (s2 + n2)] (by omega), hrs.2.setRow_other (B := N + 1) (i := 0) [.int .i64 knd, .int .i64 rd, .int .i64 wt, .int .i64 (servV V st), .slice Ag fs.length cg, .slice (some ⟨g2, 0, none⟩) mb cv2, .slice A9 nn c9, .int .i64 (s2 + n2)] (by omega)⟩
            with_reducible refine eff_done_s (w' := setRow W13.drew (N + 1) 0 [.int .i64 knd, .int .i64 rd, .int .i64 wt, .int .i64 (servV V st), .slice Ag fs.length cg, .slice (some ⟨g2, 0, none⟩) mb cv2, .slice A9 nn c9, .int .i64 (s2 + n2)]) ?_ ?_ ?_ ?_
            · rfl
            · exact exec_store_at (vs := [.int .i64 knd, .int .i64 rd, .int .i64 wt, .int .i64 (servV V st), .slice Ag fs.length cg, .slice (some ⟨g2, 0, none⟩) mb cv2, .slice A9 nn c9, .int .i64 (s2 + n2)]) 31 _ _ rfl rfl rfl hPg.drew rfl one8 hi8
            · exact hrs2
            try simp only [List.nil_append, List.cons_append, Act.put, List.setIfInBounds_toArray, List.set_cons_succ, List.set_cons_zero]
            refine st_end (by kernel_rfl) ?_
            simp only [List.drop_succ_cons, List.drop_zero, List.drop_nil]
            have hP8 := hPg.drew.setRow [.int .i64 knd, .int .i64 rd, .int .i64 wt, .int .i64 (servV V st), .slice Ag fs.length cg, .slice (some ⟨g2, 0, none⟩) mb cv2, .slice A9 nn c9, .int .i64 (s2 + n2)] rfl
            have hQ8 := hQg.drew.setRow_other (B := N + 1) (i := 0) [.int .i64 knd, .int .i64 rd, .int .i64 wt, .int .i64 (servV V st), .slice Ag fs.length cg, .slice (some ⟨g2, 0, none⟩) mb cv2, .slice A9 nn c9, .int .i64 (s2 + n2)] (by omega)
            have hb8 := Bel.setRow (B := N + 1) (i := 0) [.int .i64 knd, .int .i64 rd, .int .i64 wt, .int .i64 (servV V st), .slice Ag fs.length cg, .slice (some ⟨g2, 0, none⟩) mb cv2, .slice A9 nn c9, .int .i64 (s2 + n2)] hbwg.drew (by omega)
            have hn1b : (Value.slice (some ⟨g2, 0, none⟩) mb cv2).ownBlock ≠ some (N + 1) ∧ (Value.slice (some ⟨g2, 0, none⟩) mb cv2).ownBlock ≠ some (N + 2) := ⟨fun e => by have := (hobg.lt _ e).1; omega, fun e => by have := (hobg.lt _ e).1; omega⟩
            have hn1e : (Value.slice A9 nn c9).ownBlock ≠ some (N + 1) ∧ (Value.slice A9 nn c9).ownBlock ≠ some (N + 2) := ⟨fun e => by have := (howg.lt _ e).1; omega, fun e => by have := (howg.lt _ e).1; omega⟩
            have hn1f : (Value.slice Ag fs.length cg).ownBlock ≠ some (N + 1) ∧ (Value.slice Ag fs.length cg).ownBlock ≠ some (N + 2) := ⟨fun e => by have := (hofg.lt _ e).1; omega, fun e => by have := (hofg.lt _ e).1; omega⟩
            have hob8 := setRow_own (B := N + 1) (i := 0) [.int .i64 knd, .int .i64 rd, .int .i64 wt, .int .i64 (servV V st), .slice Ag fs.length cg, .slice (some ⟨g2, 0, none⟩) mb cv2, .slice A9 nn c9, .int .i64 (s2 + n2)] (own_keep hobg ((Bel.refl W13).drew)) hn1b.1
            have how8 := setRow_own (B := N + 1) (i := 0) [.int .i64 knd, .int .i64 rd, .int .i64 wt, .int .i64 (servV V st), .slice Ag fs.length cg, .slice (some ⟨g2, 0, none⟩) mb cv2, .slice A9 nn c9, .int .i64 (s2 + n2)] (own_keep howg ((Bel.refl W13).drew)) hn1e.1
            have hof8 := setRow_own (B := N + 1) (i := 0) [.int .i64 knd, .int .i64 rd, .int .i64 wt, .int .i64 (servV V st), .slice Ag fs.length cg, .slice (some ⟨g2, 0, none⟩) mb cv2, .slice A9 nn c9, .int .i64 (s2 + n2)] (own_keep hofg ((Bel.refl W13).drew)) hn1f.1
            clear hrs2 hrs nnS hEg hPg hQg hTg hobg howg hofg hbwg
            generalize setRow W13.drew (N + 1) 0 [.int .i64 knd, .int .i64 rd, .int .i64 wt, .int .i64 (servV V st), .slice Ag fs.length cg, .slice (some ⟨g2, 0, none⟩) mb cv2, .slice A9 nn c9, .int .i64 (s2 + n2)] = W14 at *
            refine wpList_store_at rfl 44 _ _ rfl rfl rfl hQ8 rfl one9 hi9 ?_
            have hQ9 := hQ8.setRow [.int .i64 i2, .int .i64 (q : Int), .int .i64 k2, .int .i64 s2, .int .i64 n2, .string d2, .bool f2, .slice a2 ms2.length cz, .int .i64 m2] rfl
            have hP9 := hP8.setRow_other (B := N + 2) (i := 0) [.int .i64 i2, .int .i64 (q : Int), .int .i64 k2, .int .i64 s2, .int .i64 n2, .string d2, .bool f2, .slice a2 ms2.length cz, .int .i64 m2] (by omega)
            have hb9 := Bel.setRow (B := N + 2) (i := 0) [.int .i64 i2, .int .i64 (q : Int), .int .i64 k2, .int .i64 s2, .int .i64 n2, .string d2, .bool f2, .slice a2 ms2.length cz, .int .i64 m2] hb8 (by omega)
            have hob9 := setRow_own (B := N + 2) (i := 0) [.int .i64 i2, .int .i64 (q : Int), .int .i64 k2, .int .i64 s2, .int .i64 n2, .string d2, .bool f2, .slice a2 ms2.length cz, .int .i64 m2] hob8 hn1b.2
            have how9 := setRow_own (B := N + 2) (i := 0) [.int .i64 i2, .int .i64 (q : Int), .int .i64 k2, .int .i64 s2, .int .i64 n2, .string d2, .bool f2, .slice a2 ms2.length cz, .int .i64 m2] how8 hn1e.2
            have hof9 := setRow_own (B := N + 2) (i := 0) [.int .i64 i2, .int .i64 (q : Int), .int .i64 k2, .int .i64 s2, .int .i64 n2, .string d2, .bool f2, .slice a2 ms2.length cz, .int .i64 m2] hof8 hn1f.2
            have hlv := loadVar_at (P := Tryz.prog) 31 hP9 _ Tryz.underlying31 rfl hi8
            have hlz := loadVar_at (P := Tryz.prog) 44 hQ9 _ Tryz.underlying44 rfl hi9
            generalize setRow W14 (N + 2) 0 [.int .i64 i2, .int .i64 (q : Int), .int .i64 k2, .int .i64 s2, .int .i64 n2, .string d2, .bool f2, .slice a2 ms2.length cz, .int .i64 m2] = W15 at *
            simp only [Act.put, Act.eval, List.setIfInBounds_toArray, List.set_cons_succ, List.set_cons_zero]
            have hle : (L.eraseIdx k).length = nn := by rw [List.length_eraseIdx, if_pos (by rw [Hn.out]; exact hkn), Hn.out]; have := HEL.out; omega
            have hqe : qmc (L.eraseIdx k) = qcells (lq.eraseIdx k) := by
              unfold qmc
              rw [← HLQ.out]
              simp only [List.eraseIdx_eq_take_drop_succ, List.map_append, List.map_take, List.map_drop]
            have hme : (L.eraseIdx k).map QM.qu = (L.map QM.qu).eraseIdx k := by
              simp only [List.eraseIdx_eq_take_drop_succ, List.map_append, List.map_take, List.map_drop]
            have hbl : (bs.set q (⟨qr, qu, ql, qt⟩ : Bk)).length = mb := by rw [List.length_set, Hmb.out]
            have hRF : ElR W15 (.slice Ag fs.length cg) (.slice (some ⟨g2, 0, none⟩) mb cv2) (.slice A9 nn c9) fs (bs.set q ⟨qr, qu, ql, qt⟩) (L.eraseIdx k) := by
              refine ⟨Rd.own hof9, by rw [hbl]; exact Rd.own hob9, ⟨by rw [hle, hqe]; exact Rd.own how9, fun z hz => (HRR.out.q.mem z (List.mem_of_mem_eraseIdx hz)).bel hb9⟩, fun j hj => ?_, ?_⟩
              · rcases hj with hj | hj | hj
                · exact (hof9.lt j hj).2
                · exact (hob9.lt j hj).2
                · exact (how9.lt j hj).2
              · rcases how9.2 with ⟨h1, h2⟩ | ⟨gz, cap, cur, h1, _⟩
                · exact .inl ⟨h1, List.length_eq_zero_iff.1 (by rw [hle]; exact h2)⟩
                · exact .inr ⟨gz, 0, cap, by rw [hle]; exact h1⟩
            have hoff : ∀ X < w.heap.size, Off X (.slice Af fs.length cf) (.slice (some ⟨gb, ob, none⟩) bs.length cb) (.slice (some ⟨g, o, none⟩) i ce) L → Off X (.slice Ag fs.length cg) (.slice (some ⟨g2, 0, none⟩) mb cv2) (.slice A9 nn c9) (L.eraseIdx k) := fun X hX h => ⟨fun e => by have := (hof9.lt X e).1; omega, fun e => by have := (hob9.lt X e).1; omega, fun e => by have := (how9.lt X e).1; omega, fun z hz h0 e => h.m z (List.mem_of_mem_eraseIdx hz) h0 e⟩
            have hmz := HXM.out W15 hb9
            clear hP8 hQ8 hb8 hob8 how8 hof8 hP9 hQ9 hob9 how9 hof9
            go_wp2
            obtain rfl := HRS.out
            exact bodyPost_ret (v := .tuple #[.agg #[.int .i64 knd, .int .i64 rd, .int .i64 wt, .int .i64 (servV V st), .slice Ag fs.length cg, .slice (some ⟨g2, 0, none⟩) mb cv2, .slice A9 nn c9, .int .i64 (s2 + n2)], .agg #[.int .i64 i2, .int .i64 (q : Int), .int .i64 k2, .int .i64 s2, .int .i64 n2, .string d2, .bool f2, .slice a2 ms2.length cz, .int .i64 m2], .bool true]) (by simp [results, Tryz.results12, hlv, hlz, asAddr]) rfl ⟨_, _, _, L.eraseIdx k, a2, cz, rfl, hRF, hme, hmz, hoff, hb9⟩
end Go.Proofs.YtpgjbocjhconoaaGreat
