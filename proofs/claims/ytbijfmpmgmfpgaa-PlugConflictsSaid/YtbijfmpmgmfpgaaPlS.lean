/- The law's apply: bunches sent to an image. -/
import Derived.Test.YtbijfmpmgmfpgaaPlO
import Derived.Test.YtbijfmpmgmfpgaaData
import Derived.Lib.SliceRun
import Derived.Laws.IdiomCopy
import Derived.Deep.DeepCutAuto
import Derived.Test.YtbijfmpmgmfpgaaSetRow
namespace Go.Proofs.Ytbijfmpmgmfpgaa
open Go.RowKit Go.Maps
set_option linter.unusedSimpArgs false

theorem image_any (w : World) : Calls Try.prog 71 #[.int .i64 3, .int .i64 20] w fun e w' => e = .returned (.string (dataB 3 20)) ∧ Bel w w' := by
  go_enter Try.func71, Try.ntmps71
  go_wp2_with fail
  refine (data_any 3 20 _ (by omega) (by omega)).mono ?_; rintro e w1 ⟨rfl, hb1⟩
  go_wp2
  go_ret
  exact ⟨rfl, (by repeat (first | (with_reducible exact Bel.refl _) | (with_reducible assumption) | (with_reducible refine Bel.drewN ?_ _) | (with_reducible refine Bel.drew ?_) | (with_reducible refine Bel.alloc ?_ _) | (with_reducible refine Bel.setNew ?_ ?_ _) | (with_reducible refine Bel.trans ?_ (by assumption)) | (focus (simp; done)) | (focus (simp; omega))))⟩

/-- The cells of what the reads gave. -/
def ocells (o : Nat → ByteArray) : List Value := (List.range 32).map fun k => .string (o k)
theorem ocells_len (o : Nat → ByteArray) : (ocells o).length = 32 := by simp [ocells]
theorem ocells_at (o : Nat → ByteArray) {k : Nat} (h : k < 32) : (ocells o)[k]? = some (.string (o k)) := by
  unfold ocells
  rw [List.getElem?_map, List.getElem?_range h]; rfl
theorem ocells_one (o : Nat → ByteArray) : ∀ v ∈ ocells o, v.oneCell' = true := fun v hv => by
  unfold ocells at hv
  rw [List.mem_map] at hv
  obtain ⟨k, _, rfl⟩ := hv
  rfl
theorem ocells_set (o : Nat → ByteArray) (k : Nat) (s : ByteArray) : (ocells o).set k (.string s) = ocells (fun j => if j = k then s else o j) := by
  apply List.ext_getElem?
  intro i
  rw [List.getElem?_set, ocells_len]
  by_cases hi : i < 32
  · rw [ocells_at _ hi, ocells_at _ hi]
    by_cases h : k = i
    · subst h; simp [hi]
    · rw [if_neg h, if_neg (Ne.symm h)]
  · have e1 : ∀ p, (ocells p)[i]? = none := fun p => List.getElem?_eq_none (by rw [ocells_len]; omega)
    rw [e1, e1]
    by_cases h : k = i
    · subst h; simp [hi]
    · rw [if_neg h]
theorem len_small {u : Bu} (h : okU u = true) : u.ms.length ≤ 128 := by
  have r := okU_range h
  obtain ⟨_, d, m⟩ := okU_parts.1 h
  rw [memOk_iff] at m
  obtain ⟨a1, a2, a3, _, _⟩ := m
  have a4 := len_sum _ a2
  omega
def oz0 : Nat → ByteArray := fun _ => ⟨#[]⟩
def A0 (d : ByteArray) : SA := (byt d, oz0)
theorem ocells_rep : ocells oz0 = List.replicate 32 (.string ⟨#[]⟩) := by
  rw [List.eq_replicate_iff]
  refine ⟨ocells_len _, fun v hv => ?_⟩
  unfold ocells at hv
  rw [List.mem_map] at hv
  obtain ⟨k, _, rfl⟩ := hv
  rfl
set_option maxRecDepth 100000 in
theorem oz_lit : (List.replicate 32 (Value.string ⟨#[]⟩)).toArray = #[.string ⟨#[]⟩, .string ⟨#[]⟩, .string ⟨#[]⟩, .string ⟨#[]⟩, .string ⟨#[]⟩, .string ⟨#[]⟩, .string ⟨#[]⟩, .string ⟨#[]⟩, .string ⟨#[]⟩, .string ⟨#[]⟩, .string ⟨#[]⟩, .string ⟨#[]⟩, .string ⟨#[]⟩, .string ⟨#[]⟩, .string ⟨#[]⟩, .string ⟨#[]⟩, .string ⟨#[]⟩, .string ⟨#[]⟩, .string ⟨#[]⟩, .string ⟨#[]⟩, .string ⟨#[]⟩, .string ⟨#[]⟩, .string ⟨#[]⟩, .string ⟨#[]⟩, .string ⟨#[]⟩, .string ⟨#[]⟩, .string ⟨#[]⟩, .string ⟨#[]⟩, .string ⟨#[]⟩, .string ⟨#[]⟩, .string ⟨#[]⟩, .string ⟨#[]⟩] := by rfl
theorem ocells_zero : (ocells oz0).toArray = #[.string ⟨#[]⟩, .string ⟨#[]⟩, .string ⟨#[]⟩, .string ⟨#[]⟩, .string ⟨#[]⟩, .string ⟨#[]⟩, .string ⟨#[]⟩, .string ⟨#[]⟩, .string ⟨#[]⟩, .string ⟨#[]⟩, .string ⟨#[]⟩, .string ⟨#[]⟩, .string ⟨#[]⟩, .string ⟨#[]⟩, .string ⟨#[]⟩, .string ⟨#[]⟩, .string ⟨#[]⟩, .string ⟨#[]⟩, .string ⟨#[]⟩, .string ⟨#[]⟩, .string ⟨#[]⟩, .string ⟨#[]⟩, .string ⟨#[]⟩, .string ⟨#[]⟩, .string ⟨#[]⟩, .string ⟨#[]⟩, .string ⟨#[]⟩, .string ⟨#[]⟩, .string ⟨#[]⟩, .string ⟨#[]⟩, .string ⟨#[]⟩, .string ⟨#[]⟩] := by
  rw [ocells_rep]
  exact oz_lit
theorem sl_self (d : ByteArray) (h : d.size = 160) : d = sl (byt d) 0 160 := by
  have := sl_dat d 0
  rw [h] at this
  exact this
theorem img_size (d : ByteArray) (h : d = dataB 3 20) : d.size = 160 := by rw [h, dataB_size]
theorem sl_image (d : ByteArray) (h : d = dataB 3 20) : d = sl (byt d) 0 160 := sl_self d (img_size d h)

/-! ### an array loaded and stored whole -/
theorem setCells_row (B : Nat) : ∀ (vs : List Value) (i : Nat) (W : World), W.setCells B i vs = setRow W B i vs
  | [], _, _ => rfl
  | v :: vs, i, W => setCells_row B vs (i + 1) (W.setCell ⟨B, i, none⟩ v)
theorem loadVar_at {P : Program} {W : World} {B : Nat} {cs : List Value} (ty : TypeId) (h : AtF W B cs) (d : TypeDesc) (hu : P.underlying ty = some d) (hd : (match d with | .struct _ | .array _ _ => true | _ => false) = true) (hi : (P.info? ty).map (·.size) = some cs.length) :
    (loadVar ty ⟨B, 0, none⟩).run P W = .ok (.agg cs.toArray) W := by
  have hl : (loadCells ⟨B, 0, none⟩ cs.length).run P W = .ok cs.toArray W :=
    run_loadCells_list (P := P) W ⟨B, 0, none⟩ cs (fun j v hv => by
      have hadd : (⟨B, 0, none⟩ : Addr).add j = ⟨B, j, none⟩ := by unfold Addr.add; split <;> simp_all
      rw [hadd]
      exact h.1.2 j v hv)
  cases hq : P.info? ty with
  | none => simp [hq] at hi
  | some i =>
    have hs : i.size = cs.length := by simpa [hq] using hi
    have hagg : (isAgg ty).run P W = .ok true W := by
      unfold isAgg
      rw [Sem.run_bind, run_underlying hu W]
      cases d <;> simp_all
    simp [loadVar, Sem.run_bind, hagg, sizeOf, typeInfo, hq, hs, hl]
theorem storeVar_at {P : Program} {W : World} {B : Nat} {cs vs : List Value} (ty : TypeId) (h : AtF W B cs) (hv : vs.length = cs.length) (h1 : ∀ v ∈ vs, v.oneCell' = true) (hi : (P.info? ty).map (·.size) = some vs.length) :
    (storeVar ty ⟨B, 0, none⟩ (.agg vs.toArray)).run P W = .ok () (setRow W B 0 vs) := by
  have := run_storeCells_cells (P := P) B 0 vs 0 W (fun j hj => by
    have hc : cs[j]? = some (cs[j]'(by omega)) := List.getElem?_eq_getElem _
    simp only [Nat.zero_add]
    rw [h.1.2 j _ hc]; rfl) (fun j hj => by simp only [Nat.zero_add]; exact h.2 j) h1
  rw [setCells_row] at this
  cases hq : P.info? ty with
  | none => simp [hq] at hi
  | some i =>
    have hs : vs.length = i.size := by simp [hq] at hi; omega
    simp only [Nat.add_zero] at this
    simp [storeVar, sizeOf, typeInfo, hq, Value.cells, hs, this]
theorem wpList_load_at {P : Program} {ops : Array Oper} {rest : List Oper} {o : Oper} {a : Act} {w : World} {Q : Exit → Act → World → Prop} (hgd : o.guard = none) (ty : TypeId) (x : Operand) (ho : o.op = .load ty x)
    {B : Nat} {cs : List Value} (hx : a.eval x = .pointer (some ⟨B, 0, none⟩)) (hB : AtF w B cs) (d : TypeDesc) (hu : P.underlying ty = some d) (hd : (match d with | .struct _ | .array _ _ => true | _ => false) = true) (hi : (P.info? ty).map (·.size) = some cs.length)
    (h : wpList P ops Q rest (a.put o.dst (.agg cs.toArray)) w) : wpList P ops Q (o :: rest) a w :=
  wpList_plain hgd fun _ hK => by
    unfold Oper.wp execOp
    simp only [ho, hx, Instr.loadAt, Instr.sureAddr, Sem.run_bind, Sem.run_pure, Result.andThen_ok, loadVar_at ty hB d hu hd hi]
    exact hK _ _ h
theorem wpList_store_at {P : Program} {ops : Array Oper} {rest : List Oper} {o : Oper} {a : Act} {w : World} {Q : Exit → Act → World → Prop} (hgd : o.guard = none) (ty : TypeId) (x y : Operand) (ho : o.op = .store ty x y)
    {B : Nat} {cs vs : List Value} (hx : a.eval x = .pointer (some ⟨B, 0, none⟩)) (hy : a.eval y = .agg vs.toArray) (hB : AtF w B cs) (hv : vs.length = cs.length) (h1 : ∀ v ∈ vs, v.oneCell' = true) (hi : (P.info? ty).map (·.size) = some vs.length)
    (h : wpList P ops Q rest (a.put o.dst undef) (setRow w B 0 vs)) : wpList P ops Q (o :: rest) a w :=
  wpList_plain hgd fun _ hK => by
    unfold Oper.wp execOp
    simp only [ho, hx, hy, Instr.storeAt, Instr.sureAddr, Sem.run_bind, Sem.run_pure, Result.andThen_ok, storeVar_at ty hB hv h1 hi]
    exact hK _ _ h

set_option maxRecDepth 100000 in
set_option maxHeartbeats 16000000 in
theorem apply_any (L : List BM) (v : Value) (w : World) (h : BL w v L) (hn : L.length ≤ 100) (hok : ∀ x ∈ L, okU x.bu = true ∧ x.b.sec + x.b.cnt ≤ 20) :
    Calls Try.prog 40 #[v] w fun e w' => e = .returned (.tuple #[.agg (ocells (runA (A0 (dataB 3 20)) (L.map BM.bu)).2).toArray, .string (sl (runA (A0 (dataB 3 20)) (L.map BM.bu)).1 0 160)]) ∧ Bel w w' := by
  obtain ⟨A, c, rfl, _, _⟩ := h.form
  obtain ⟨n, Hn⟩ : ∃ n, Hid (n = L.length) := ⟨_, rfl⟩
  have HBL := Lib.hid h
  have HOK := Lib.hid hok
  obtain ⟨Q, HQ⟩ : ∃ Q, Hid (Q = L.map BM.bu) := ⟨_, rfl⟩
  obtain ⟨d0, HD0⟩ : ∃ d, Hid (d = dataB 3 20) := ⟨_, rfl⟩
  have HIMG := Lib.hid (fun w' => image_any w')
  rw [← HD0.out] at HIMG ⊢
  have HD1 := Lib.hid (sl_image d0 HD0.out)
  obtain ⟨AA, HAA⟩ : ∃ s, Hid (s = A0 d0) := ⟨_, rfl⟩
  have HA2 : Hid (AA.2 = oz0) := by show _ = _; rw [HAA.out]; rfl
  have HA1 : Hid (sl AA.1 0 160 = d0) := by show _ = _; rw [HAA.out]; exact HD1.out.symm
  rw [← Hn.out, ← HQ.out, ← HAA.out]
  rw [← Hn.out] at hn
  clear h hok
  go_enter Try.func40, Try.ntmps40
  go_wp2_with fail
  have hR := AtF.new_at (w := w) rfl 60 (ocells oz0)
  have hbw : Bel w (w.alloc (.cells (ocells oz0).toArray 60)) := (by repeat (first | (with_reducible exact Bel.refl _) | (with_reducible assumption) | (with_reducible refine Bel.drewN ?_ _) | (with_reducible refine Bel.drew ?_) | (with_reducible refine Bel.alloc ?_ _) | (with_reducible refine Bel.setNew ?_ ?_ _) | (with_reducible refine Bel.trans ?_ (by assumption)) | (focus (simp; done)) | (focus (simp; omega))))
  rw [← ocells_zero]
  refine (HIMG.out _).mono ?_; rintro e w1 ⟨rfl, hb1⟩
  have hR1 := hR.bel hb1
  have hO := AtF.new_at (w := w1) rfl 60 (ocells oz0)
  have hRO := hR1.alloc (.cells (ocells oz0).toArray 60)
  have hlt : w.heap.size < w1.heap.size := hR1.1.1
  have hbw1 : Bel w (w1.alloc (.cells (ocells oz0).toArray 60)) := (hbw.trans hb1).alloc _
  clear hR hbw hb1 hR1
  rw [← HA1.out]
  go_wp2
  rw [← ocells_zero]
  generalize w1.heap.size = B5 at *
  obtain ⟨B2, HB2⟩ : ∃ b, Hid (b = w.heap.size) := ⟨_, rfl⟩
  rw [← HB2.out] at hRO hlt ⊢
  obtain ⟨W0, HW0⟩ : ∃ W, Hid (W = w1.alloc (.cells (ocells oz0).toArray 60)) := ⟨_, rfl⟩
  rw [← HW0.out] at hO hRO hbw1 ⊢
  clear HW0
  rw [← HA2.out] at hO hRO
  go_loopw [4, 6] (fun mv iv wr => ∃ i : Nat, iv = .int .i64 i ∧ i ≤ n ∧ mv = .string (sl (runA AA (Q.take i)).1 0 160) ∧ AtF wr B2 (ocells AA.2) ∧ AtF wr B5 (ocells (runA AA (Q.take i)).2) ∧ Bel w wr) (fun _ iv _ => n - (intOf iv).toNat)
  case atStart => exact ⟨0, rfl, by omega, rfl, hRO, hO, hbw1⟩
  case round =>
    clear hO hRO hbw1
    obtain ⟨i, rfl, p1, rfl, hR, hO, hbr⟩ := hrel
    obtain ⟨W1, rfl⟩ : ∃ X, X = wr := ⟨_, rfl⟩
    by_cases hlt2 : i < n
    · have hin : (i : Int) < (n : Int) := by omega
      obtain ⟨x, hx⟩ : ∃ x, L[i]? = some x := ⟨L[i]'(by have := Hn.out; omega), List.getElem?_eq_getElem _⟩
      obtain ⟨hxo, hxt⟩ := HOK.out x (List.mem_of_getElem? hx)
      obtain ⟨g, o, cx, hat⟩ := HBL.out.at hx
      have HST : Hid (runA AA (Q.take (i + 1)) = stepA (runA AA (Q.take i)) x.bu) := by
        show _ = _
        rw [List.take_add_one, HQ.out, List.getElem?_map, hx]
        simp only [Option.map_some, Option.toList_some]
        rw [runA_app]
        rfl
      have hfo := hat.form
      injection hfo with h1 h2 h3
      subst h1
      clear h2 h3 hx
      have hrow := hat.row.bel hbr hat.lt
      have hmx := hat.mem
      clear hat
      obtain ⟨⟨f, oo⟩, HSS⟩ : ∃ s, Hid (runA AA (Q.take i) = s) := ⟨_, rfl⟩
      rw [HSS.out] at hO HST ⊢
      have HRG := Lib.hid (okU_range hxo)
      have HKN := Lib.hid (okU_knd hxo)
      have HMB := Lib.hid (fun m (hm : m ∈ x.ms) => okU_mem (u := x.bu) hxo hm)
      have HML : Hid (x.ms.length ≤ 128) := (len_small hxo)
      obtain ⟨⟨i1, t1, k1, s1, n1, d1, f1, a1, l1, c1, m1⟩, ms1⟩ := x
      have HMX := Lib.hid hmx
      obtain ⟨hl, hr, hmi, _⟩ := hmx
      simp only at hl hr hrow hxt hmi
      subst hl
      have g1 : 0 ≤ s1 := HRG.out.1
      have g2 : 1 ≤ n1 := HRG.out.2.2.1
      have HR := Lib.hid hr
      have HMI := Lib.hid hmi
      clear hr hmi hxo
      obtain ⟨im, HIM⟩ : ∃ s, Hid (s = sl f 0 160) := ⟨_, rfl⟩
      have hims : im.size = 160 := by rw [HIM.out, sl_size]
      rw [← HIM.out]
      obtain ⟨tx, HTX⟩ : ∃ s, Hid (s = sl f (s1.toNat * 8) (n1.toNat * 8)) := ⟨_, rfl⟩
      have htxs : tx.size = n1.toNat * 8 := by rw [HTX.out, sl_size]
      have e1 : IntKind.i64.wrap (s1 * 8) = s1 * 8 := IntWalk.i64_in _ (by omega)
      have e2 : IntKind.i64.wrap (n1 * 8) = n1 * 8 := IntWalk.i64_in _ (by omega)
      have e3 : IntKind.i64.wrap (s1 * 8 + n1 * 8) = s1 * 8 + n1 * 8 := IntWalk.i64_in _ (by omega)
      have hcut : ∀ W, (Instr.slice 9 (.string im) (some (.int .i64 (s1 * 8))) (some (.int .i64 (s1 * 8 + n1 * 8))) none).run Try.prog W = .ok (.string tx) W := fun W => by
        have := run_slice_string (P := Try.prog) W 9 im .i64 .i64 (s1 * 8) (s1 * 8 + n1 * 8) Try.underlying9 (by omega) (by omega) (by omega)
        rw [this, HTX.out, HIM.out, sl_cut _ _ _ (by omega) (by omega)]
        congr 2
        congr 1 <;> omega
      have b0 := (hrow).cell 0 rfl
      have b1 := (hrow).cell 1 rfl
      have b2 := (hrow).cell 2 rfl
      have b3 := (hrow).cell 3 rfl
      have b4 := (hrow).cell 4 rfl
      have b5 := (hrow).cell 5 rfl
      have b6 := (hrow).cell 6 rfl
      have b7 := (hrow).cell 7 rfl
      have b8 := (hrow).cell 8 rfl
      rw [Nat.add_zero] at b0
      clear hrow
      have hX := AtF.new_at (w := W1) rfl 27 [.int .i64 i1, .int .i64 t1, .int .i64 k1, .int .i64 s1, .int .i64 n1, .string d1, .bool f1, .slice a1 ms1.length c1, .int .i64 m1]
      have hR2 := hR.alloc (.cells [.int .i64 i1, .int .i64 t1, .int .i64 k1, .int .i64 s1, .int .i64 n1, .string d1, .bool f1, .slice a1 ms1.length c1, .int .i64 m1].toArray 27)
      have hO2 := hO.alloc (.cells [.int .i64 i1, .int .i64 t1, .int .i64 k1, .int .i64 s1, .int .i64 n1, .string d1, .bool f1, .slice a1 ms1.length c1, .int .i64 m1].toArray 27)
      have hb2 := hbr.alloc (.cells [.int .i64 i1, .int .i64 t1, .int .i64 k1, .int .i64 s1, .int .i64 n1, .string d1, .bool f1, .slice a1 ms1.length c1, .int .i64 m1].toArray 27)
      have hXB : B5 < W1.heap.size := hO.1.1
      simp only [List.toArray] at hX hR2 hO2 hb2
      by_cases hk : k1 = 2
      · subst hk
        have hd1 : (d1.size : Int) = n1 * 8 := by
          rcases HKN.out with h | h
          · exact absurd (show (2 : Int) = 1 from h) (by decide)
          · exact h.2
        have HDD := Lib.hid hd1
        have e4 : IntKind.i64.wrap (s1 * 8 + (d1.size : Int)) = s1 * 8 + (d1.size : Int) := IntWalk.i64_in _ (by omega)
        obtain ⟨pa, HPA⟩ : ∃ s, Hid (s = im.extract 0 (s1.toNat * 8)) := ⟨_, rfl⟩
        obtain ⟨pb, HPB⟩ : ∃ s, Hid (s = im.extract (s1.toNat * 8 + d1.size) 160) := ⟨_, rfl⟩
        have hpa : pa.size ≤ 160 := by rw [HPA.out, ByteArray.size_extract]; omega
        have hpb : pb.size ≤ 160 := by rw [HPB.out, ByteArray.size_extract]; omega
        have hs1 : ∀ W, (Instr.slice 9 (.string im) none (some (.int .i64 (s1 * 8))) none).run Try.prog W = .ok (.string pa) W := fun W => by
          have := run_slice_string_h (P := Try.prog) W 9 im Try.underlying9 .i64 (s1 * 8) (by omega) (by omega)
          rw [this, HPA.out, show (s1 * 8).toNat = s1.toNat * 8 by omega]
        have hs2 : ∀ W, (Instr.slice 9 (.string im) (some (.int .i64 (s1 * 8 + (d1.size : Int)))) none none).run Try.prog W = .ok (.string pb) W := fun W => by
          have := run_slice_string_l (P := Try.prog) W 9 im Try.underlying9 .i64 (s1 * 8 + (d1.size : Int)) (by omega) (by omega)
          rw [this, HPB.out, hims, show (s1 * 8 + (d1.size : Int)).toNat = s1.toNat * 8 + d1.size by omega]
        obtain ⟨qa, HQA⟩ : ∃ s, Hid (s = pa ++ d1) := ⟨_, rfl⟩
        have hqa : qa.size ≤ 400 := by rw [HQA.out, ByteArray.size_append]; omega
        obtain ⟨qb, HQB⟩ : ∃ s, Hid (s = qa ++ pb) := ⟨_, rfl⟩
        have ha1 : ∀ W, (Op.stringOp .add pa d1).run Try.prog W = .ok (.string qa) W := fun W => by
          rw [run_string_add_sum W pa d1 (by omega), HQA.out]
        have ha2 : ∀ W, (Op.stringOp .add qa pb).run Try.prog W = .ok (.string qb) W := fun W => by
          rw [run_string_add_sum W qa pb (by omega), HQB.out]
        have HE : Hid (runA AA (Q.take (i + 1)) = (wr f (s1.toNat * 8) d1, oo) ∧ qb = sl (wr f (s1.toNat * 8) d1) 0 160) := by
          refine ⟨?_, ?_⟩
          · rw [HST.out]
            show stepA (f, oo) _ = _
            unfold stepA
            exact if_pos rfl
          · rw [HQB.out, HQA.out, HPA.out, HPB.out, HIM.out]
            exact sl_wr f _ 160 d1 (by omega)
        clear hd1
        go_wp2_with fail
        clear b0 b1 b2 b3 b4 b5 b6 b7 b8
        generalize W1.heap.size = X at *
        obtain ⟨W2, HW2⟩ : ∃ W, Hid (W = W1.alloc (.cells #[.int .i64 i1, .int .i64 t1, .int .i64 2, .int .i64 s1, .int .i64 n1, .string d1, .bool f1, .slice a1 ms1.length c1, .int .i64 m1] 27)) := ⟨_, rfl⟩
        rw [← HW2.out] at hX hR2 hO2 hb2 ⊢
        clear HW2
        have x5 := hX.1.2 5 _ rfl
        have rx5 := fun d os => cell_regrown x5 d os
        refine wp_region_lex [] 14 (by kernel_rfl) (by kernel_rfl) ?_
        simp only [List.take_succ_cons, List.take_zero, List.drop_succ_cons, List.drop_zero]
        with_reducible refine lex_seg 14 _ _ _ _ (by kernel_rfl) ?_
        simp only [List.take_succ_cons, List.take_zero, List.drop_succ_cons, List.drop_zero]
        try simp only [Act.put, List.setIfInBounds_toArray, List.set_cons_succ, List.set_cons_zero]
        repeat (go_big_quiet_step (fail))
        with_reducible refine wpQuiet_nil ?_
        with_reducible refine lex_nil ?_
        clear rx5 x5 hs1 hs2 ha1 ha2 hcut e1 e2 e3 e4
        go_wp2
        obtain ⟨q1, q2⟩ := HE.out
        have hbf := hb2.drew
        have hR3 := hR2.drew
        have hO3 := hO2.drew
        clear hX hR hO hR2 hO2 hb2
        go_roundw
        case rel => exact ⟨i + 1, by go_num, by omega, by rw [q1, q2], hR3, by rw [q1]; exact hO3, hbf⟩
        case measure => simp [intOf]; omega
      · have hk2 : (k1 == 2) = false := by simp [hk]
        have HK := Lib.hid hk
        clear hk
        go_wp2
        clear b0 b1 b2 b3 b4 b5 b6 b7 b8
        clear hcut e1 e2 e3 hk2
        generalize W1.heap.size = X at *
        obtain ⟨W2, HW2⟩ : ∃ W, Hid (W = W1.alloc (.cells #[.int .i64 i1, .int .i64 t1, .int .i64 k1, .int .i64 s1, .int .i64 n1, .string d1, .bool f1, .slice a1 ms1.length c1, .int .i64 m1] 27)) := ⟨_, rfl⟩
        rw [← HW2.out] at hX hR2 hO2 hb2 ⊢
        clear HW2 hR hO
        obtain ⟨ln, Hln⟩ : ∃ k, Hid (ms1.length = k) := ⟨_, rfl⟩
        have hln : ln ≤ 128 := by rw [← Hln.out]; exact HML.out
        rw [Hln.out] at hX
        go_loopw [10] (fun kv wk => ∃ k : Nat, kv = .int .i64 k ∧ k ≤ ln ∧ AtF wk B2 (ocells AA.2) ∧ AtF wk B5 (ocells ((ms1.take k).foldl (rd1 f s1) oo)) ∧ AtF wk X [.int .i64 i1, .int .i64 t1, .int .i64 k1, .int .i64 s1, .int .i64 n1, .string d1, .bool f1, .slice a1 ln c1, .int .i64 m1] ∧ Bel w wk) (fun kv _ => ln - (intOf kv).toNat)
        case atStart => exact ⟨0, rfl, by omega, hR2, hO2, hX, hb2⟩
        case round =>
          clear hR2 hO2 hX hb2
          obtain ⟨k, rfl, q1, hR, hO, hX, hbk⟩ := hrel
          obtain ⟨W3, rfl⟩ : ∃ X, X = wr := ⟨_, rfl⟩
          have x7 := hX.1.2 7 _ rfl
          by_cases hkl : k < ln
          · have hki : (k : Int) < (ln : Int) := by omega
            obtain ⟨m, hm⟩ : ∃ m, ms1[k]? = some m := ⟨ms1[k]'(by have := Hln.out; omega), List.getElem?_eq_getElem _⟩
            obtain ⟨be, oe, hae, hlbe, hre⟩ := mems_at HR.out hm
            subst hae
            have hre3 := hre.bel hbk hlbe
            have m0 := hre3.cell 0 rfl
            have m1' := hre3.cell 1 rfl
            have m2 := hre3.cell 2 rfl
            rw [Nat.add_zero] at m0
            have HM := Lib.hid hm
            obtain ⟨v1, v2, v3⟩ := HMB.out m (List.mem_of_getElem? hm)
            clear hre hre3 hm
            obtain ⟨id, off, ct⟩ := m
            have v3' : off + ct ≤ n1 := v3
            have v1' : 0 ≤ off := v1
            have v2' : 1 ≤ ct := v2
            clear v1 v2 v3
            have e1 : IntKind.i64.wrap (off * 8) = off * 8 := IntWalk.i64_in _ (by omega)
            have e2 : IntKind.i64.wrap (off + ct) = off + ct := IntWalk.i64_in _ (by omega)
            have e3 : IntKind.i64.wrap ((off + ct) * 8) = (off + ct) * 8 := IntWalk.i64_in _ (by omega)
            obtain ⟨ts, HTS⟩ : ∃ s, Hid (s = sl f ((s1 + off).toNat * 8) (ct.toNat * 8)) := ⟨_, rfl⟩
            have hcut : ∀ W, (Instr.slice 9 (.string tx) (some (.int .i64 (off * 8))) (some (.int .i64 ((off + ct) * 8))) none).run Try.prog W = .ok (.string ts) W := fun W => by
              have := run_slice_string (P := Try.prog) W 9 tx .i64 .i64 (off * 8) ((off + ct) * 8) Try.underlying9 (by omega) (by omega) (by omega)
              rw [this, HTS.out, HTX.out, sl_cut _ _ _ (by omega) (by omega)]
              congr 2
              congr 1 <;> omega
            obtain ⟨q, hq⟩ : ∃ q : Nat, rnd id 32 = (q : Int) := ⟨(rnd id 32).toNat, by have := rnd_lo id 32; omega⟩
            have hq3 : (q : Int) < 32 := by rw [← hq]; exact rnd_hi id 32 (by omega)
            have HRND := Lib.hid (fun w' => round_any id 32 w' (by omega))
            rw [hq] at HRND
            have HSL : Hid (slotM ⟨id, off, ct⟩ = q) := by show (rnd id 32).toNat = q; rw [hq]; simp
            clear hq
            have hY := AtF.new_at (w := W3) rfl 59 [.int .i64 id, .int .i64 off, .int .i64 ct]
            have hR4 := hR.alloc (.cells [.int .i64 id, .int .i64 off, .int .i64 ct].toArray 59)
            have hO4 := hO.alloc (.cells [.int .i64 id, .int .i64 off, .int .i64 ct].toArray 59)
            have hX4 := hX.alloc (.cells [.int .i64 id, .int .i64 off, .int .i64 ct].toArray 59)
            have hb4 := hbk.alloc (.cells [.int .i64 id, .int .i64 off, .int .i64 ct].toArray 59)
            have hXY : X < W3.heap.size := hX.1.1
            simp only [List.toArray] at hY hR4 hO4 hX4 hb4
            go_wp2_with fail
            clear m0 m1' m2 x7 hR hO hX
            generalize W3.heap.size = Y at *
            obtain ⟨W4, HW4⟩ : ∃ W, Hid (W = W3.alloc (.cells #[.int .i64 id, .int .i64 off, .int .i64 ct] 59)) := ⟨_, rfl⟩
            rw [← HW4.out] at hY hR4 hO4 hX4 hb4 ⊢
            clear HW4
            have y0 := hY.1.2 0 _ rfl
            have y1 := hY.1.2 1 _ rfl
            have y2 := hY.1.2 2 _ rfl
            have ry0 := fun d os => cell_regrown y0 d os
            have ry1 := fun d os => cell_regrown y1 d os
            have ry2 := fun d os => cell_regrown y2 d os
            obtain ⟨oc, HOC⟩ : ∃ o, Hid (o = (ms1.take k).foldl (rd1 f s1) oo) := ⟨_, rfl⟩
            rw [← HOC.out] at hO4
            refine wp_region_lex [2] 15 (by kernel_rfl) (by kernel_rfl) ?_
            simp only [List.take_succ_cons, List.take_zero, List.drop_succ_cons, List.drop_zero]
            with_reducible refine lex_seg 2 _ _ _ _ (by kernel_rfl) ?_
            simp only [List.take_succ_cons, List.take_zero, List.drop_succ_cons, List.drop_zero]
            try simp only [Act.put, List.setIfInBounds_toArray, List.set_cons_succ, List.set_cons_zero]
            repeat (go_big_quiet_step (fail))
            with_reducible refine wpQuiet_nil ?_
            refine lex_call 14 rfl rfl (by simp [go_sem]; rfl) ?_
            refine (HRND.out _).mono ?_; rintro e w9 ⟨rfl, rfl⟩
            refine ⟨_, rfl, Bel.refl _, ?_⟩
            with_reducible refine lex_seg 12 _ _ _ _ (by kernel_rfl) ?_
            simp only [List.take_succ_cons, List.take_zero, List.drop_succ_cons, List.drop_zero]
            try simp only [Act.put, List.setIfInBounds_toArray, List.set_cons_succ, List.set_cons_zero]
            repeat (go_big_quiet_step (fail))
            with_reducible refine wpQuiet_nil ?_
            with_reducible refine lex_nil ?_
            clear ry0 ry1 ry2 y0 y1 y2 e1 e2 e3 hcut hY
            have hOd := hO4.drew
            have c0 := hOd.1.2 q _ (ocells_at oc (by omega))
            have cf := hOd.2 q
            have cl := hOd.1.1
            have hO5 := hOd.set q (by rw [ocells_len]; omega) (.string ts)
            rw [ocells_set] at hO5
            have HST5 : Hid ((fun j => if j = q then ts else oc j) = (ms1.take (k + 1)).foldl (rd1 f s1) oo) := by
              show _ = _
              rw [List.take_add_one, HM.out, List.foldl_append, ← HOC.out]
              show _ = rd1 f s1 oc ⟨id, off, ct⟩
              funext j
              unfold rd1
              rw [HSL.out, HTS.out]
            rw [HST5.out] at hO5
            have hR5 := hR4.drew.other (C := B5) (by omega) q (.string ts)
            have hX5 := hX4.drew.other (C := B5) (by omega) q (.string ts)
            have hb5 : Bel w (W4.drew.setCell ⟨B5, q, none⟩ (.string ts)) := hb4.drew.setNew (by have := HB2.out; show w.heap.size ≤ B5; omega) _
            have HZ := Lib.hid (And.intro hR5 (And.intro hO5 (And.intro hX5 hb5)))
            clear hR4 hO4 hX4 hb4 hOd hR5 hO5 hX5 hb5
            go_wp2
            obtain ⟨z1, z2, z3, z4⟩ := HZ.out
            clear c0 cf cl HZ
            go_roundw
            case rel => exact ⟨k + 1, by go_num, by omega, z1, z2, by rw [← Hln.out]; rw [← Hln.out] at z3; exact z3, z4⟩
            case measure => simp [intOf]; omega
          · obtain rfl : k = ln := by omega
            have hkk : decide ((k : Int) < (k : Int)) = false := by simp
            have hall : ms1.take k = ms1 := List.take_of_length_le (by have := Hln.out; omega)
            rw [hall] at hO
            have HE : Hid (runA AA (Q.take (i + 1)) = (f, ms1.foldl (rd1 f s1) oo)) := by
              show _ = _
              rw [HST.out]
              show stepA (f, oo) _ = _
              unfold stepA
              exact if_neg HK.out
            clear hall
            go_wp2
            clear x7
            have q2 := HE.out
            clear hX
            go_roundw
            case rel => exact ⟨i + 1, by go_num, by omega, by rw [q2, HIM.out], hR, by rw [q2]; exact hO, hbk⟩
            case measure => simp [intOf]; omega
    · obtain rfl : i = n := by omega
      have hii : decide ((i : Int) < (i : Int)) = false := by simp
      have hQ : Q.take i = Q := List.take_of_length_le (by rw [HQ.out, List.length_map, ← Hn.out]; exact Nat.le_refl _)
      rw [hQ] at hO ⊢
      obtain ⟨im, HIM⟩ : ∃ s, Hid (sl (runA AA Q).1 0 160 = s) := ⟨_, rfl⟩
      obtain ⟨oc, HOC⟩ : ∃ s, Hid ((runA AA Q).2 = s) := ⟨_, rfl⟩
      rw [HOC.out] at hO
      rw [HIM.out]
      have hi32 : (Try.prog.info? 60).map (·.size) = some (ocells oc).length := by rw [ocells_len]; kernel_rfl
      go_upto_region 16 with fail
      refine wp_region_lit ?_
      refine wpList_load_at rfl 60 (.tmp 5) rfl rfl hO _ Try.underlying60 rfl hi32 ?_
      refine wpList_plain rfl fun K hK => ?_
      show K _ _
      refine hK _ _ ?_
      refine wpList_store_at rfl 60 (.tmp 2) (.tmp 78) rfl rfl rfl hR (by rw [ocells_len, ocells_len]) (ocells_one oc) hi32 ?_
      have hRf := hR.setRow (ocells oc) (by rw [ocells_len, ocells_len])
      have hbf : Bel w (setRow W1 B2 0 (ocells oc)) := Bel.setRow _ hbr (by have := HB2.out; omega)
      have hlv := loadVar_at (P := Try.prog) 60 hRf _ Try.underlying60 rfl hi32
      generalize setRow W1 B2 0 (ocells oc) = W9 at *
      obtain ⟨arr, HARR⟩ : ∃ x, Hid (x = (ocells oc).toArray) := ⟨_, rfl⟩
      rw [← HARR.out] at hlv ⊢
      simp only [Act.put, Act.eval, List.setIfInBounds_toArray, List.set_cons_succ, List.set_cons_zero]
      go_wp2
      refine bodyPost_ret (v := .tuple #[.agg arr, .string im]) (by simp [results, Try.results40, hlv, asAddr]) rfl ⟨?_, hbf⟩
      rw [HOC.out, HIM.out, HARR.out]
end Go.Proofs.Ytbijfmpmgmfpgaa
