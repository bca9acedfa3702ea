/- ref27.Overdue over a list in order. -/
import Derived.Test.YtbijfmpmgmfpgaaTmK
namespace Go.Proofs.Ytbijfmpmgmfpgaa
open Go.RowKit
set_option linter.unusedSimpArgs false

theorem wpList_append_none {P : Program} {ops : Array Oper} {rest : List Oper} {o : Oper} {a : Act} {w : World} {Q : Exit → Act → World → Prop} (hgd : o.guard = none) (s x : Operand) (t : TypeId)
    (ho : o.op = .call { callee := .builtin .append, args := #[s, x], argTypes := #[t, t] }) (base : Nat) (e : TypeId) (i : TypeInfo) (size : Nat) (ht : P.underlying t = some (.slice e)) (hi : P.info? e = some i)
    (v : Value) (n : Nat) (xs : List Value) (hs : a.eval s = v) (hx : a.eval x = .slice none 0 0) (hown : w.ownsRow base e size v n xs)
    (h : wpList P ops Q rest (a.put o.dst v) w) : wpList P ops Q (o :: rest) a w := by
  refine wpList_plain hgd fun K hK => ?_
  have hr := run_append_owned_none (P := P) w base t o.type e i size ht hi v n xs hown
  unfold Oper.wp execOp
  simp only [ho, resolve, invoke, builtin, Sem.run_bind, Sem.run_pure, Result.andThen_ok, List.map_toArray, List.map_cons, List.map_nil, hs, hx, hr]
  exact hK _ _ h
def dueW (L now : Int) (ms : List Wt) : List Wt := ms.filter fun m => decide (m.at_ + L ≤ now)

set_option maxRecDepth 100000 in
set_option maxHeartbeats 8000000 in
theorem overdue_any (L s now : Int) (v : Value) (ms : List Wt) (w : World) (h : Rd w v 2 ms.length (wcells ms)) (hn : ms.length ≤ 16) (hS : Srt ms) (hI : InR ms) (hL : limB L = true) :
    Calls Try.prog 51 #[.agg #[.int .i64 L, v, .int .i64 s], .int .i64 now] w fun e w' => ∃ v', e = .returned v' ∧ w'.ownsRow w.heap.size 3 1 v' (dueL L now ms).length (icells (dueL L now ms)) ∧ Bel w w' := by
  obtain ⟨i0, hi0, hz0, hz1, hz2⟩ := info_parts Try.infoWt
  obtain ⟨j0, hj0, hy0, hy1, hy2⟩ := info_parts Try.infoInt
  obtain ⟨l1, l2⟩ := limB_iff.1 hL
  have HIR : Hid (∀ m ∈ ms, 0 ≤ m.at_ ∧ m.at_ ≤ 1099511627776) := Lib.hid (fun m hm => sncB_iff.1 (hI m hm))
  have HIB : Hid (∀ m ∈ ms, sncB m.at_ = true) := Lib.hid hI
  have HPW : Hid (∀ (a b : Nat) (x y : Wt), ms[a]? = some x → ms[b]? = some y → a < b → x.at_ ≤ y.at_) := Lib.hid (fun a b x y hx hy hab => by
    obtain ⟨h1, rfl⟩ := List.getElem?_eq_some_iff.1 hx
    obtain ⟨h2, rfl⟩ := List.getElem?_eq_some_iff.1 hy
    exact List.pairwise_iff_getElem.1 (srt_pw hS) a b h1 h2 hab)
  obtain ⟨A, c, rfl, hc1, hc2⟩ := h.form
  have HAT := Lib.hid (fun k m (hk : ms[k]? = some m) => wts_at h hk)
  have HDL : Hid (dueL L now ms = (dueW L now ms).map Wt.id) := Lib.hid rfl
  have HDW : Hid (dueW L now ms = ms.filter fun m => decide (m.at_ + L ≤ now)) := Lib.hid rfl
  generalize dueL L now ms = dl at *
  obtain ⟨n, Hn⟩ : ∃ n, Hid (n = ms.length) := ⟨_, rfl⟩
  rw [← Hn.out] at hn ⊢
  clear h hc1 hc2 hS hI
  have hX := AtF.new w 68 [.int .i64 L, .slice A n c, .int .i64 s]
  simp only [List.toArray] at hX
  go_enter Try.func51, Try.ntmps51
  go_wp2_with fail
  refine (refLimit_any L s _ _).mono ?_; rw [hL]; rintro e w1 ⟨rfl, hb1⟩
  have hX1 := hX.bel hb1
  have hbw : Bel w w1 := (by repeat (first | (with_reducible exact Bel.refl _) | (with_reducible assumption) | (with_reducible refine Bel.drewN ?_ _) | (with_reducible refine Bel.drew ?_) | (with_reducible refine Bel.alloc ?_ _) | (with_reducible refine Bel.setNew ?_ ?_ _) | (with_reducible refine Bel.trans ?_ (by assumption)) | (focus (simp; done)) | (focus (simp; omega))))
  clear hX hb1
  go_wp2
  go_loopw [5, 6] (fun ov iv wr => ∃ (i : Nat) (F : List Wt), iv = .int .i64 i ∧ i ≤ n ∧ Hid (F = (ms.take i).filter fun m => decide (m.at_ + L ≤ now)) ∧ F.length ≤ i ∧ (F.length = 0 → ov = .slice none 0 0) ∧ wr.ownsRow w1.heap.size 96 2 ov F.length (wcells F) ∧ Bel w1 wr) (fun _ iv _ => n - (intOf iv).toNat)
  case atStart => exact ⟨0, [], rfl, by omega, Lib.hid (by simp), by simp, fun _ => rfl, ⟨by simp [wcells], Or.inl ⟨rfl, rfl⟩⟩, Bel.refl _⟩
  case round =>
    obtain ⟨i, F, rfl, p1, HF, p2, hnil, hown, hbr⟩ := hrel
    obtain ⟨Ao, co, rfl⟩ := own_slice hown
    have hXr := hX1.bel hbr
    have a0 := hXr.1.2 0 _ rfl
    have a1 := hXr.1.2 1 _ rfl
    have al := hXr.1.1
    obtain ⟨k, Hk⟩ : ∃ k, Hid (k = F.length) := ⟨_, rfl⟩
    rw [← Hk.out] at hown p2 hnil ⊢
    by_cases hlt : i < n
    · have i1 : (i : Int) < (n : Int) := by omega
      obtain ⟨m, hm⟩ : ∃ m, ms[i]? = some m := ⟨ms[i]'(by have := Hn.out; omega), List.getElem?_eq_getElem _⟩
      obtain ⟨b, o, rfl, hlb, hrow⟩ := HAT.out i m hm
      have hrow := hrow.bel (hbw.trans hbr) hlb
      have d0 := hrow.cell 0 rfl
      have d1 := hrow.cell 1 rfl
      rw [Nat.add_zero] at d0
      have hmm := List.mem_of_getElem? hm
      obtain ⟨g1, g2⟩ := HIR.out m hmm
      have hsb := HIB.out m hmm
      have HTK := Lib.hid (filter_take (p := fun m : Wt => decide (m.at_ + L ≤ now)) hm)
      have hlw : b < wr.heap.size := Nat.lt_of_lt_of_le hlb (hbw.trans hbr).size
      have HLE : Hid (∀ x ∈ F, x.at_ ≤ m.at_) := Lib.hid (fun x hx => by
        rw [HF.out, List.mem_filter] at hx
        obtain ⟨j, hj, rfl⟩ := List.mem_take_iff_getElem.1 hx.1
        exact HPW.out j i _ m (List.getElem?_eq_getElem (by omega)) hm (by omega))
      clear hm hrow hmm
      go_wp2_with fail
      refine (early_any m.at_ _).mono ?_; rw [hsb]; rintro e w2 ⟨rfl, rfl⟩
      have hbs := hbr.size
      by_cases hd : m.at_ + L ≤ now
      · have HF2 : Hid (F ++ [m] = (ms.take (i + 1)).filter fun m => decide (m.at_ + L ≤ now)) := Lib.hid (by rw [HTK.out, ← HF.out, decide_eq_true hd]; rfl)
        have hX9 := AtF.new wr 96 [.int .i64 m.id, .int .i64 m.at_]
        have hown9 := hown.alloc (.cells [.int .i64 m.id, .int .i64 m.at_].toArray 96)
        have hbr9 := hbr.alloc (.cells [.int .i64 m.id, .int .i64 m.at_].toArray 96)
        simp only [List.toArray] at hX9 hown9 hbr9
        obtain ⟨WR, rfl⟩ : ∃ WR, WR = wr := ⟨_, rfl⟩
        go_wp2
        generalize WR.alloc (.cells #[.int .i64 m.id, .int .i64 m.at_] 96) = W9 at hX9 hown9 hbr9 ⊢
        clear a0 a1 al d0 d1 hXr hown
        go_loopw [8] (fun kv wq => kv = .int .i64 k ∧ wq = W9) (fun _ _ => 0)
        case atStart => exact ⟨rfl, rfl⟩
        case round =>
          obtain ⟨rfl, rfl⟩ := hrel
          have x0 := hX9.1.2 0 _ rfl
          have x1 := hX9.1.2 1 _ rfl
          have rx1 := fun d os => cell_regrown x1 d os
          have hbD := hbr9.drew
          have hoD := own_keep hown9 (Bel.drew (Bel.refl wr))
          have hsD : w1.heap.size ≤ wr.drew.heap.size := hbD.size
          by_cases hk0 : k = 0
          · subst hk0
            have hnn := hnil rfl
            injection hnn with hn1 hn2 hn3
            subst hn1 hn3
            go_wp2_with fail
            refine wp_region_lex [] 13 (by kernel_rfl) (by kernel_rfl) ?_
            simp only [List.take_succ_cons, List.take_zero, List.drop_succ_cons, List.drop_zero]
            with_reducible refine lex_seg 13 _ _ _ _ (by kernel_rfl) ?_
            simp only [List.take_succ_cons, List.take_zero, List.drop_succ_cons, List.drop_zero]
            try simp only [Act.put, List.setIfInBounds_toArray, List.set_cons_succ, List.set_cons_zero]
            repeat (go_big_quiet_step (fail))
            with_reducible refine wpQuiet_nil ?_
            with_reducible refine lex_nil ?_
            clear rx1
            have hXD := hX9.drew
            have y0 := hXD.1.2 0 _ rfl
            have y1 := hXD.1.2 1 _ rfl
            have hF0 : F = [] := List.length_eq_zero_iff.1 Hk.out.symm
            have hE : Hid (Wt.cells m = wcells (F ++ [m])) := Lib.hid (by rw [hF0]; simp [wcells])
            have hFl : Hid ((F ++ [m]).length = 1) := Lib.hid (by rw [hF0]; rfl)
            clear x0 x1 hown9 hbr9 hX9 hF0
            go_wp2_with (at_builtin; first
              | (refine wpList_append_none rfl _ _ 66 rfl w1.heap.size 96 i0 2 Try.underlying66 hi0 (.slice none 0 0) 0 [] rfl rfl ⟨rfl, Or.inl ⟨rfl, rfl⟩⟩ ?_)
              | (refine wpList_append_own_at _ rfl _ _ 66 rfl w1.heap.size 96 i0 _ 2 16 Try.underlying66 hi0 hz0 hz1 hz2 rfl (by omega) (.slice none 0 0) 0 [] rfl ⟨rfl, Or.inl ⟨rfl, rfl⟩⟩ ⟨wr.heap.size, 0, none⟩ 1 1 (Wt.cells m) rfl rfl (World.news_of_block (cs := #[.int .i64 m.id, .int .i64 m.at_]) (t := 96) (fr := (0, 0)) (heap_new_at rfl)) (fun u hu => by simp [Wt.cells] at hu; rcases hu with rfl | rfl <;> rfl) (by unfold maxLen; omega) (by omega) (by simp; have hq9 : w1.heap.size ≤ wr.heap.size := hsD; omega) ?_; intro v3 W3 ho3 hg3' _ _; obtain ⟨gm, cm, hvm, _, _⟩ := ho3.form (by omega); subst hvm; have hb3 := bel_own (hbD.alloc _) (base := w1.heap.size) (e := 96) (size := 2) (v := .slice none 0 0) (n := 0) (xs := []) ⟨rfl, Or.inl ⟨rfl, rfl⟩⟩ hg3' (Nat.le_refl _); simp only [Nat.zero_add, List.nil_append] at ho3)
              | (refine wpList_append_none rfl _ _ 66 rfl w1.heap.size 96 i0 2 Try.underlying66 hi0 (.slice (some ⟨gm, 0, none⟩) 1 cm) 1 _ rfl rfl ho3 ?_))
            rw [hE.out] at ho3
            go_roundw
            case rel => exact ⟨i + 1, F ++ [m], by go_num, by omega, HF2, by rw [hFl.out]; omega, fun h => absurd h (by rw [hFl.out]; omega), by rw [hFl.out]; exact ho3, hb3⟩
            case measure => simp [intOf]; omega
          · have hk1 : (0 : Int) < (k : Int) := by omega
            obtain ⟨g, co', hv, hg1, hg2⟩ := hoD.form (by omega)
            injection hv with hv1 hv2 hv3
            subst hv1 hv3
            obtain ⟨x, hx⟩ : ∃ x, F[k - 1]? = some x := ⟨F[k - 1]'(by have := Hk.out; omega), List.getElem?_eq_getElem _⟩
            have hxm := HLE.out x (List.mem_of_getElem? hx)
            have e1 : wr.cell? ⟨g, (k - 1) * 2 + 1, none⟩ = some (.int .i64 x.at_) := by
              rw [hown9.cellAt _ (by omega)]
              exact flat_at (f := Wt.cells) Wt.cells_len hx (j := 1) rfl
            have e0 : wr.cell? ⟨g, (k - 1) * 2, none⟩ = some (.int .i64 x.id) := by
              rw [hown9.cellAt _ (by omega)]
              exact flat_at (f := Wt.cells) Wt.cells_len hx (j := 0) rfl
            have re0 := fun d os => cell_regrown e0 d os
            have re1 := fun d os => cell_regrown e1 d os
            obtain ⟨q, rfl⟩ : ∃ q, k = q + 1 := ⟨k - 1, by omega⟩
            rw [Nat.add_sub_cancel] at e0 e1 re0 re1
            have hle : ¬ m.at_ < x.at_ := by omega
            clear hx
            go_wp2_with fail
            refine wp_region_lex [] 13 (by kernel_rfl) (by kernel_rfl) ?_
            simp only [List.take_succ_cons, List.take_zero, List.drop_succ_cons, List.drop_zero]
            with_reducible refine lex_seg 13 _ _ _ _ (by kernel_rfl) ?_
            simp only [List.take_succ_cons, List.take_zero, List.drop_succ_cons, List.drop_zero]
            try simp only [Act.put, List.setIfInBounds_toArray, List.set_cons_succ, List.set_cons_zero]
            repeat (go_big_quiet_step (fail))
            with_reducible refine wpQuiet_nil ?_
            with_reducible refine lex_nil ?_
            clear rx1 re0 re1
            have hlF : (wcells F).length = (q + 1) * 2 := by rw [wcells_len, ← Hk.out]
            have hXD := hX9.drew
            have hcap : q + 1 ≤ co := by
              obtain ⟨A7, c7, h1, h2, h3⟩ := (Rd.own hoD).form
              injection h1 with h4 h5 h6
              omega
            have hE : Hid (wcells F ++ Wt.cells m = wcells (F ++ [m])) := Lib.hid (by rw [wcells_app]; simp [wcells])
            have hFl : Hid ((F ++ [m]).length = q + 1 + 1) := Lib.hid (by rw [List.length_append, ← Hk.out]; rfl)
            clear x0 x1 e0 e1 hown9 hbr9 hX9
            by_cases hcc : co = q + 1
            · subst hcc
              go_wp2_with (at_builtin; first
                | (refine wpList_append_own_at _ rfl _ _ 66 rfl w1.heap.size 96 i0 _ 2 16 Try.underlying66 hi0 hz0 hz1 hz2 rfl (by omega) (.slice none 0 0) 0 [] rfl ⟨rfl, Or.inl ⟨rfl, rfl⟩⟩ ⟨g, 0, none⟩ (q + 1) _ (wcells F) rfl hlF (hoD.cells rfl) (wcells_one F) (by unfold maxLen; omega) (by omega) hsD ?_; intro v' W2 ho2 hg2' _ _; obtain ⟨gn, cn, hvn, _, _⟩ := ho2.form (by omega); subst hvn; simp only [Nat.zero_add, List.nil_append] at ho2; have hb2 := bel_own hbD (base := w1.heap.size) (e := 96) (size := 2) (v := .slice none 0 0) (n := 0) (xs := []) ⟨rfl, Or.inl ⟨rfl, rfl⟩⟩ hg2' (Nat.le_refl _); have hX2 := hXD.grown hg2' (by simp [Value.ownBlock]); have y0 := hX2.1.2 0 _ rfl; have y1 := hX2.1.2 1 _ rfl; have hs2 := hb2.size)
                | (refine wpList_append_own_at _ rfl _ _ 66 rfl w1.heap.size 96 i0 _ 2 16 Try.underlying66 hi0 hz0 hz1 hz2 rfl (by omega) (.slice (some ⟨gn, 0, none⟩) (q + 1) cn) _ _ rfl (ho2.alloc _) ⟨W2.heap.size, 0, none⟩ 1 1 (Wt.cells m) rfl rfl (World.news_of_block (cs := #[.int .i64 m.id, .int .i64 m.at_]) (t := 96) (fr := (0, 0)) (heap_new_at rfl)) (fun u hu => by simp [Wt.cells] at hu; rcases hu with rfl | rfl <;> rfl) (by unfold maxLen; omega) (by omega) (by simp; omega) ?_; intro v3 W3 ho3 hg3' _ _; obtain ⟨gm, cm, hvm, _, _⟩ := ho3.form (by omega); subst hvm; have hb3 := bel_own (hb2.alloc _) (ho2.alloc _) hg3' (Nat.le_refl _); have hs3 := hb3.size)
                | (refine wpList_append_own_at _ rfl _ _ 66 rfl w1.heap.size 96 i0 _ 2 16 Try.underlying66 hi0 hz0 hz1 hz2 rfl (by omega) (.slice (some ⟨gm, 0, none⟩) (q + 1 + 1) cm) _ _ rfl ho3 _ 0 _ [] rfl rfl (fun j u hj => by simp at hj) (fun u hu => by cases hu) (by unfold maxLen; omega) (by omega) hs3 ?_; intro v4 W4 ho4 hg4' _ _; obtain ⟨gz, cz, hvz, _, _⟩ := ho4.form (by omega); subst hvz; have hb4 := bel_own hb3 ho3 hg4' (Nat.le_refl _); simp only [Nat.add_zero, List.append_nil] at ho4))
              rw [hE.out] at ho4
              go_roundw
              case rel => exact ⟨i + 1, F ++ [m], by go_num, by omega, HF2, by rw [hFl.out]; omega, fun h => absurd h (by rw [hFl.out]; omega), by rw [hFl.out]; exact ho4, hb4⟩
              case measure => simp [intOf]; omega
            · skip
              go_wp2_with (at_builtin; first
                | (refine wpList_append_own_at _ rfl _ _ 66 rfl w1.heap.size 96 i0 _ 2 16 Try.underlying66 hi0 hz0 hz1 hz2 rfl (by omega) (.slice none 0 0) 0 [] rfl ⟨rfl, Or.inl ⟨rfl, rfl⟩⟩ ⟨g, 0, none⟩ (q + 1) _ (wcells F) rfl hlF (hoD.cells rfl) (wcells_one F) (by unfold maxLen; omega) (by omega) hsD ?_; intro v' W2 ho2 hg2' _ _; obtain ⟨gn, cn, hvn, _, _⟩ := ho2.form (by omega); subst hvn; simp only [Nat.zero_add, List.nil_append] at ho2; have hb2 := bel_own hbD (base := w1.heap.size) (e := 96) (size := 2) (v := .slice none 0 0) (n := 0) (xs := []) ⟨rfl, Or.inl ⟨rfl, rfl⟩⟩ hg2' (Nat.le_refl _); have hX2 := hXD.grown hg2' (by simp [Value.ownBlock]); have y0 := hX2.1.2 0 _ rfl; have y1 := hX2.1.2 1 _ rfl; have hs2 := hb2.size)
                | (refine wpList_append_own_at _ rfl _ _ 66 rfl w1.heap.size 96 i0 _ 2 16 Try.underlying66 hi0 hz0 hz1 hz2 rfl (by omega) (.slice (some ⟨gn, 0, none⟩) (q + 1) cn) _ _ rfl (ho2.alloc _) ⟨W2.heap.size, 0, none⟩ 1 1 (Wt.cells m) rfl rfl (World.news_of_block (cs := #[.int .i64 m.id, .int .i64 m.at_]) (t := 96) (fr := (0, 0)) (heap_new_at rfl)) (fun u hu => by simp [Wt.cells] at hu; rcases hu with rfl | rfl <;> rfl) (by unfold maxLen; omega) (by omega) (by simp; omega) ?_; intro v3 W3 ho3 hg3' _ _; obtain ⟨gm, cm, hvm, _, _⟩ := ho3.form (by omega); subst hvm; have hb3 := bel_own (hb2.alloc _) (ho2.alloc _) hg3' (Nat.le_refl _); have hs3 := hb3.size)
                | (refine wpList_append_own_at _ rfl _ _ 66 rfl w1.heap.size 96 i0 _ 2 16 Try.underlying66 hi0 hz0 hz1 hz2 rfl (by omega) (.slice (some ⟨gm, 0, none⟩) (q + 1 + 1) cm) _ _ rfl ho3 _ 0 _ [] rfl rfl (fun j u hj => by simp at hj) (fun u hu => by cases hu) (by unfold maxLen; omega) (by omega) hs3 ?_; intro v4 W4 ho4 hg4' _ _; obtain ⟨gz, cz, hvz, _, _⟩ := ho4.form (by omega); subst hvz; have hb4 := bel_own hb3 ho3 hg4' (Nat.le_refl _); simp only [Nat.add_zero, List.append_nil] at ho4))
              rw [hE.out] at ho4
              go_roundw
              case rel => exact ⟨i + 1, F ++ [m], by go_num, by omega, HF2, by rw [hFl.out]; omega, fun h => absurd h (by rw [hFl.out]; omega), by rw [hFl.out]; exact ho4, hb4⟩
              case measure => simp [intOf]; omega
      · have HF2 : Hid (F = (ms.take (i + 1)).filter fun m => decide (m.at_ + L ≤ now)) := Lib.hid (by rw [HTK.out, ← HF.out, decide_eq_false hd]; simp)
        go_wp2
        go_roundw
        case rel => exact ⟨i + 1, F, by go_num, by omega, HF2, by rw [← Hk.out]; omega, by rw [← Hk.out]; exact hnil, by rw [← Hk.out]; exact hown.alloc _, hbr.alloc _⟩
        case measure => simp [intOf]; omega
    · obtain rfl : i = n := by omega
      have jk : decide ((i : Int) < (i : Int)) = false := by simp
      have HFE : Hid (dueW L now ms = F) := Lib.hid (by rw [HDW.out, HF.out, List.take_of_length_le (by rw [← Hn.out]; exact Nat.le_refl _)])
      have HAF := Lib.hid (fun j x (hj : F[j]? = some x) => wts_at (A := Ao) (c := co) (by rw [← Hk.out]; exact Rd.own hown) hj)
      have HDE : Hid (dl = F.map Wt.id) := Lib.hid (by rw [HDL.out, HFE.out])
      obtain ⟨WR, rfl⟩ : ∃ WR, WR = wr := ⟨_, rfl⟩
      have hbW : Bel w WR := hbw.trans hbr
      clear hown hnil
      go_wp2
      clear a0 a1 al hXr
      go_loopw [10, 11] (fun ov jv wq => ∃ j : Nat, jv = .int .i64 j ∧ j ≤ k ∧ wq.ownsRow WR.heap.size 3 1 ov j (icells ((F.take j).map Wt.id)) ∧ Bel WR wq) (fun _ jv _ => k - (intOf jv).toNat)
      case atStart => exact ⟨0, rfl, by omega, ⟨by simp [icells], Or.inl ⟨rfl, rfl⟩⟩, Bel.refl _⟩
      case round =>
        obtain ⟨j, rfl, q1, hown, hbq⟩ := hrel
        obtain ⟨Bo, bo, rfl⟩ := own_slice hown
        by_cases hlt2 : j < k
        · have j1 : (j : Int) < (k : Int) := by omega
          obtain ⟨x, hx⟩ : ∃ x, F[j]? = some x := ⟨F[j]'(by have := Hk.out; omega), List.getElem?_eq_getElem _⟩
          obtain ⟨b, o, rfl, hlb, hrow⟩ := HAF.out j x hx
          have hrow := hrow.bel hbq hlb
          have d0 := hrow.cell 0 rfl
          rw [Nat.add_zero] at d0
          have HTK := Lib.hid (show icells ((F.take (j + 1)).map Wt.id) = icells ((F.take j).map Wt.id) ++ [.int .i64 x.id] from by
            rw [List.take_add_one, hx]; simp [icells])
          have hbs := hbq.size
          clear hx hrow
          go_wp2_with (at_builtin; go_must (refine wpList_append_own_at _ rfl _ _ 45 rfl WR.heap.size 3 j0 _ 1 8 Try.underlying45 hj0 hy0 hy1 hy2 rfl (by omega) (.slice Bo j bo) _ _ rfl (hown.alloc _) ⟨wr.heap.size, 0, none⟩ 1 1 [.int .i64 x.id] rfl rfl (World.news_of_block (cs := #[.int .i64 x.id]) (t := 3) (fr := (0, 0)) (heap_new_at rfl)) (fun u hu => by simp at hu; subst hu; rfl) (by unfold maxLen; omega) (by omega) (by simp; omega) ?_); intro v' w3 hown' hg' _ hloc; obtain ⟨gn, cn, hvn, _, _⟩ := hown'.form (by omega); subst hvn)
          have hbq3 := bel_own (hbq.alloc _) (hown.alloc _) hg' (Nat.le_refl _)
          go_roundw
          case rel => exact ⟨j + 1, by go_num, by omega, by rw [HTK.out]; exact hown', hbq3⟩
          case measure => simp [intOf]; omega
        · obtain rfl : j = k := by omega
          have jk2 : decide ((j : Int) < (j : Int)) = false := by simp
          have HO : Hid (wr.ownsRow w.heap.size 3 1 (.slice Bo j bo) dl.length (icells dl)) := Lib.hid (by
            rw [HDE.out, List.length_map, ← Hk.out]
            rw [List.take_of_length_le (by rw [← Hk.out]; exact Nat.le_refl _)] at hown
            exact own_mono hown hbW.size)
          clear hown
          go_wp2
          go_ret
          exact ⟨_, rfl, HO.out, hbW.trans hbq⟩
end Go.Proofs.Ytbijfmpmgmfpgaa
