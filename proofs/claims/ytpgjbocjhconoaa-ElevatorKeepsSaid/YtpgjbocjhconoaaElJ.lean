/- The walk of ElevatorKeeps. -/
import Derived.Test.YtpgjbocjhconoaaElZ
import Derived.Test.YtpgjbocjhconoaaBnS
import Derived.Test.YtpgjbocjhconoaaElR
namespace Go.Proofs.Ytpgjbocjhconoaa
open Go.RowKit Go.Maps
set_option linter.unusedSimpArgs false

theorem OkE.next2 {E E' : El} {now : Int} {busy : List Bu} {x : Qu} {k : Nat} (h : OkE E) (hn : NextS E now busy E' x k) : OkE E' := by
  refine ⟨by rw [hn.fl]; exact h.fl, by rw [hn.bk, List.length_set]; exact h.bk, ?_, fun y hy => ?_⟩
  · rw [hn.en]
    have := h.en
    have := List.length_eraseIdx_le E.en k
    omega
  · rw [hn.en] at hy
    exact h.ok y (List.mem_of_mem_eraseIdx hy)
theorem nxtE_cases (E : El) (now : Int) : (∃ E' x k, nxtE E now [] = (E', x.u, true) ∧ NextS E now [] E' x k) ∨ (nxtE E now [] = (E, zeroU, false) ∧ nextE E now [] = none) := by
  unfold nxtE
  cases h : nextE E now [] with
  | none => exact .inr ⟨rfl, rfl⟩
  | some p =>
    obtain ⟨E', x⟩ := p
    obtain ⟨k, hk⟩ := nextE_some h
    exact .inl ⟨E', x, k, rfl, hk⟩
/-- Where the loop of ElevatorKeeps stands. -/
structure KpI (Q : List Bu) (nb i f : Nat) (T now : Int) (E : El) (S : List BM) : Prop where
  kp : KpE E T
  ok : OkE E
  t0 : 0 ≤ T
  t1 : T ≤ now
  t2 : now ≤ T + 40
  t3 : T ≤ 40 * (S.length : Int)
  f1 : (f : Int) ≤ now - T
  ii : i ≤ 41 * S.length + f
  ln : S.length + E.en.length ≤ nb
  sc : SchS Q nb (S.map BM.bu ++ usE E)
  ms : ∀ x ∈ S, x.ms.length ≤ 128
theorem KpI.now {Q : List Bu} {nb i f : Nat} {T now : Int} {E : El} {S : List BM} (h : KpI Q nb i f T now E S) (hn : nb ≤ 8) : 0 ≤ now ∧ now ≤ 360 ∧ i ≤ 368 := by
  have h1 := h.t0
  have h2 := h.t1
  have h3 := h.t2
  have h4 := h.t3
  have h5 := h.ln
  have h6 := h.f1
  have h7 := h.ii
  omega
theorem KpI.send {Q : List Bu} (hq : DkQ Q) {nb i f : Nat} {T now : Int} {E E' : El} {S : List BM} {x : Qu} {k : Nat} {y : BM} (h : KpI Q nb i f T now E S) (hn : NextS E now [] E' x k) (hy : y.bu = x.u) : KpI Q nb (i + 1) 0 now now E' (S ++ [y]) := by
  have h1 := h.t0
  have h2 := h.t1
  have h3 := h.t2
  have h4 := h.t3
  have h6 := h.f1
  have h7 := h.ii
  have hk := (List.getElem?_eq_some_iff.1 hn.at_).1
  have hl : E'.en.length = E.en.length - 1 := by rw [hn.en, List.length_eraseIdx_of_lt hk]
  have h5 := h.ln
  have hsl : (S ++ [y]).length = S.length + 1 := by simp
  refine ⟨h.kp.next h2 hn, h.ok.next2 hn, by omega, Int.le_refl _, by omega, by rw [hsl]; omega, by omega, by rw [hsl]; omega, by rw [hsl]; omega, ?_, fun z hz => ?_⟩
  · have := sch_next hq h.sc hn
    rw [List.map_append, List.map_cons, List.map_nil, hy]
    exact this
  · rcases List.mem_append.1 hz with hz | hz
    · exact h.ms z hz
    · rw [List.mem_singleton] at hz
      subst hz
      have h9 := (ok_small (h.ok.ok x (List.mem_of_getElem? hn.at_))).1
      have e : z.ms = x.u.ms := by rw [← hy]; rfl
      rw [e]; exact h9
theorem KpI.wait {Q : List Bu} {nb i f : Nat} {T now t : Int} {E : El} {S : List BM} (h : KpI Q nb i f T now E S) (hlt : now < T + 40) (h1 : now < t) (h2 : t ≤ max (now + 1) (T + 40)) : KpI Q nb (i + 1) (f + 1) T t E S := by
  have g1 := h.t1
  have g2 := h.f1
  have g3 := h.ii
  exact ⟨h.kp, h.ok, h.t0, by omega, by omega, h.t3, by omega, by omega, h.ln, h.sc, h.ms⟩
theorem memN_eq {Q : List Bu} {nb : Nat} {S LB : List BM} (hp : ((S.map BM.bu).flatMap idsU).Perm ((Q.take nb).flatMap idsU)) (hQ : LB.map BM.bu = Q) (hn : LB.length = nb) : memN S S.length = memN LB LB.length := by
  have len : ∀ L : List BM, ((L.map BM.bu).flatMap idsU).length = (L.map fun x => x.ms.length).sum := by
    intro L
    induction L with
    | nil => rfl
    | cons x L ih =>
      rw [List.map_cons, List.flatMap_cons, List.length_append, ih, List.map_cons, List.sum_cons]
      have : (idsU x.bu).length = x.ms.length := by unfold idsU; rw [List.length_map]; rfl
      rw [this]
  have h1 := hp.length_eq
  rw [← hQ, ← hn, ← List.length_map (f := BM.bu), List.take_length, len, len] at h1
  unfold memN
  rw [List.take_length, List.take_length, h1]
theorem bns_same {zs : List Int} {m : Nat} {L L2 : List BM} (h : BnsOk zs m L) (h2 : BnsOk zs m L2) : L2.map BM.bu = L.map BM.bu := by
  refine List.ext_getElem? fun k => ?_
  rw [List.getElem?_map, List.getElem?_map]
  by_cases hk : k < m
  · have l1 := h.1
    have l2 := h2.1
    obtain ⟨x, hx⟩ : ∃ x, L[k]? = some x := ⟨L[k]'(by omega), List.getElem?_eq_getElem _⟩
    obtain ⟨y, hy⟩ : ∃ y, L2[k]? = some y := ⟨L2[k]'(by omega), List.getElem?_eq_getElem _⟩
    obtain ⟨z, A, hz, rfl⟩ := h.2 k x hx
    obtain ⟨z2, A2, hz2, rfl⟩ := h2.2 k y hy
    rw [hz] at hz2
    injection hz2 with hz2
    subst hz2
    rw [hx, hy]
    try rfl
  · have l1 := h.1
    have l2 := h2.1
    rw [List.getElem?_eq_none (by omega), List.getElem?_eq_none (by omega)]
theorem memN_bd {S : List BM} (h : ∀ x ∈ S, x.ms.length ≤ 128) : ∀ j, memN S j ≤ 128 * (j : Int) ∧ 0 ≤ memN S j
  | 0 => by simp [memN]
  | j + 1 => by
    have ih := memN_bd h j
    cases hx : S[j]? with
    | none =>
      have e : memN S (j + 1) = memN S j := by
        unfold memN
        rw [List.take_add_one, hx]
        simp
      rw [e]; omega
    | some x =>
      have h1 := h x (List.mem_of_getElem? hx)
      rw [memN_succ hx]
      omega
/-- The order of bunches that conflict. -/
theorem place_ord {Q : List Bu} (hq : DkQ Q) {S : List BM} {a b : Nat} {x y : Bu} {r t : Int} (hs : SchS Q Q.length (S.map BM.bu)) (hab : a < b) (ha : Q[a]? = some x) (hb : Q[b]? = some y) (hc : confU x y = true)
    (hr : PlcOk S (2 * (a : Int)) r) (ht : PlcOk S (2 * (b : Int)) t) : r ≤ t := by
  have hin : ∀ (c : Nat) (z : Bu), Q[c]? = some z → ∃ (k : Nat) (u : BM), S[k]? = some u ∧ 2 * (c : Int) ∈ idsU u.bu := by
    intro c z hz
    have h1 : 2 * (c : Int) ∈ (Q.take Q.length).flatMap idsU := by
      rw [List.take_length, List.mem_flatMap]
      exact ⟨z, List.mem_of_getElem? hz, hq.head hz⟩
    have h2 := hs.perm.mem_iff.2 h1
    rw [List.mem_flatMap] at h2
    obtain ⟨u, hu, hi⟩ := h2
    rw [List.mem_map] at hu
    obtain ⟨m, hm, rfl⟩ := hu
    obtain ⟨k, hk⟩ := List.getElem?_of_mem hm
    exact ⟨k, m, hk, hi⟩
  rcases hr with ⟨p, u, rfl, hu, hui, _⟩ | ⟨_, hno⟩
  · rcases ht with ⟨q, v, rfl, hv, hvi, _⟩ | ⟨_, hno⟩
    · rcases Nat.lt_or_ge q p with hlt | hge
      · exfalso
        have ho := List.pairwise_iff_getElem.1 hs.ord
        obtain ⟨hq1, hq2⟩ := List.getElem?_eq_some_iff.1 hv
        obtain ⟨hp1, hp2⟩ := List.getElem?_eq_some_iff.1 hu
        have h1 := ho q p (by simpa using hq1) (by simpa using hp1) hlt
        rw [List.getElem_map, List.getElem_map, hq2, hp2] at h1
        exact h1 a b x y hab ha hb hc hui hvi
      · omega
    · obtain ⟨k, w, hk, hi⟩ := hin b y hb
      exact absurd hi (hno k w hk)
  · obtain ⟨k, w, hk, hi⟩ := hin a x ha
    exact absurd hi (hno k w hk)
open Go.Sort in
/-- An append onto a row of the call's own, in a drawn region under a statement of one's own. -/
theorem eff_append_own_s {P : Program} {S : World → Prop} {ops : Array Oper} {E : List Nat} {m : Nat} {Q : Exit → Act → World → Prop} {dn : List Nat} {j : Nat} {o : Oper} {a : Act} {w : World} (hw : Region.wanted o (yielded ops a.tmps) = true) (s x : Operand) (t : TypeId)
    (ho : o.op = .call { callee := .builtin .append, args := #[s, x], argTypes := #[t, t] })
    (base : Nat) (e : TypeId) (i : TypeInfo) (z : Value) (size bytes : Nat) (ht : P.underlying t = some (.slice e)) (hi : P.info? e = some i) (hz : i.zero = some z)
    (hsize : i.size = size) (hby : i.bytes = bytes) (hzs : z.cells.size = size) (hsz : 0 < size)
    (v : Value) (n : Nat) (xs : List Value) (hs : a.eval s = v) (hown : w.ownsRow base e size v n xs)
    (ad : Addr) (k c : Nat) (news : List Value) (hx : a.eval x = .slice (some ad) k c) (hl : news.length = k * size) (hnews : ∀ j u, news[j]? = some u → w.cell? (ad.add j) = some u) (h1 : ∀ u ∈ news, u.oneCell' = true)
    (h63 : n + k ≤ maxLen) (hbytes : (n + k) * bytes ≤ 140737488355328) (hbase : base ≤ w.heap.size)
    (h : ∀ v' w', w'.ownsRow base e size v' (n + k) (xs ++ news) → w.grownBy w' v.ownBlock → (v'.ownBlock = v.ownBlock ∨ v'.ownBlock = some w.heap.size) → S w' ∧ wpSt P ops (fun w' => ∃ p : InS S, w' = p.w) E m Q (dn ++ [j]) (a.put o.dst v') w') :
    wpEff P ops (fun w' => ∃ p : InS S, w' = p.w) E m Q dn j o a w := by
  obtain ⟨v', w', hr, h2, h3, h4, h5⟩ := run_append_own_at (P := P) w base t o.type e i z size bytes ht hi hz hsize hby hzs hsz v n xs hown ad k c news hl hnews h1 h63 hbytes hbase
  obtain ⟨g1, g2⟩ := h v' w' h2 h3 h5
  refine eff_made_s (v := v') (w' := w') hw ?_ g1 g2
  unfold execOp
  simp only [ho, resolve, invoke, builtin, Sem.run_bind, Sem.run_pure, Result.andThen_ok, List.map_toArray, List.map_cons, List.map_nil, hs, hx, hr]

set_option maxRecDepth 100000 in
set_option maxHeartbeats 16000000 in
theorem elevatorKeeps_walk (n kind lim : Int) (v : Value) (zs : List Int) (w : World) (hn : IsInt n) (_ : IsInt kind) (_ : IsInt lim) (hz : Ints w v zs) :
    Calls Try.prog 9 #[.int .i64 n, .int .i64 kind, .int .i64 lim, v] w fun e w' => e = .returned (.bool true) ∧ Bel w w' := by
  obtain ⟨i0, hi0, hz0, hz1, hz2⟩ := info_parts Try.infoBunch
  have HFI := Lib.hid (filled_any n kind lim v zs w hn hz)
  have HBN := Lib.hid (fun w' (h : Bel w w') => bunchesN_any v zs w' (hz.bel h))
  clear hz hn
  go_enter Try.func9, Try.ntmps9
  go_wp2_with fail
  refine HFI.out.mono ?_; rintro e w1 ⟨E0, fl1, bu1, en1, L0, LB, rfl, hEN, hL0, hLB, hFL, hb1⟩
  have hOK0 : OkE E0 := hFL.ok (by rw [hLB.1]; omega)
  obtain ⟨A4, c4, rfl⟩ := own_slice hEN.flo
  obtain ⟨A5, c5, rfl⟩ := own_slice hEN.buo
  obtain ⟨A6, c6, hv6⟩ := own_slice hEN.eno.bo.own
  subst hv6
  obtain ⟨Q, HQ⟩ : ∃ Q, Hid (LB.map BM.bu = Q) := ⟨_, rfl⟩
  have HDK : Hid (DkQ Q) := by show DkQ Q; rw [← HQ.out]; exact bns_dk hLB (by omega)
  obtain ⟨nb, Hnb⟩ : ∃ k, Hid (LB.length = k) := ⟨_, rfl⟩
  have hn8 : nb ≤ 8 := by rw [← Hnb.out, hLB.1]; omega
  have HNM : Hid (nb = min zs.length 8) := by show _ = _; rw [← Hnb.out]; exact hLB.1
  have HQL : Hid (Q.length = nb) := by show _ = _; rw [← HQ.out, List.length_map]; exact Hnb.out
  obtain ⟨mN, HmN⟩ : ∃ k, Hid (memN LB LB.length = k) := ⟨_, rfl⟩
  rw [HQ.out, Hnb.out] at hFL
  have HK0 : Hid (KpI Q nb 0 0 0 0 E0 []) := by
    have hl : E0.en.length ≤ nb := by
      have h1 := hFL.sch.len
      unfold usE at h1
      rwa [List.length_map] at h1
    have hln : ([] : List BM).length + E0.en.length ≤ nb := by simpa using hl
    exact ⟨fil_kp hFL, hOK0, Int.le_refl _, Int.le_refl _, by omega, by simp, by simp, by simp, hln, by simpa using hFL.sch, fun x hx => by cases hx⟩
  have HL0 := Lib.hid hL0
  have HLB := Lib.hid hLB
  rw [HmN.out]
  clear hL0 hOK0 hLB hFL HFI
  obtain ⟨X, HX0⟩ : ∃ X, Hid (w1.heap.size = X) := ⟨_, rfl⟩
  have hwX : w.heap.size ≤ X := by rw [← HX0.out]; exact hb1.size
  have hX := AtF.new_at (w := w1) HX0.out.symm 31 [.int .i64 E0.knd, .int .i64 E0.rdE, .int .i64 E0.wrE, .int .i64 E0.vt, .slice A4 E0.fl.length c4, .slice A5 E0.bk.length c5, .slice A6 L0.length c6, .int .i64 E0.hd]
  have hbn : Bel w1 (w1.alloc (.cells [.int .i64 E0.knd, .int .i64 E0.rdE, .int .i64 E0.wrE, .int .i64 E0.vt, .slice A4 E0.fl.length c4, .slice A5 E0.bk.length c5, .slice A6 L0.length c6, .int .i64 E0.hd].toArray 31)) := (by repeat (first | (with_reducible exact Bel.refl _) | (with_reducible assumption) | (with_reducible refine Bel.drewN ?_ _) | (with_reducible refine Bel.drew ?_) | (with_reducible refine Bel.alloc ?_ _) | (with_reducible refine Bel.setNew ?_ ?_ _) | (with_reducible refine Bel.trans ?_ (by assumption)) | (focus (simp; done)) | (focus (simp; omega))))
  have hEN2 := hEN.keep hbn
  have HOF : Hid (Off X (.slice A4 E0.fl.length c4) (.slice A5 E0.bk.length c5) (.slice A6 L0.length c6) L0) := hEN.newOff (by rw [HX0.out]; exact Nat.le_refl _)
  have hb2 := hb1.trans hbn
  simp only [List.toArray] at hX hEN2 hb2
  go_upto_region 4 with fail
  rw [HX0.out]
  generalize hW2 : w1.alloc _ = W2 at *
  clear hW2 hEN hbn hb1
  have HS0 := Lib.hid (And.intro hX (And.intro hEN2 hb2))
  go_wp2
  go_loopw [12, 13, 14] (fun nv sv iv wr => ∃ (i f : Nat) (T now : Int) (E : El) (S : List BM) (fl bu en : Value) (L : List QM), nv = .int .i64 now ∧ iv = .int .i64 i ∧ Hid (KpI Q nb i f T now E S) ∧ AtF wr X [.int .i64 E.knd, .int .i64 E.rdE, .int .i64 E.wrE, .int .i64 E.vt, fl, bu, en, .int .i64 E.hd] ∧ ElN wr w.heap.size fl bu en E.fl E.bk L ∧ Hid (Off X fl bu en L) ∧ Hid (L.map QM.qu = E.en) ∧ BN wr (X + 1) sv S ∧ Hid (∀ g, sv.ownBlock = some g → Off g fl bu en L) ∧ Bel w wr ∧ X < wr.heap.size) (fun _ _ iv _ => 600 - (intOf iv).toNat)
  case atStart => exact ⟨0, 0, 0, 0, E0, [], .slice A4 E0.fl.length c4, .slice A5 E0.bk.length c5, .slice A6 L0.length c6, L0, rfl, rfl, HK0.out, hX, hEN2, HOF, HL0.out, ⟨BO.nil _ _, fun j x hj => by simp at hj⟩, fun g hg => (by cases hg), hb2, hX.1.1⟩
  case round =>
    clear hX hEN2 hb2 HS0 HOF HL0 HK0
    obtain ⟨i, f, T, now, E, S, fl, bu, en, L, rfl, rfl, HKP, hX, hEN, HOF, HL, hBN, HSP, hbr, hXW⟩ := hrel
    obtain ⟨W4, rfl⟩ : ∃ X, X = wr := ⟨_, rfl⟩
    obtain ⟨A1, c1, rfl⟩ := own_slice hEN.flo
    obtain ⟨A2, c2, rfl⟩ := own_slice hEN.buo
    obtain ⟨A3, c3, hv3⟩ := own_slice hEN.eno.bo.own
    subst hv3
    obtain ⟨As, cs, hvs⟩ := own_slice hBN.bo.own
    subst hvs
    obtain ⟨ns, Hns⟩ : ∃ k, Hid (S.length = k) := ⟨_, rfl⟩
    obtain ⟨nl, Hnl⟩ : ∃ k, Hid (L.length = k) := ⟨_, rfl⟩
    have hnow := HKP.out.now hn8
    obtain ⟨hw0, hw1, hi6⟩ := hnow
    have hi600 : (i : Int) < 600 := by omega
    have hll : nl = E.en.length := by rw [← Hnl.out, ← HL.out, List.length_map]
    have hns8 : ns ≤ 8 := by have := HKP.out.ln; have := Hns.out; omega
    have HLN := Lib.hid hll
    have hnl8 : nl ≤ 8 := by have := HKP.out.ln; omega
    rw [Hns.out] at hBN ⊢
    have hX4 := hX
    rw [Hnl.out] at hX4
    have e6 := hX4.1.2 6 _ rfl
    have el := hX4.1.1
    clear hll
    by_cases h0 : nl = 0
    · subst h0
      clear hi600
      have hE0 : E.en = [] := List.length_eq_zero_iff.1 HLN.out.symm
      have HSC : Hid (SchS Q nb (S.map BM.bu)) := by
        have h := HKP.out.sc
        have hu : usE E = [] := by unfold usE; rw [hE0]; rfl
        rw [hu, List.append_nil] at h
        exact h
      have HMQ : Hid (memN S S.length = mN) := by show _ = _; rw [← HmN.out]; exact memN_eq HSC.out.perm HQ.out Hnb.out
      have HMS := Lib.hid HKP.out.ms
      have HSL := hBN.bo.bl
      clear HKP HOF HSP hEN hX HL hE0 HLN HmN
      go_upto_region 18 with fail
      clear e6 el
      have HWW := Lib.hid (And.intro hX4 (And.intro HSL hbr))
      clear hX4 HSL hbr hBN
      go_wp2
      go_loopw [20, 21] (fun cv jv wr => ∃ j : Nat, jv = .int .i64 j ∧ j ≤ ns ∧ cv = .int .i64 (memN S j) ∧ Bel W4 wr) (fun _ jv _ => ns - (intOf jv).toNat)
      case atStart => exact ⟨0, rfl, Nat.zero_le _, rfl, Bel.refl _⟩
      case round =>
        obtain ⟨j, rfl, hj, rfl, hbj⟩ := hrel
        obtain ⟨W6, rfl⟩ : ∃ X, X = wr := ⟨_, rfl⟩
        by_cases hjn : j < ns
        · have hjl : (j : Int) < (ns : Int) := by omega
          obtain ⟨y, hy⟩ : ∃ y, S[j]? = some y := ⟨S[j]'(by have := Hns.out; omega), List.getElem?_eq_getElem _⟩
          obtain ⟨g, o, cx, hat⟩ := (HWW.out.2.1.bel hbj).at hy
          rw [Hns.out] at hat
          have hf := hat.form
          injection hf with hf1 hf2 hf3
          subst hf1 hf3
          clear hf2
          have e7 := hat.row.cell 7 rfl
          rw [hat.mem.len] at e7
          have gl := hat.lt
          have hb0 := memN_bd HMS.out j
          have hb1 := memN_bd HMS.out (j + 1)
          rw [memN_succ hy] at hb1
          have ew : IntKind.i64.wrap (memN S j + (y.ms.length : Int)) = memN S j + (y.ms.length : Int) := IntWalk.i64_in _ (by omega)
          have HMJ := Lib.hid (memN_succ hy)
          clear hat hy hb0 hb1
          go_wp2
          go_roundw
          case rel => exact ⟨j + 1, by go_num, by omega, by rw [HMJ.out], hbj⟩
          case measure => simp [intOf]; omega
        · obtain rfl : j = ns := by omega
          have HM2 : Hid (memN S j = mN) := by show _ = _; rw [← Hns.out]; exact HMQ.out
          rw [HM2.out]
          have HBN2 := Lib.hid (HBN.out W6 (HWW.out.2.2.trans hbj))
          clear HBN
          go_upto_region 23 with fail
          go_wp2_with fail
          refine HBN2.out.mono ?_; rintro e w3 ⟨u2, LB2, rfl, hLB2, hB2, hb3⟩
          have HQ2 : Hid (LB2.map BM.bu = Q) := by show _ = _; rw [← HQ.out]; exact bns_same HLB.out hLB2
          have HB2 := Lib.hid hB2.bo.bl
          have HL2 : Hid (LB2.length = nb) := by show _ = _; rw [hLB2.1]; exact HNM.out.symm
          have HLB2 := Lib.hid hLB2
          have HS3 := Lib.hid (HWW.out.2.1.bel (hbj.trans hb3))
          have HX3 := Lib.hid (HWW.out.1.bel (hbj.trans hb3))
          have HW3 := Lib.hid (HWW.out.2.2.trans (hbj.trans hb3))
          clear HWW hLB2 hB2 HBN2 hb3 hbj
          obtain ⟨Az, cz, rfl⟩ := (show ∃ A c, u2 = .slice A nb c from by obtain ⟨A, c, h, _⟩ := HB2.out.form; exact ⟨A, c, by rw [← HL2.out]; exact h⟩)
          go_wp2
          go_loopw [23] (fun iv wr => ∃ p : Nat, iv = .int .i64 p ∧ p ≤ nb ∧ Bel w3 wr) (fun iv _ => nb - (intOf iv).toNat)
          case atStart => exact ⟨0, rfl, Nat.zero_le _, Bel.refl _⟩
          case round =>
            obtain ⟨p, rfl, hp, hbp⟩ := hrel
            obtain ⟨W7, rfl⟩ : ∃ X, X = wr := ⟨_, rfl⟩
            by_cases hpn : p < nb
            · have hpl : (p : Int) < (nb : Int) := by omega
              go_wp2
              go_loopw [24] (fun kv wr => ∃ q : Nat, kv = .int .i64 q ∧ q ≤ p ∧ Bel w3 wr) (fun kv _ => p - (intOf kv).toNat)
              case atStart => exact ⟨0, rfl, Nat.zero_le _, hbp⟩
              case round =>
                obtain ⟨q, rfl, hq, hbq⟩ := hrel
                obtain ⟨W8, rfl⟩ : ∃ X, X = wr := ⟨_, rfl⟩
                by_cases hqp : q < p
                · have hql : (q : Int) < (p : Int) := by omega
                  obtain ⟨x, hx⟩ : ∃ x, LB2[q]? = some x := ⟨LB2[q]'(by have := HL2.out; omega), List.getElem?_eq_getElem _⟩
                  obtain ⟨y, hy⟩ : ∃ y, LB2[p]? = some y := ⟨LB2[p]'(by have := HL2.out; omega), List.getElem?_eq_getElem _⟩
                  have hxQ : Q[q]? = some x.bu := by rw [← HQ2.out, List.getElem?_map, hx]; rfl
                  have hyQ : Q[p]? = some y.bu := by rw [← HQ2.out, List.getElem?_map, hy]; rfl
                  obtain ⟨fx, tx, ex1, ex2⟩ := (HDK.out.2 q _ hxQ).head
                  obtain ⟨fy, ty, ey1, ey2⟩ := (HDK.out.2 p _ hyQ).head
                  obtain ⟨gx, ox, cx, hX⟩ := (HB2.out.bel hbq).at hx
                  obtain ⟨gy, oy, cy, hY⟩ := (HB2.out.bel hbq).at hy
                  rw [HL2.out] at hX hY
                  have hf := hX.form
                  simp only [Value.slice.injEq] at hf
                  obtain ⟨rfl, -, rfl⟩ := hf
                  have hf := hY.form
                  simp only [Value.slice.injEq, Option.some.injEq, Addr.mk.injEq, and_true, true_and] at hf
                  obtain ⟨⟨rfl, rfl⟩, rfl⟩ := hf
                  have HPL := Lib.hid (fun W id (h : Bel W8 W) => place_any S id _ W (HS3.out.bel (hbq.trans h)) (by rw [Hns.out]; omega) (fun x hx => by have := HMS.out x hx; omega))
                  try rw [Hns.out] at HPL
                  have HXQ := Lib.hid hxQ
                  have HYQ := Lib.hid hyQ
                  obtain ⟨⟨i1, t1, kd1, s1, n1, d1, f1, a1, l1, c1', tm1⟩, ms1⟩ := x
                  obtain ⟨⟨i2, t2, kd2, s2, n2, d2, f2, a2, l2, c2', tm2⟩, ms2⟩ := y
                  simp only [BM.bu] at ex1 ey1
                  obtain ⟨gm, om, cm, hfm, hgm, hcm⟩ := hX.mem.rd.at (by show 0 < ms1.length; rw [ex1]; simp)
                  obtain ⟨gn, on, cn, hfn, hgn, hcn⟩ := hY.mem.rd.at (by show 0 < ms2.length; rw [ey1]; simp)
                  have q0 := hcm _ _ (flat_at (l := ms1) (f := Mem.cells) (a := fx) (k := 0) Mem.cells_len (by rw [ex1]; rfl) (j := 0) rfl)
                  have r0 := hcn _ _ (flat_at (l := ms2) (f := Mem.cells) (a := fy) (k := 0) Mem.cells_len (by rw [ey1]; rfl) (j := 0) rfl)
                  rw [ex2] at q0
                  rw [ey2] at r0
                  simp only [Nat.zero_mul, Nat.add_zero] at q0 r0
                  simp only [Value.slice.injEq] at hfm hfn
                  obtain ⟨rfl, -, -⟩ := hfm
                  obtain ⟨rfl, -, -⟩ := hfn
                  have hl1 : (0 : Int) < (l1 : Int) := by
                    have e1 : l1 = ms1.length := hX.mem.len
                    rw [ex1, List.length_cons] at e1
                    omega
                  have hl2 : (0 : Int) < (l2 : Int) := by
                    have e1 : l2 = ms2.length := hY.mem.len
                    rw [ey1, List.length_cons] at e1
                    omega
                  have hmX := hX.mem
                  have hmY := hY.mem
                  have rq0 := fun d os => cell_regrown q0 d os
                  have rr0 := fun d os => cell_regrown r0 d os
                  have hCF := fun W (h : Bel W8 W) => refConflict_any ⟨⟨i1, t1, kd1, s1, n1, d1, f1, some ⟨gm, om, none⟩, l1, c1', tm1⟩, ms1⟩ ⟨⟨i2, t2, kd2, s2, n2, d2, f2, some ⟨gn, on, none⟩, l2, c2', tm2⟩, ms2⟩ W (hmX.bel h) (hmY.bel h)
                  simp only [conf_bu] at hCF
                  rcases Bool.eq_false_or_eq_true (confU (BM.bu ⟨⟨i1, t1, kd1, s1, n1, d1, f1, some ⟨gm, om, none⟩, l1, c1', tm1⟩, ms1⟩) (BM.bu ⟨⟨i2, t2, kd2, s2, n2, d2, f2, some ⟨gn, on, none⟩, l2, c2', tm2⟩, ms2⟩)) with hcf | hcf
                  · rw [hcf] at hCF
                    have HCF := Lib.hid hCF
                    have HCQ := Lib.hid hcf
                    clear hCF hcf hx hy hxQ hyQ ex1 ey1 ex2 ey2
                    go_wp2_with fail
                    have p0 := (hX.row).cell 0 rfl
                    have p1 := (hX.row).cell 1 rfl
                    have p2 := (hX.row).cell 2 rfl
                    have p3 := (hX.row).cell 3 rfl
                    have p4 := (hX.row).cell 4 rfl
                    have p5 := (hX.row).cell 5 rfl
                    have p6 := (hX.row).cell 6 rfl
                    have p7 := (hX.row).cell 7 rfl
                    have p8 := (hX.row).cell 8 rfl
                    rw [Nat.add_zero] at p0
                    have q0 := (hY.row).cell 0 rfl
                    have q1 := (hY.row).cell 1 rfl
                    have q2 := (hY.row).cell 2 rfl
                    have q3 := (hY.row).cell 3 rfl
                    have q4 := (hY.row).cell 4 rfl
                    have q5 := (hY.row).cell 5 rfl
                    have q6 := (hY.row).cell 6 rfl
                    have q7 := (hY.row).cell 7 rfl
                    have q8 := (hY.row).cell 8 rfl
                    rw [Nat.add_zero] at q0
                    have xr0 := fun d os => cell_regrown p0 d os
                    have xr1 := fun d os => cell_regrown p1 d os
                    have xr2 := fun d os => cell_regrown p2 d os
                    have xr3 := fun d os => cell_regrown p3 d os
                    have xr4 := fun d os => cell_regrown p4 d os
                    have xr5 := fun d os => cell_regrown p5 d os
                    have xr6 := fun d os => cell_regrown p6 d os
                    have xr7 := fun d os => cell_regrown p7 d os
                    have xr8 := fun d os => cell_regrown p8 d os
                    have ys0 := fun d os => cell_regrown q0 d os
                    have ys1 := fun d os => cell_regrown q1 d os
                    have ys2 := fun d os => cell_regrown q2 d os
                    have ys3 := fun d os => cell_regrown q3 d os
                    have ys4 := fun d os => cell_regrown q4 d os
                    have ys5 := fun d os => cell_regrown q5 d os
                    have ys6 := fun d os => cell_regrown q6 d os
                    have ys7 := fun d os => cell_regrown q7 d os
                    have ys8 := fun d os => cell_regrown q8 d os
                    refine wp_region_lex [8, 19, 29] 32 (by kernel_rfl) (by kernel_rfl) ?_
                    simp only [List.take_succ_cons, List.take_zero, List.drop_succ_cons, List.drop_zero]
                    with_reducible refine lex_seg 8 _ _ _ _ (by kernel_rfl) ?_
                    simp only [List.take_succ_cons, List.take_zero, List.drop_succ_cons, List.drop_zero]
                    try simp only [Act.put, List.setIfInBounds_toArray, List.set_cons_succ, List.set_cons_zero]
                    repeat (go_big_quiet_step (fail))
                    with_reducible refine wpQuiet_nil ?_
                    refine lex_call 23 rfl rfl (by simp [go_sem]; rfl) ?_
                    have hzz := HCF.out _ ((Bel.refl W8).drew)
                    with_reducible refine Calls.mono hzz ?_
                    rintro e w4 ⟨rfl, hb4⟩
                    refine ⟨_, rfl, hb4, ?_⟩
                    clear hzz
                    have hb4' : Bel W8 w4 := (Bel.refl W8).drew.trans hb4
                    with_reducible refine lex_seg 10 _ _ _ _ (by kernel_rfl) ?_
                    simp only [List.take_succ_cons, List.take_zero, List.drop_succ_cons, List.drop_zero]
                    try simp only [Act.put, List.setIfInBounds_toArray, List.set_cons_succ, List.set_cons_zero]
                    repeat (go_big_quiet_step (fail))
                    with_reducible refine wpQuiet_nil ?_
                    refine lex_call 28 rfl rfl (by simp [go_sem]; rfl) ?_
                    have hzz := HPL.out _ (2 * (q : Int)) hb4'
                    with_reducible refine Calls.mono hzz ?_
                    rintro e w5 ⟨pa, rfl, hpa, hb5⟩
                    refine ⟨_, rfl, hb5, ?_⟩
                    clear hzz
                    with_reducible refine lex_seg 9 _ _ _ _ (by kernel_rfl) ?_
                    simp only [List.take_succ_cons, List.take_zero, List.drop_succ_cons, List.drop_zero]
                    try simp only [Act.put, List.setIfInBounds_toArray, List.set_cons_succ, List.set_cons_zero]
                    repeat (go_big_quiet_step (fail))
                    with_reducible refine wpQuiet_nil ?_
                    refine lex_call 28 rfl rfl (by simp [go_sem]; rfl) ?_
                    have hzz := HPL.out _ (2 * (p : Int)) (hb4'.trans hb5)
                    with_reducible refine Calls.mono hzz ?_
                    rintro e w6 ⟨pb, rfl, hpb, hb6⟩
                    refine ⟨_, rfl, hb6, ?_⟩
                    clear hzz
                    have hod := place_ord HDK.out (by rw [HQL.out]; exact HSC.out) hqp HXQ.out HYQ.out HCQ.out hpa hpb
                    have dgt : decide (pb < pa) = false := decide_eq_false (by omega)
                    with_reducible refine lex_seg 2 _ _ _ _ (by kernel_rfl) ?_
                    simp only [List.take_succ_cons, List.take_zero, List.drop_succ_cons, List.drop_zero]
                    try simp only [Act.put, List.setIfInBounds_toArray, List.set_cons_succ, List.set_cons_zero]
                    repeat (go_big_quiet_step (fail))
                    with_reducible refine wpQuiet_nil ?_
                    with_reducible refine lex_nil ?_
                    have hb6' : Bel W8 w6 := (hb4'.trans hb5).trans hb6
                    clear p0 p1 p2 p3 p4 p5 p6 p7 p8
                    clear q0 q1 q2 q3 q4 q5 q6 q7 q8
                    clear xr0 xr1 xr2 xr3 xr4 xr5 xr6 xr7 xr8 ys0 ys1 ys2 ys3 ys4 ys5 ys6 ys7 ys8 rq0 rr0 q0 r0
                    go_wp2
                    go_roundw
                    case rel => exact ⟨q + 1, by go_num, by omega, hbq.trans hb6'⟩
                    case measure => simp [intOf]; omega
                  · rw [hcf] at hCF
                    have HCF := Lib.hid hCF
                    clear hCF hcf hx hy hxQ hyQ ex1 ey1 ex2 ey2
                    go_wp2_with fail
                    have p0 := (hX.row).cell 0 rfl
                    have p1 := (hX.row).cell 1 rfl
                    have p2 := (hX.row).cell 2 rfl
                    have p3 := (hX.row).cell 3 rfl
                    have p4 := (hX.row).cell 4 rfl
                    have p5 := (hX.row).cell 5 rfl
                    have p6 := (hX.row).cell 6 rfl
                    have p7 := (hX.row).cell 7 rfl
                    have p8 := (hX.row).cell 8 rfl
                    rw [Nat.add_zero] at p0
                    have q0 := (hY.row).cell 0 rfl
                    have q1 := (hY.row).cell 1 rfl
                    have q2 := (hY.row).cell 2 rfl
                    have q3 := (hY.row).cell 3 rfl
                    have q4 := (hY.row).cell 4 rfl
                    have q5 := (hY.row).cell 5 rfl
                    have q6 := (hY.row).cell 6 rfl
                    have q7 := (hY.row).cell 7 rfl
                    have q8 := (hY.row).cell 8 rfl
                    rw [Nat.add_zero] at q0
                    have xr0 := fun d os => cell_regrown p0 d os
                    have xr1 := fun d os => cell_regrown p1 d os
                    have xr2 := fun d os => cell_regrown p2 d os
                    have xr3 := fun d os => cell_regrown p3 d os
                    have xr4 := fun d os => cell_regrown p4 d os
                    have xr5 := fun d os => cell_regrown p5 d os
                    have xr6 := fun d os => cell_regrown p6 d os
                    have xr7 := fun d os => cell_regrown p7 d os
                    have xr8 := fun d os => cell_regrown p8 d os
                    have ys0 := fun d os => cell_regrown q0 d os
                    have ys1 := fun d os => cell_regrown q1 d os
                    have ys2 := fun d os => cell_regrown q2 d os
                    have ys3 := fun d os => cell_regrown q3 d os
                    have ys4 := fun d os => cell_regrown q4 d os
                    have ys5 := fun d os => cell_regrown q5 d os
                    have ys6 := fun d os => cell_regrown q6 d os
                    have ys7 := fun d os => cell_regrown q7 d os
                    have ys8 := fun d os => cell_regrown q8 d os
                    refine wp_region_lex [8, 19, 29] 32 (by kernel_rfl) (by kernel_rfl) ?_
                    simp only [List.take_succ_cons, List.take_zero, List.drop_succ_cons, List.drop_zero]
                    with_reducible refine lex_seg 8 _ _ _ _ (by kernel_rfl) ?_
                    simp only [List.take_succ_cons, List.take_zero, List.drop_succ_cons, List.drop_zero]
                    try simp only [Act.put, List.setIfInBounds_toArray, List.set_cons_succ, List.set_cons_zero]
                    repeat (go_big_quiet_step (fail))
                    with_reducible refine wpQuiet_nil ?_
                    refine lex_call 23 rfl rfl (by simp [go_sem]; rfl) ?_
                    have hzz := HCF.out _ ((Bel.refl W8).drew)
                    with_reducible refine Calls.mono hzz ?_
                    rintro e w4 ⟨rfl, hb4⟩
                    refine ⟨_, rfl, hb4, ?_⟩
                    clear hzz
                    with_reducible refine lex_seg 10 _ _ _ _ (by kernel_rfl) ?_
                    simp only [List.take_succ_cons, List.take_zero, List.drop_succ_cons, List.drop_zero]
                    try simp only [Act.put, List.setIfInBounds_toArray, List.set_cons_succ, List.set_cons_zero]
                    repeat (go_big_quiet_step (fail))
                    with_reducible refine wpQuiet_nil ?_
                    with_reducible refine lex_skip (by kernel_rfl) ?_
                    try simp only [Act.put, List.setIfInBounds_toArray, List.set_cons_succ, List.set_cons_zero]
                    with_reducible refine lex_seg 9 _ _ _ _ (by kernel_rfl) ?_
                    simp only [List.take_succ_cons, List.take_zero, List.drop_succ_cons, List.drop_zero]
                    try simp only [Act.put, List.setIfInBounds_toArray, List.set_cons_succ, List.set_cons_zero]
                    repeat (go_big_quiet_step (fail))
                    with_reducible refine wpQuiet_nil ?_
                    with_reducible refine lex_skip (by kernel_rfl) ?_
                    try simp only [Act.put, List.setIfInBounds_toArray, List.set_cons_succ, List.set_cons_zero]
                    with_reducible refine lex_seg 2 _ _ _ _ (by kernel_rfl) ?_
                    simp only [List.take_succ_cons, List.take_zero, List.drop_succ_cons, List.drop_zero]
                    try simp only [Act.put, List.setIfInBounds_toArray, List.set_cons_succ, List.set_cons_zero]
                    repeat (go_big_quiet_step (fail))
                    with_reducible refine wpQuiet_nil ?_
                    with_reducible refine lex_nil ?_
                    have hb4' : Bel W8 w4 := (Bel.refl W8).drew.trans hb4
                    clear p0 p1 p2 p3 p4 p5 p6 p7 p8
                    clear q0 q1 q2 q3 q4 q5 q6 q7 q8
                    clear xr0 xr1 xr2 xr3 xr4 xr5 xr6 xr7 xr8 ys0 ys1 ys2 ys3 ys4 ys5 ys6 ys7 ys8 rq0 rr0 q0 r0
                    go_wp2
                    go_roundw
                    case rel => exact ⟨q + 1, by go_num, by omega, hbq.trans hb4'⟩
                    case measure => simp [intOf]; omega
                · obtain rfl : q = p := by omega
                  go_wp2
                  go_roundw
                  case rel => exact ⟨q + 1, by go_num, by omega, hbq⟩
                  case measure => simp [intOf]; omega
            · obtain rfl : p = nb := by omega
              have hX9 := HX3.out.bel hbp
              have e6 := hX9.1.2 6 _ rfl
              have el := hX9.1.1
              have hbz9 := HW3.out.trans hbp
              clear hX9
              go_wp2_with fail
              refine (awake33_any _).mono ?_; rintro e w9 ⟨rfl, hbz⟩
              go_wp2
              go_ret
              exact ⟨rfl, (by repeat (first | (with_reducible exact Bel.refl _) | (with_reducible assumption) | (with_reducible refine Bel.drewN ?_ _) | (with_reducible refine Bel.drew ?_) | (with_reducible refine Bel.alloc ?_ _) | (with_reducible refine Bel.setNew ?_ ?_ _) | (with_reducible refine Bel.trans ?_ (by assumption)) | (focus (simp; done)) | (focus (simp; omega))))⟩
    · have hn0 : (0 : Int) < (nl : Int) := by omega
      rcases nxtE_cases E now with ⟨E2, x, k, hnx, hNS⟩ | ⟨hnx, hno⟩
      · have hk := (List.getElem?_eq_some_iff.1 hNS.at_).1
        have HNX := Lib.hid (elNext_E E now _ _ _ _ L [] W4 _ hEN HL.out HKP.out.ok (BL.nil W4))
        simp only [List.map_nil, hnx] at HNX
        obtain ⟨q1, q2, q3⟩ := nxtE_same E now []
        rw [hnx] at q1 q2 q3
        have HSM := Lib.hid (And.intro q1 (And.intro q2 q3))
        have hlen : E2.en.length = E.en.length - 1 := by rw [hNS.en, List.length_eraseIdx_of_lt hk]
        have HNS := Lib.hid (fun (y : BM) (hy : y.bu = x.u) => HKP.out.send HDK.out hNS hy)
        have HOK2 := Lib.hid (HKP.out.ok.next2 hNS)
        obtain ⟨u, hu⟩ : ∃ u, x.u = u := ⟨_, rfl⟩
        rw [hu] at HNX HNS
        rw [Hnl.out] at HNX
        clear hnx q1 q2 q3 hNS hu hk
        have k0 := (hX4).1.2 0 _ rfl
        have k1 := (hX4).1.2 1 _ rfl
        have k2 := (hX4).1.2 2 _ rfl
        have k3 := (hX4).1.2 3 _ rfl
        have k4 := (hX4).1.2 4 _ rfl
        have k5 := (hX4).1.2 5 _ rfl
        have k6 := (hX4).1.2 6 _ rfl
        have k7 := (hX4).1.2 7 _ rfl
        go_wp2_with fail
        refine HNX.out.mono ?_; rintro e w5 ⟨fl5, bu5, en5, L5, A, c, rfl, hE5, hL5, hZ5, hb5⟩
        clear k0 k1 k2 k3 k4 k5 k6 k7 el HNX e6
        obtain ⟨A7, c7, rfl⟩ := own_slice hE5.flo
        obtain ⟨A8, c8, rfl⟩ := own_slice hE5.buo
        obtain ⟨A9, c9, hv9⟩ := own_slice hE5.eno.bo.own
        obtain ⟨n5, Hn5⟩ : ∃ k, Hid (L5.length = k) := ⟨_, rfl⟩
        rw [Hn5.out] at hv9
        subst hv9
        have HL5 := Lib.hid hL5
        have HN5 : Hid (n5 + 1 = nl) := by
          show _ = _
          rw [← Hn5.out, ← List.length_map (f := QM.qu), hL5, hlen]
          have := HLN.out
          omega
        clear hL5 hlen
        obtain ⟨i1, t1, kd1, s1, n1, d1, f1, m1, tm⟩ := u
        simp only [Bu.at] at hZ5 ⊢
        have hsN := hb5.size
        have nw0 : Bel w5 ((w5.alloc (.cells [.int .i64 0, .int .i64 0, .int .i64 0, .int .i64 0, .slice none 0 0, .slice none 0 0, .slice none 0 0, .int .i64 0].toArray 31)).alloc (.cells [.int .i64 0, .int .i64 0, .int .i64 0, .int .i64 0, .int .i64 0, .string ⟨#[]⟩, .bool false, .slice none 0 0, .int .i64 0].toArray 42)) := (by repeat (first | (with_reducible exact Bel.refl _) | (with_reducible assumption) | (with_reducible refine Bel.drewN ?_ _) | (with_reducible refine Bel.drew ?_) | (with_reducible refine Bel.alloc ?_ _) | (with_reducible refine Bel.setNew ?_ ?_ _) | (with_reducible refine Bel.trans ?_ (by assumption)) | (focus (simp; done)) | (focus (simp; omega))))
        have nx0 := (AtF.new_at (w := w5) rfl 31 [.int .i64 0, .int .i64 0, .int .i64 0, .int .i64 0, .slice none 0 0, .slice none 0 0, .slice none 0 0, .int .i64 0]).alloc (.cells [.int .i64 0, .int .i64 0, .int .i64 0, .int .i64 0, .int .i64 0, .string ⟨#[]⟩, .bool false, .slice none 0 0, .int .i64 0].toArray 42)
        have ny0 := AtF.new_at (w := w5.alloc (.cells [.int .i64 0, .int .i64 0, .int .i64 0, .int .i64 0, .slice none 0 0, .slice none 0 0, .slice none 0 0, .int .i64 0].toArray 31)) (g := w5.heap.size + 1) (by simp) 42 [.int .i64 0, .int .i64 0, .int .i64 0, .int .i64 0, .int .i64 0, .string ⟨#[]⟩, .bool false, .slice none 0 0, .int .i64 0]
        have hi8 : (Try.prog.info? 31).map (·.size) = some 8 := by kernel_rfl
        have hi9 : (Try.prog.info? 42).map (·.size) = some 9 := by kernel_rfl
        have one8 : ∀ u ∈ ([.int .i64 E.knd, .int .i64 E.rdE, .int .i64 E.wrE, .int .i64 E2.vt, .slice A7 E2.fl.length c7, .slice A8 E2.bk.length c8, .slice A9 n5 c9, .int .i64 E2.hd] : List Value), u.oneCell' = true := fun u hu => by
          simp only [List.mem_cons, List.not_mem_nil, or_false] at hu
          rcases hu with rfl | rfl | rfl | rfl | rfl | rfl | rfl | rfl <;> rfl
        have one9 : ∀ u ∈ ([.int .i64 i1, .int .i64 t1, .int .i64 kd1, .int .i64 s1, .int .i64 n1, .string d1, .bool f1, .slice A m1.length c, .int .i64 tm] : List Value), u.oneCell' = true := fun u hu => by
          simp only [List.mem_cons, List.not_mem_nil, or_false] at hu
          rcases hu with rfl | rfl | rfl | rfl | rfl | rfl | rfl | rfl | rfl <;> rfl
        have ny1 := ny0.setRow_other (B := w5.heap.size) (i := 0) [.int .i64 E.knd, .int .i64 E.rdE, .int .i64 E.wrE, .int .i64 E2.vt, .slice A7 E2.fl.length c7, .slice A8 E2.bk.length c8, .slice A9 n5 c9, .int .i64 E2.hd] (by omega)
        have nx2 := (nx0.setRow [.int .i64 E.knd, .int .i64 E.rdE, .int .i64 E.wrE, .int .i64 E2.vt, .slice A7 E2.fl.length c7, .slice A8 E2.bk.length c8, .slice A9 n5 c9, .int .i64 E2.hd] rfl).setRow_other (B := w5.heap.size + 1) (i := 0) [.int .i64 i1, .int .i64 t1, .int .i64 kd1, .int .i64 s1, .int .i64 n1, .string d1, .bool f1, .slice A m1.length c, .int .i64 tm] (by omega)
        have ny2 := ny1.setRow [.int .i64 i1, .int .i64 t1, .int .i64 kd1, .int .i64 s1, .int .i64 n1, .string d1, .bool f1, .slice A m1.length c, .int .i64 tm] rfl
        have nw2 := Bel.setRow (B := w5.heap.size + 1) (i := 0) [.int .i64 i1, .int .i64 t1, .int .i64 kd1, .int .i64 s1, .int .i64 n1, .string d1, .bool f1, .slice A m1.length c, .int .i64 tm] (Bel.setRow (B := w5.heap.size) (i := 0) [.int .i64 E.knd, .int .i64 E.rdE, .int .i64 E.wrE, .int .i64 E2.vt, .slice A7 E2.fl.length c7, .slice A8 E2.bk.length c8, .slice A9 n5 c9, .int .i64 E2.hd] nw0 (by omega)) (by omega)
        simp only [List.toArray] at nx0 ny1 nx2 ny2 nw2
        rename_i hKK
        refine hKK _ _ ?_
        iterate 18 (first | go_step | go_upon | go_values)
        refine wpList_store_at rfl 31 _ _ rfl rfl rfl nx0 rfl one8 hi8 ?_
        refine wpList_store_at rfl 42 _ _ rfl rfl rfl ny1 rfl one9 hi9 ?_
        clear nx0 ny0 nw0 ny1 one8 one9 hi8 hi9 hKK
        generalize setRow (setRow ((w5.alloc (.cells #[.int .i64 0, .int .i64 0, .int .i64 0, .int .i64 0, .slice none 0 0, .slice none 0 0, .slice none 0 0, .int .i64 0] 31)).alloc (.cells #[.int .i64 0, .int .i64 0, .int .i64 0, .int .i64 0, .int .i64 0, .string ⟨#[]⟩, .bool false, .slice none 0 0, .int .i64 0] 42)) w5.heap.size 0 [.int .i64 E.knd, .int .i64 E.rdE, .int .i64 E.wrE, .int .i64 E2.vt, .slice A7 E2.fl.length c7, .slice A8 E2.bk.length c8, .slice A9 n5 c9, .int .i64 E2.hd]) (w5.heap.size + 1) 0 [.int .i64 i1, .int .i64 t1, .int .i64 kd1, .int .i64 s1, .int .i64 n1, .string d1, .bool f1, .slice A m1.length c, .int .i64 tm] = NW at *
        have ne2 := (hE5).keep nw2
        generalize w5.heap.size = NY at *
        simp only [Act.put, Act.eval, List.setIfInBounds_toArray, List.set_cons_succ, List.set_cons_zero]
        have nxw := hb5.trans nw2
        have hX5 := hX4.bel nxw
        have hX5' := hX.bel nxw
        have hBN5 := hBN.keep nxw
        have hb5w := hbr.trans nxw
        have hsw := nxw.size
        have hmz := hZ5.1.bel nw2
        simp only [Bu.at] at hmz
        have y6 := nx2.1.2 6 _ rfl
        have yl := nx2.1.1
        have e6 := hX5.1.2 6 _ rfl
        have el := hX5.1.1
        have en5 : IntKind.i64.wrap ((nl : Int) - 1) = (n5 : Int) := by
          have h1 := HN5.out
          have h2 := IntWalk.i64_in ((nl : Int) - 1) (by omega)
          omega
        have hown5 := hBN5.bo.own
        rw [Hns.out] at hown5
        have hv5 := fun k (hk : (Value.slice As ns cs).ownBlock = some k) => (hBN.bo.own.lt k hk).2
        go_upto_region 13 with fail
        clear y6 yl e6 el en5 hi600 hX4 hEN hBN hbr hE5 hb5 nw2 hX hX5
        let FJS : World → Prop := fun W' => AtF W' NY [.int .i64 E.knd, .int .i64 E.rdE, .int .i64 E.wrE, .int .i64 E2.vt, .slice A7 E2.fl.length c7, .slice A8 E2.bk.length c8, .slice A9 n5 c9, .int .i64 E2.hd] ∧ AtF W' (NY + 1) [.int .i64 i1, .int .i64 t1, .int .i64 kd1, .int .i64 s1, .int .i64 n1, .string d1, .bool f1, .slice A m1.length c, .int .i64 tm]
        have hfj : FJS NW.drew := ⟨nx2.drew, ny2.drew⟩
        haveI nnS : Nonempty (InS FJS) := ⟨⟨NW.drew, hfj⟩⟩
        refine wp_region_sts FJS [3, 4] 5 (by kernel_rfl) (by kernel_rfl) ?hS0 ?_
        case hS0 => exact hfj
        with_reducible refine st_sel [0, 1, 2] (by kernel_rfl) (by kernel_rfl) ?_
        simp only [picked, List.getElem?_cons_succ, List.getElem?_cons_zero, Option.toList_some, List.nil_append, List.cons_append, List.append_nil]
        refine wpQuiet_load_s rfl 31 _ rfl rfl (fun w' h => h.1) _ Try.underlying31 rfl (by kernel_rfl) ?_
        try simp only [Act.put, List.setIfInBounds_toArray, List.set_cons_succ, List.set_cons_zero]
        go_big_quiet_step (fail)
        refine wpQuiet_load_s rfl 42 _ rfl rfl (fun w' h => h.2) _ Try.underlying42 rfl (by kernel_rfl) ?_
        with_reducible refine wpQuiet_nil ?_
        try simp only [List.nil_append, List.cons_append, Act.put, List.setIfInBounds_toArray, List.set_cons_succ, List.set_cons_zero]
        refine st_branch [3] (by kernel_rfl) (branch_cons (by simp only [List.getElem?_toArray, List.getElem?_cons_succ, List.getElem?_cons_zero]; rfl) ?_ branch_nil)
        have hfa : FJS (NW.drew.alloc (.cells #[.int .i64 i1, .int .i64 t1, .int .i64 kd1, .int .i64 s1, .int .i64 n1, .string d1, .bool f1, .slice A m1.length c, .int .i64 tm] 42)) := ⟨hfj.1.alloc _, hfj.2.alloc _⟩
        refine eff_made_s rfl (by simp [go_sem]; exact rfl) hfa ?_
        try simp only [List.nil_append, List.cons_append, Act.put, List.setIfInBounds_toArray, List.set_cons_succ, List.set_cons_zero]
        refine st_branch [4] (by kernel_rfl) (branch_cons (by simp only [List.getElem?_toArray, List.getElem?_cons_succ, List.getElem?_cons_zero]; rfl) ?_ branch_nil)
        have one9 : ∀ u ∈ ([.int .i64 i1, .int .i64 t1, .int .i64 kd1, .int .i64 s1, .int .i64 n1, .string d1, .bool f1, .slice A m1.length c, .int .i64 tm] : List Value), u.oneCell' = true := fun u hu => by
          simp only [List.mem_cons, List.not_mem_nil, or_false] at hu
          rcases hu with rfl | rfl | rfl | rfl | rfl | rfl | rfl | rfl | rfl <;> rfl
        have hownA : (NW.drew.alloc (.cells #[.int .i64 i1, .int .i64 t1, .int .i64 kd1, .int .i64 s1, .int .i64 n1, .string d1, .bool f1, .slice A m1.length c, .int .i64 tm] 42)).ownsRow (X + 1) 42 9 (.slice As ns cs) ns (bmc S) := (own_keep hown5 ((Bel.refl NW).drew)).alloc _
        have hyl := nx2.1.1
        refine eff_append_own_s rfl _ _ 43 rfl (X + 1) 42 i0 _ 9 96 Try.underlying43 hi0 hz0 hz1 hz2 rfl (by omega) (.slice As ns cs) ns (bmc S) rfl hownA ⟨NW.heap.size, 0, none⟩ 1 1 [.int .i64 i1, .int .i64 t1, .int .i64 kd1, .int .i64 s1, .int .i64 n1, .string d1, .bool f1, .slice A m1.length c, .int .i64 tm] rfl rfl (World.news_of_block (cs := #[.int .i64 i1, .int .i64 t1, .int .i64 kd1, .int .i64 s1, .int .i64 n1, .string d1, .bool f1, .slice A m1.length c, .int .i64 tm]) (t := 42) (fr := (0, 0)) (heap_new_at (by simp))) one9 (by unfold maxLen; omega) (by omega) (by simp; omega) ?_
        intro v8 w8 hown8 hg8 hloc8
        have hsz8 : (NW.drew.alloc (.cells #[.int .i64 i1, .int .i64 t1, .int .i64 kd1, .int .i64 s1, .int .i64 n1, .string d1, .bool f1, .slice A m1.length c, .int .i64 tm] 42)).heap.size = NW.heap.size + 1 := by simp
        have nyo : ∀ B, W4.heap.size ≤ B → some B ≠ (Value.slice As ns cs).ownBlock := fun B hB e => by have := hv5 B e.symm; omega
        have hj8 : FJS w8 := ⟨hfa.1.grown hg8 (nyo _ hsN), hfa.2.grown hg8 (nyo _ (by omega))⟩
        refine ⟨hj8, ?_⟩
        have hd1 : Bel NW NW.drew := (Bel.refl NW).drew
        have hda : Bel NW (NW.drew.alloc (.cells #[.int .i64 i1, .int .i64 t1, .int .i64 kd1, .int .i64 s1, .int .i64 n1, .string d1, .bool f1, .slice A m1.length c, .int .i64 tm] 42)) := (by repeat (first | (with_reducible exact Bel.refl _) | (with_reducible assumption) | (with_reducible refine Bel.drewN ?_ _) | (with_reducible refine Bel.drew ?_) | (with_reducible refine Bel.alloc ?_ _) | (with_reducible refine Bel.setNew ?_ ?_ _) | (with_reducible refine Bel.trans ?_ (by assumption)) | (focus (simp; done)) | (focus (simp; omega))))
        have hBN8 : BN w8 (X + 1) v8 (S ++ [(⟨⟨i1, t1, kd1, s1, n1, d1, f1, A, m1.length, c, tm⟩, m1⟩ : BM)]) := BN.snoc (wz := W4.heap.size) (hBN5.keep hd1) (hmz.bel hd1) (fun k hk => hZ5.2 k hk) (by omega) hv5 (by rw [Hns.out]; exact hown8) hg8 hloc8
        have hEN8 := ElN.grown (ne2.keep hda) hg8 (fun g hg => ne2.offLow (hv5 g hg))
        have hX8 := (hX5'.bel hda).grown hg8 (fun e => by have := (hown5.lt X e.symm).1; omega)
        have hb8 := bel_own (hb5w.trans hda) hownA hg8 (by omega)
        have HSP8 : Hid (∀ g, v8.ownBlock = some g → Off g (.slice A7 E2.fl.length c7) (.slice A8 E2.bk.length c8) (.slice A9 n5 c9) L5) := fun g hg => by
          rcases hloc8 with e1 | e1
          · exact ne2.offLow (hv5 g (by rw [← e1]; exact hg))
          · rw [e1] at hg
            injection hg with hg
            exact ne2.newOff (by rw [← hg, hsz8]; omega)
        have HOF8 : Hid (Off X (.slice A7 E2.fl.length c7) (.slice A8 E2.bk.length c8) (.slice A9 n5 c9) L5) := ne2.offLow hXW
        have HK8 := Lib.hid (HNS.out (⟨⟨i1, t1, kd1, s1, n1, d1, f1, A, m1.length, c, tm⟩, m1⟩ : BM) rfl)
        clear hown8 hg8 hloc8 hfa hfj hownA hown5 hBN5 hb5w hX5' hd1 hda ne2 nx2 ny2 hmz hZ5 HNS nyo hv5 one9 hyl
        obtain ⟨q1, q2, q3⟩ := HSM.out
        have one8 : ∀ u ∈ ([.int .i64 E.knd, .int .i64 E.rdE, .int .i64 E.wrE, .int .i64 E2.vt, .slice A7 E2.fl.length c7, .slice A8 E2.bk.length c8, .slice A9 n5 c9, .int .i64 E2.hd] : List Value), u.oneCell' = true := fun u hu => by
          simp only [List.mem_cons, List.not_mem_nil, or_false] at hu
          rcases hu with rfl | rfl | rfl | rfl | rfl | rfl | rfl | rfl <;> rfl
        try simp only [List.nil_append, List.cons_append, Act.put, List.setIfInBounds_toArray, List.set_cons_succ, List.set_cons_zero]
        refine st_end (by kernel_rfl) ?_
        simp only [List.drop_succ_cons, List.drop_zero, List.drop_nil]
        refine wpList_store_at rfl 31 _ _ rfl rfl rfl hX8 rfl one8 (by kernel_rfl) ?_
        have hX9 := hX8.setRow [.int .i64 E.knd, .int .i64 E.rdE, .int .i64 E.wrE, .int .i64 E2.vt, .slice A7 E2.fl.length c7, .slice A8 E2.bk.length c8, .slice A9 n5 c9, .int .i64 E2.hd] rfl
        have hE9 := (ElN.setRow (B := X) (i := 0) [.int .i64 E.knd, .int .i64 E.rdE, .int .i64 E.wrE, .int .i64 E2.vt, .slice A7 E2.fl.length c7, .slice A8 E2.bk.length c8, .slice A9 n5 c9, .int .i64 E2.hd] hEN8 hXW).mono (base' := w.heap.size) (by have := hb8.size; omega)
        have hBN9 := BN.setRow (B := X) (i := 0) [.int .i64 E.knd, .int .i64 E.rdE, .int .i64 E.wrE, .int .i64 E2.vt, .slice A7 E2.fl.length c7, .slice A8 E2.bk.length c8, .slice A9 n5 c9, .int .i64 E2.hd] hBN8 (by omega)
        have hb9 := Bel.setRow (B := X) (i := 0) [.int .i64 E.knd, .int .i64 E.rdE, .int .i64 E.wrE, .int .i64 E2.vt, .slice A7 E2.fl.length c7, .slice A8 E2.bk.length c8, .slice A9 n5 c9, .int .i64 E2.hd] hb8 hwX
        have hl9 := hX9.1.1
        clear hX8 hEN8 hBN8 hb8 one8 hj8 nnS
        generalize setRow w8 X 0 [.int .i64 E.knd, .int .i64 E.rdE, .int .i64 E.wrE, .int .i64 E2.vt, .slice A7 E2.fl.length c7, .slice A8 E2.bk.length c8, .slice A9 n5 c9, .int .i64 E2.hd] = W9 at *
        rw [← q1, ← q2, ← q3] at hX9
        have HXX := Lib.hid (And.intro hX9 (And.intro hE9 (And.intro hBN9 (And.intro hb9 hl9))))
        clear hX9 hE9 hBN9 hb9 hl9 q1 q2 q3
        go_wp2
        go_roundw
        case rel =>
          obtain ⟨g1, g2, g3, g4, g5⟩ := HXX.out
          exact ⟨i + 1, 0, now, now, E2, S ++ [(⟨⟨i1, t1, kd1, s1, n1, d1, f1, A, m1.length, c, tm⟩, m1⟩ : BM)], .slice A7 E2.fl.length c7, .slice A8 E2.bk.length c8, .slice A9 n5 c9, L5, rfl, by go_num, HK8, g1, g2, HOF8, HL5, g3, HSP8, g4, g5⟩
        case measure => simp [intOf]; omega
      · have HNX := Lib.hid (elNext_E E now _ _ _ _ L [] W4 _ hEN HL.out HKP.out.ok (BL.nil W4))
        simp only [List.map_nil, hnx] at HNX
        have hen0 : 0 < E.en.length := by have := HLN.out; omega
        have hlt := HKP.out.kp.fail HKP.out.t0 (by omega) hen0 hno
        obtain ⟨t, ht1, ht2, ht3⟩ := HKP.out.kp.wake HKP.out.t0 HKP.out.t1 (by omega) hen0
        have HKW := Lib.hid (HKP.out.wait hlt ht2 ht3)
        have HT1 := Lib.hid ht1
        have htw := HKW.out.now hn8
        obtain ⟨htw0, htw1, _⟩ := htw
        have dt : decide (t ≤ now) = false := decide_eq_false (by omega)
        obtain ⟨u, hu⟩ : ∃ u, zeroU = u := ⟨_, rfl⟩
        rw [hu] at HNX
        rw [Hnl.out] at HNX
        clear hnx hno ht1 ht2 ht3 hlt hen0 hu
        have k0 := (hX4).1.2 0 _ rfl
        have k1 := (hX4).1.2 1 _ rfl
        have k2 := (hX4).1.2 2 _ rfl
        have k3 := (hX4).1.2 3 _ rfl
        have k4 := (hX4).1.2 4 _ rfl
        have k5 := (hX4).1.2 5 _ rfl
        have k6 := (hX4).1.2 6 _ rfl
        have k7 := (hX4).1.2 7 _ rfl
        go_wp2_with fail
        refine HNX.out.mono ?_; rintro e w5 ⟨fl5, bu5, en5, L5, A, c, rfl, hE5, hL5, hZ5, hb5⟩
        clear k0 k1 k2 k3 k4 k5 k6 k7 el HNX e6
        obtain ⟨A7, c7, rfl⟩ := own_slice hE5.flo
        obtain ⟨A8, c8, rfl⟩ := own_slice hE5.buo
        obtain ⟨A9, c9, hv9⟩ := own_slice hE5.eno.bo.own
        obtain ⟨n5, Hn5⟩ : ∃ k, Hid (L5.length = k) := ⟨_, rfl⟩
        rw [Hn5.out] at hv9
        subst hv9
        clear hL5
        obtain ⟨i1, t1, kd1, s1, n1, d1, f1, m1, tm⟩ := u
        simp only [Bu.at] at hZ5 ⊢
        have hsN := hb5.size
        have nw0 : Bel w5 ((w5.alloc (.cells [.int .i64 0, .int .i64 0, .int .i64 0, .int .i64 0, .slice none 0 0, .slice none 0 0, .slice none 0 0, .int .i64 0].toArray 31)).alloc (.cells [.int .i64 0, .int .i64 0, .int .i64 0, .int .i64 0, .int .i64 0, .string ⟨#[]⟩, .bool false, .slice none 0 0, .int .i64 0].toArray 42)) := (by repeat (first | (with_reducible exact Bel.refl _) | (with_reducible assumption) | (with_reducible refine Bel.drewN ?_ _) | (with_reducible refine Bel.drew ?_) | (with_reducible refine Bel.alloc ?_ _) | (with_reducible refine Bel.setNew ?_ ?_ _) | (with_reducible refine Bel.trans ?_ (by assumption)) | (focus (simp; done)) | (focus (simp; omega))))
        have nx0 := (AtF.new_at (w := w5) rfl 31 [.int .i64 0, .int .i64 0, .int .i64 0, .int .i64 0, .slice none 0 0, .slice none 0 0, .slice none 0 0, .int .i64 0]).alloc (.cells [.int .i64 0, .int .i64 0, .int .i64 0, .int .i64 0, .int .i64 0, .string ⟨#[]⟩, .bool false, .slice none 0 0, .int .i64 0].toArray 42)
        have ny0 := AtF.new_at (w := w5.alloc (.cells [.int .i64 0, .int .i64 0, .int .i64 0, .int .i64 0, .slice none 0 0, .slice none 0 0, .slice none 0 0, .int .i64 0].toArray 31)) (g := w5.heap.size + 1) (by simp) 42 [.int .i64 0, .int .i64 0, .int .i64 0, .int .i64 0, .int .i64 0, .string ⟨#[]⟩, .bool false, .slice none 0 0, .int .i64 0]
        have hi8 : (Try.prog.info? 31).map (·.size) = some 8 := by kernel_rfl
        have hi9 : (Try.prog.info? 42).map (·.size) = some 9 := by kernel_rfl
        have one8 : ∀ u ∈ ([.int .i64 E.knd, .int .i64 E.rdE, .int .i64 E.wrE, .int .i64 E.vt, .slice A7 E.fl.length c7, .slice A8 E.bk.length c8, .slice A9 n5 c9, .int .i64 E.hd] : List Value), u.oneCell' = true := fun u hu => by
          simp only [List.mem_cons, List.not_mem_nil, or_false] at hu
          rcases hu with rfl | rfl | rfl | rfl | rfl | rfl | rfl | rfl <;> rfl
        have one9 : ∀ u ∈ ([.int .i64 i1, .int .i64 t1, .int .i64 kd1, .int .i64 s1, .int .i64 n1, .string d1, .bool f1, .slice A m1.length c, .int .i64 tm] : List Value), u.oneCell' = true := fun u hu => by
          simp only [List.mem_cons, List.not_mem_nil, or_false] at hu
          rcases hu with rfl | rfl | rfl | rfl | rfl | rfl | rfl | rfl | rfl <;> rfl
        have ny1 := ny0.setRow_other (B := w5.heap.size) (i := 0) [.int .i64 E.knd, .int .i64 E.rdE, .int .i64 E.wrE, .int .i64 E.vt, .slice A7 E.fl.length c7, .slice A8 E.bk.length c8, .slice A9 n5 c9, .int .i64 E.hd] (by omega)
        have nx2 := (nx0.setRow [.int .i64 E.knd, .int .i64 E.rdE, .int .i64 E.wrE, .int .i64 E.vt, .slice A7 E.fl.length c7, .slice A8 E.bk.length c8, .slice A9 n5 c9, .int .i64 E.hd] rfl).setRow_other (B := w5.heap.size + 1) (i := 0) [.int .i64 i1, .int .i64 t1, .int .i64 kd1, .int .i64 s1, .int .i64 n1, .string d1, .bool f1, .slice A m1.length c, .int .i64 tm] (by omega)
        have ny2 := ny1.setRow [.int .i64 i1, .int .i64 t1, .int .i64 kd1, .int .i64 s1, .int .i64 n1, .string d1, .bool f1, .slice A m1.length c, .int .i64 tm] rfl
        have nw2 := Bel.setRow (B := w5.heap.size + 1) (i := 0) [.int .i64 i1, .int .i64 t1, .int .i64 kd1, .int .i64 s1, .int .i64 n1, .string d1, .bool f1, .slice A m1.length c, .int .i64 tm] (Bel.setRow (B := w5.heap.size) (i := 0) [.int .i64 E.knd, .int .i64 E.rdE, .int .i64 E.wrE, .int .i64 E.vt, .slice A7 E.fl.length c7, .slice A8 E.bk.length c8, .slice A9 n5 c9, .int .i64 E.hd] nw0 (by omega)) (by omega)
        simp only [List.toArray] at nx0 ny1 nx2 ny2 nw2
        rename_i hKK
        refine hKK _ _ ?_
        iterate 18 (first | go_step | go_upon | go_values)
        refine wpList_store_at rfl 31 _ _ rfl rfl rfl nx0 rfl one8 hi8 ?_
        refine wpList_store_at rfl 42 _ _ rfl rfl rfl ny1 rfl one9 hi9 ?_
        clear nx0 ny0 nw0 ny1 one8 one9 hi8 hi9 hKK
        generalize setRow (setRow ((w5.alloc (.cells #[.int .i64 0, .int .i64 0, .int .i64 0, .int .i64 0, .slice none 0 0, .slice none 0 0, .slice none 0 0, .int .i64 0] 31)).alloc (.cells #[.int .i64 0, .int .i64 0, .int .i64 0, .int .i64 0, .int .i64 0, .string ⟨#[]⟩, .bool false, .slice none 0 0, .int .i64 0] 42)) w5.heap.size 0 [.int .i64 E.knd, .int .i64 E.rdE, .int .i64 E.wrE, .int .i64 E.vt, .slice A7 E.fl.length c7, .slice A8 E.bk.length c8, .slice A9 n5 c9, .int .i64 E.hd]) (w5.heap.size + 1) 0 [.int .i64 i1, .int .i64 t1, .int .i64 kd1, .int .i64 s1, .int .i64 n1, .string d1, .bool f1, .slice A m1.length c, .int .i64 tm] = NW at *
        have ne2 := (hE5).keep nw2
        generalize w5.heap.size = NY at *
        simp only [Act.put, Act.eval, List.setIfInBounds_toArray, List.set_cons_succ, List.set_cons_zero]
        have nxw := hb5.trans nw2
        have hX5 := hX4.bel nxw
        have hX5' := hX.bel nxw
        have hEN5 := hEN.keep nxw
        have hBN5 := hBN.keep nxw
        have hb5w := hbr.trans nxw
        have HWK := Lib.hid (elWake_any E.knd E.rdE E.wrE E.vt E.hd now _ _ _ E.fl E.bk L NW (Rd.own hEN5.buo) hEN5.eno.bo.ql ⟨A1, c1, rfl⟩ (by rw [Hnl.out]; omega) (by unfold IsInt; constructor <;> omega))
        rw [HL.out, HT1.out] at HWK
        simp only [Option.getD_some, Option.isSome_some] at HWK
        rw [Hnl.out] at HWK
        clear nx2 ny2 hX4 hEN hBN hbr hE5 hb5 nw2 hX ne2 hZ5
        have k0 := (hX5).1.2 0 _ rfl
        have k1 := (hX5).1.2 1 _ rfl
        have k2 := (hX5).1.2 2 _ rfl
        have k3 := (hX5).1.2 3 _ rfl
        have k4 := (hX5).1.2 4 _ rfl
        have k5 := (hX5).1.2 5 _ rfl
        have k6 := (hX5).1.2 6 _ rfl
        have k7 := (hX5).1.2 7 _ rfl
        go_wp2_with fail
        refine HWK.out.mono ?_; rintro e w6 ⟨rfl, hb6⟩
        clear k0 k1 k2 k3 k4 k5 k6 k7 hX5
        have hX6 := hX5'.bel hb6
        have hEN6 := hEN5.keep hb6
        have hBN6 := hBN5.keep hb6
        have hb6w := hb5w.trans hb6
        have HXX := Lib.hid (And.intro hX6 (And.intro hEN6 (And.intro hBN6 (And.intro hb6w hX6.1.1))))
        clear hX6 hEN6 hBN6 hb6w hX5' hEN5 hBN5 hb5w
        go_wp2
        go_roundw
        case rel =>
          obtain ⟨g1, g2, g3, g4, g5⟩ := HXX.out
          exact ⟨i + 1, f + 1, T, t, E, S, .slice A1 E.fl.length c1, .slice A2 E.bk.length c2, .slice A3 L.length c3, L, rfl, by go_num, HKW, g1, g2, HOF, HL, g3, (by show ∀ g, _; rw [← Hns.out]; exact HSP.out), g4, g5⟩
        case measure => simp [intOf]; omega
end Go.Proofs.Ytpgjbocjhconoaa
