/- The reference's Add. -/
import Derived.Test.YtpgjbocjhconoaaGreatElRb
import Derived.Test.YtpgjbocjhconoaaGreatK9
import Derived.Test.YtpgjbocjhconoaaGreatFairK
import Derived.Test.YtpgjbocjhconoaaGreatK6
import Derived.Test.YtpgjbocjhconoaaGreatRem
import Derived.Deep.DeepCutAuto
namespace Go.Proofs.YtpgjbocjhconoaaGreat
open Go.RowKit Go.Maps
set_option linter.unusedSimpArgs false

/-- A scheduler that may share its parts with others. -/
structure ElR (w : World) (fl bu en : Value) (fs : List (Int × Int)) (bs : List Bk) (L : List QM) : Prop where
  f : Rd w fl 2 fs.length (fcells fs)
  b : Rd w bu 4 bs.length (bkc bs)
  q : QL w en L
  lt : ∀ k, (fl.ownBlock = some k ∨ bu.ownBlock = some k ∨ en.ownBlock = some k) → k < w.heap.size
  nz : (en = .slice none 0 0 ∧ L = []) ∨ ∃ g o c, en = .slice (some ⟨g, o, none⟩) L.length c
theorem ElR.bel {w w' : World} {fl bu en : Value} {fs : List (Int × Int)} {bs : List Bk} {L : List QM} (h : ElR w fl bu en fs bs L) (hb : Bel w w') : ElR w' fl bu en fs bs L :=
  ⟨h.f.bel hb, h.b.bel hb, h.q.bel hb, fun k hk => Nat.lt_of_lt_of_le (h.lt k hk) hb.size, h.nz⟩
theorem ElR.newOff {w : World} {fl bu en : Value} {fs : List (Int × Int)} {bs : List Bk} {L : List QM} (h : ElR w fl bu en fs bs L) {N : Nat} (hN : w.heap.size ≤ N) : Off N fl bu en L :=
  ⟨fun e => by have := h.lt N (.inl e); omega, fun e => by have := h.lt N (.inr (.inl e)); omega, fun e => by have := h.lt N (.inr (.inr e)); omega, fun x hx h0 e => by have := (h.q.mem x hx).rd.own_lt h0 e; omega⟩
theorem QL.offP {w : World} {en : Value} {L : List QM} (h : QL w en L) {p : Addr} (he : en.ownBlock ≠ some p.block) (hm : ∀ x ∈ L, 0 < x.ms.length → (Value.slice x.q.b.mA x.q.b.mL x.q.b.mC).ownBlock ≠ some p.block) (u : Value) : QL (w.setCell p u) en L :=
  ⟨h.rd.far he u, fun x hx => (h.mem x hx).off (hm x hx) u⟩
theorem ElR.off {w : World} {fl bu en : Value} {fs : List (Int × Int)} {bs : List Bk} {L : List QM} (h : ElR w fl bu en fs bs L) {p : Addr} (ho : Off p.block fl bu en L) (u : Value) : ElR (w.setCell p u) fl bu en fs bs L :=
  ⟨h.f.far ho.f u, h.b.far ho.b u, h.q.offP ho.e ho.m u, fun k hk => by have := h.lt k hk; simpa [World.setCell] using this, h.nz⟩
theorem ElR.offRow {N : Nat} {fl bu en : Value} {L : List QM} (ho : Off N fl bu en L) : ∀ (vs : List Value) {w : World} {fs : List (Int × Int)} {bs : List Bk} {i : Nat}, ElR w fl bu en fs bs L → ElR (Proofs.YtpgjbocjhconoaaGreat.setRow w N i vs) fl bu en fs bs L
  | [], _, _, _, _, h => h
  | u :: vs, _, _, _, i, h => ElR.offRow ho vs (h.off (p := ⟨N, i, none⟩) ho u)
theorem ElR.of {w : World} {base : Nat} {fl bu en : Value} {fs : List (Int × Int)} {bs : List Bk} {L : List QM} (h : ElN w base fl bu en fs bs L) : ElR w fl bu en fs bs L :=
  ⟨Rd.own h.flo, Rd.own h.buo, h.eno.bo.ql, fun k hk => by
    rcases hk with hk | hk | hk
    · exact (h.flo.lt k hk).2
    · exact (h.buo.lt k hk).2
    · exact (h.eno.bo.own.lt k hk).2, by
    rcases h.eno.bo.own.2 with ⟨h1, h2⟩ | ⟨g, cap, cur, h1, _⟩
    · exact .inl ⟨h1, List.length_eq_zero_iff.1 h2⟩
    · exact .inr ⟨g, 0, cap, h1⟩⟩
open Go.Sort in
/-- An append onto a row of the call's own, in a drawn region under a statement of one's own. -/
theorem eff_append_own_r {P : Program} {S : World → Prop} {ops : Array Oper} {E : List Nat} {m : Nat} {Q : Exit → Act → World → Prop} {dn : List Nat} {j : Nat} {o : Oper} {a : Act} {w : World} (hw : Region.wanted o (yielded ops a.tmps) = true) (s x : Operand) (t : TypeId)
    (ho : o.op = .call { callee := .builtin .append, args := #[s, x], argTypes := #[t, t] })
    (base : Nat) (e : TypeId) (i : TypeInfo) (z : Value) (size bytes : Nat) (ht : P.underlying t = some (.slice e)) (hi : P.info? e = some i) (hz : i.zero = some z)
    (hsize : i.size = size) (hby : i.bytes = bytes) (hzs : z.cells.size = size) (hsz : 0 < size)
    (v : Value) (n : Nat) (xs : List Value) (hs : a.eval s = v) (hown : w.ownsRow base e size v n xs)
    (ad : Addr) (k c : Nat) (news : List Value) (hx : a.eval x = .slice (some ad) k c) (hl : news.length = k * size) (hnews : ∀ j u, news[j]? = some u → w.cell? (ad.add j) = some u) (h1 : ∀ u ∈ news, u.oneCell' = true)
    (h63 : n + k ≤ maxLen) (hbytes : (n + k) * bytes ≤ 140737488355328) (hbase : base ≤ w.heap.size)
    (h : ∀ v' w', w'.ownsRow base e size v' (n + k) (xs ++ news) → w.grownBy w' v.ownBlock → (v'.ownBlock = v.ownBlock ∨ v'.ownBlock = some w.heap.size) → S w' ∧ wpSt P ops (fun w' => ∃ p : InS S, w' = p.w) E m Q (dn ++ [j]) (a.put o.dst v') w') :
    wpEff P ops (fun w' => ∃ p : InS S, w' = p.w) E m Q dn j o a w := by
  obtain ⟨v', w', hr, h2, h3, h4, h5⟩ := run_append_own_at (P := P) w base t o.type e i z size bytes ht hi hz hsize hby hzs hsz v n xs hown ad k c news hl hnews h1 h63 hbytes hbase
  obtain ⟨g1, g2⟩ := h v' w' h2 h3 h5
  refine eff_made_s (v := v') (w' := w') hw ?_ g1 g2
  unfold execOp
  simp only [ho, resolve, invoke, builtin, Sem.run_bind, Sem.run_pure, Result.andThen_ok, List.map_toArray, List.map_cons, List.map_nil, hs, hx, hr]
theorem own_grown {w w' : World} {base : Nat} {e : TypeId} {size n : Nat} {xs : List Value} {u : Value} {row : Option Nat} (hu : w.ownsRow base e size u n xs) (hg : w.grownBy w' row) (hne : ∀ k, u.ownBlock = some k → row ≠ some k) : w'.ownsRow base e size u n xs := by
  refine hu.kept hg ?_
  cases hq : u.ownBlock with
  | none => exact .inl rfl
  | some k => exact .inr (fun e => hne k hq (by rw [← e]))
theorem Mems.offRow {N : Nat} {b : Bun} {ms : List Mem} (hm : 0 < ms.length → (Value.slice b.mA b.mL b.mC).ownBlock ≠ some N) : ∀ (vs : List Value) {w : World} {i : Nat}, Mems w b ms → Mems (Proofs.YtpgjbocjhconoaaGreat.setRow w N i vs) b ms
  | [], _, _, h => h
  | u :: vs, _, i, h => Mems.offRow hm vs (h.off (p := ⟨N, i, none⟩) hm u)
theorem any_betw (knd : Int) (u : Bu) : ∀ l : List Qu, l.any (betw knd u) = ((l.any fun z => confU z.u u) || (decide (knd = 3) && l.any fun y => y.u.ten == u.ten))
  | [] => by simp
  | x :: l => by
    rw [List.any_cons, List.any_cons, List.any_cons, any_betw knd u l]
    unfold betw
    cases confU x.u u <;> cases decide (knd = 3) <;> cases (x.u.ten == u.ten) <;> cases (l.any fun z => confU z.u u) <;> rfl
theorem goodQ_eq {M B knd : Int} {u : Bu} {P : List Qu} {i : Nat} {x : Qu} (h : P[i]? = some x) {how : Int} {fr lr : Bool} (hw : canU M B x.u u = how) (hf : ((P.drop (i + 1)).any fun z => confU z.u u) = !fr) (hl : ((P.drop (i + 1)).any fun y => y.u.ten == u.ten) = lr) :
    goodQ M B knd u P i = (how != 0 && !(!fr || (decide (knd = 3) && lr))) := by
  unfold goodQ
  simp only [h]
  rw [any_betw, hw, hf, hl]
/-- The members of a bunch do not lie in N. -/
def Ofm (N : Nat) (y : BM) : Prop := 0 < y.ms.length → (Value.slice y.b.mA y.b.mL y.b.mC).ownBlock ≠ some N

set_option maxRecDepth 100000 in
set_option maxHeartbeats 16000000 in
theorem refElAdd_any (M B knd rd wt V hd : Int) (fl bu en : Value) (fs : List (Int × Int)) (bs : List Bk) (L : List QM) (y : BM) (w : World) (hR : ElR w fl bu en fs bs L) (hy : Mems w y.b y.ms)
    (hfn : fs.length ≤ 1000) (hn : L.length ≤ 100) :
    Calls Tryz.prog 9 #[.agg #[.int .i64 M, .int .i64 B], .agg #[.int .i64 knd, .int .i64 rd, .int .i64 wt, .int .i64 V, fl, bu, en, .int .i64 hd], .agg #[.int .i64 (y.b).id, .int .i64 (y.b).ten, .int .i64 (y.b).knd, .int .i64 (y.b).sec, .int .i64 (y.b).cnt, .string (y.b).dat, .bool (y.b).fua, .slice (y.b).mA (y.b).mL (y.b).mC, .int .i64 (y.b).tim]] w fun e w' => ∃ fl' bu' en' L',
      e = .returned (.tuple #[.agg #[.int .i64 knd, .int .i64 rd, .int .i64 wt, .int .i64 V, fl', bu', en', .int .i64 hd], .bool (addE M B ⟨knd, rd, wt, V, fs, bs, L.map QM.qu, hd⟩ y.bu).2]) ∧
      ElR w' fl' bu' en' (addE M B ⟨knd, rd, wt, V, fs, bs, L.map QM.qu, hd⟩ y.bu).1.fl bs L' ∧ L'.map QM.qu = (addE M B ⟨knd, rd, wt, V, fs, bs, L.map QM.qu, hd⟩ y.bu).1.en ∧
      (∀ N < w.heap.size, Off N fl bu en L → Ofm N y → Off N fl' bu' en' L') ∧ Bel w w' := by
  have HV := Lib.hid (fun w' (h : Bel w w') => refBunch_any y.b y.ms w' (hy.bel h))
  have HD := Lib.hid (fun w' => refDue_any rd wt y.b w')
  have HG := Lib.hid (fun w' (h : Bel w w') => refGrow_any V y.b.ten y.b.cnt fs fl w' (hR.f.bel h) hfn)
  have HS := Lib.hid (fun w' (h : Bel w w') => refStamp_any V y.b.ten y.b.cnt fs fl w' (hR.f.bel h) hfn)
  have HY := Lib.hid hy
  have HRR := Lib.hid hR
  obtain ⟨Af, cf, rfl, _, _⟩ := hR.f.form
  obtain ⟨Ab, cb, rfl, _, _⟩ := hR.b.form
  obtain ⟨Ae, ce, rfl, _, _⟩ := hR.q.form
  obtain ⟨a, HA⟩ : ∃ a, Hid (addE M B ⟨knd, rd, wt, V, fs, bs, L.map QM.qu, hd⟩ y.bu = a) := ⟨_, rfl⟩
  rw [HA.out]
  obtain ⟨v0, HV0⟩ : ∃ v, Hid (validB y.b y.ms = v) := ⟨_, rfl⟩
  rw [HV0.out] at HV
  obtain ⟨G, HGG⟩ : ∃ G, Hid (growB V fs y.b.ten y.b.cnt = G) := ⟨_, rfl⟩
  rw [HGG.out] at HG
  obtain ⟨S, HSS⟩ : ∃ S, Hid (stampB V fs y.b.ten y.b.cnt = S) := ⟨_, rfl⟩
  rw [HSS.out] at HS
  obtain ⟨D, HDD⟩ : ∃ D, Hid (dueB rd wt y.b = D) := ⟨_, rfl⟩
  rw [HDD.out] at HD
  obtain ⟨n, Hn⟩ : ∃ n, Hid (L.length = n) := ⟨_, rfl⟩
  obtain ⟨⟨i1, t1, k1, s1, n1, d1, f1, a1, l1, c1, m1⟩, ms1⟩ := y
  obtain rfl : l1 = ms1.length := HY.out.len
  have HYM := Lib.hid (fun w' (h : Bel w w') => HY.out.bel h)
  simp only at HV HD HG HS HGG HSS HV0 HDD ⊢
  rw [Hn.out] at HRR hn ⊢
  have hbw : Bel w ((((w.alloc (.cells [.int .i64 M, .int .i64 B].toArray 36)).alloc (.cells [.int .i64 knd, .int .i64 rd, .int .i64 wt, .int .i64 V, .slice Af fs.length cf, .slice Ab bs.length cb, .slice Ae n ce, .int .i64 hd].toArray 31)).alloc (.cells [.int .i64 i1, .int .i64 t1, .int .i64 k1, .int .i64 s1, .int .i64 n1, .string d1, .bool f1, .slice a1 ms1.length c1, .int .i64 m1].toArray 44)).alloc (.cells [.int .i64 0, .int .i64 0, .int .i64 0, .int .i64 0, .slice none 0 0, .slice none 0 0, .slice none 0 0, .int .i64 0].toArray 31)) := bI
  have hL := (((AtF.new_at (w := w) rfl 36 [.int .i64 M, .int .i64 B]).alloc (.cells [.int .i64 knd, .int .i64 rd, .int .i64 wt, .int .i64 V, .slice Af fs.length cf, .slice Ab bs.length cb, .slice Ae n ce, .int .i64 hd].toArray 31)).alloc (.cells [.int .i64 i1, .int .i64 t1, .int .i64 k1, .int .i64 s1, .int .i64 n1, .string d1, .bool f1, .slice a1 ms1.length c1, .int .i64 m1].toArray 44)).alloc (.cells [.int .i64 0, .int .i64 0, .int .i64 0, .int .i64 0, .slice none 0 0, .slice none 0 0, .slice none 0 0, .int .i64 0].toArray 31)
  have hE := ((AtF.new_at (w := (w.alloc (.cells [.int .i64 M, .int .i64 B].toArray 36))) (g := w.heap.size + 1) (by simp) 31 [.int .i64 knd, .int .i64 rd, .int .i64 wt, .int .i64 V, .slice Af fs.length cf, .slice Ab bs.length cb, .slice Ae n ce, .int .i64 hd]).alloc (.cells [.int .i64 i1, .int .i64 t1, .int .i64 k1, .int .i64 s1, .int .i64 n1, .string d1, .bool f1, .slice a1 ms1.length c1, .int .i64 m1].toArray 44)).alloc (.cells [.int .i64 0, .int .i64 0, .int .i64 0, .int .i64 0, .slice none 0 0, .slice none 0 0, .slice none 0 0, .int .i64 0].toArray 31)
  have hY := (AtF.new_at (w := ((w.alloc (.cells [.int .i64 M, .int .i64 B].toArray 36)).alloc (.cells [.int .i64 knd, .int .i64 rd, .int .i64 wt, .int .i64 V, .slice Af fs.length cf, .slice Ab bs.length cb, .slice Ae n ce, .int .i64 hd].toArray 31))) (g := w.heap.size + 2) (by simp) 44 [.int .i64 i1, .int .i64 t1, .int .i64 k1, .int .i64 s1, .int .i64 n1, .string d1, .bool f1, .slice a1 ms1.length c1, .int .i64 m1]).alloc (.cells [.int .i64 0, .int .i64 0, .int .i64 0, .int .i64 0, .slice none 0 0, .slice none 0 0, .slice none 0 0, .int .i64 0].toArray 31)
  have hZ := AtF.new_at (w := (((w.alloc (.cells [.int .i64 M, .int .i64 B].toArray 36)).alloc (.cells [.int .i64 knd, .int .i64 rd, .int .i64 wt, .int .i64 V, .slice Af fs.length cf, .slice Ab bs.length cb, .slice Ae n ce, .int .i64 hd].toArray 31)).alloc (.cells [.int .i64 i1, .int .i64 t1, .int .i64 k1, .int .i64 s1, .int .i64 n1, .string d1, .bool f1, .slice a1 ms1.length c1, .int .i64 m1].toArray 44))) (g := w.heap.size + 3) (by simp) 31 [.int .i64 0, .int .i64 0, .int .i64 0, .int .i64 0, .slice none 0 0, .slice none 0 0, .slice none 0 0, .int .i64 0]
  have hws : ((((w.alloc (.cells [.int .i64 M, .int .i64 B].toArray 36)).alloc (.cells [.int .i64 knd, .int .i64 rd, .int .i64 wt, .int .i64 V, .slice Af fs.length cf, .slice Ab bs.length cb, .slice Ae n ce, .int .i64 hd].toArray 31)).alloc (.cells [.int .i64 i1, .int .i64 t1, .int .i64 k1, .int .i64 s1, .int .i64 n1, .string d1, .bool f1, .slice a1 ms1.length c1, .int .i64 m1].toArray 44)).alloc (.cells [.int .i64 0, .int .i64 0, .int .i64 0, .int .i64 0, .slice none 0 0, .slice none 0 0, .slice none 0 0, .int .i64 0].toArray 31)).heap.size = w.heap.size + 4 := by simp
  simp only [List.toArray] at hbw hL hE hY hZ hws
  clear hy hR hfn
  go_enter Tryz.func9, Tryz.ntmps9
  go_upto_region 1 with fail
  generalize ((((w.alloc (.cells #[.int .i64 M, .int .i64 B] 36)).alloc (.cells #[.int .i64 knd, .int .i64 rd, .int .i64 wt, .int .i64 V, .slice Af fs.length cf, .slice Ab bs.length cb, .slice Ae n ce, .int .i64 hd] 31)).alloc (.cells #[.int .i64 i1, .int .i64 t1, .int .i64 k1, .int .i64 s1, .int .i64 n1, .string d1, .bool f1, .slice a1 ms1.length c1, .int .i64 m1] 44)).alloc (.cells #[.int .i64 0, .int .i64 0, .int .i64 0, .int .i64 0, .slice none 0 0, .slice none 0 0, .slice none 0 0, .int .i64 0] 31)) = W at *
  obtain ⟨N, HN⟩ : ∃ N, Hid (w.heap.size = N) := ⟨_, rfl⟩
  rw [HN.out] at hL hE hY hZ hws ⊢
  have hNw : w.heap.size ≤ N := Nat.le_of_eq HN.out
  have y0 := (hY).1.2 0 _ rfl
  have y1 := (hY).1.2 1 _ rfl
  have y2 := (hY).1.2 2 _ rfl
  have y3 := (hY).1.2 3 _ rfl
  have y4 := (hY).1.2 4 _ rfl
  have y5 := (hY).1.2 5 _ rfl
  have y6 := (hY).1.2 6 _ rfl
  have y7 := (hY).1.2 7 _ rfl
  have y8 := (hY).1.2 8 _ rfl
  have yl := hY.1.1
  go_wp2_with fail
  refine (HV.out _ hbw).mono ?_; rintro e w2 ⟨rfl, hb2⟩
  clear y0 y1 y2 y3 y4 y5 y6 y7 y8 yl
  have hOK : okU (BM.bu ⟨⟨i1, t1, k1, s1, n1, d1, f1, a1, ms1.length, c1, m1⟩, ms1⟩) = v0 := HV0.out
  have hL2 := hL.bel hb2
  have hE2 := hE.bel hb2
  have hY2 := hY.bel hb2
  have hZ2 := hZ.bel hb2
  have hbw2 := hbw.trans hb2
  have hs2 := hb2.size
  have HOF0 : Hid (∀ X, N ≤ X → Off X (.slice Af fs.length cf) (.slice Ab bs.length cb) (.slice Ae n ce) L) := fun X hX => HRR.out.newOff (by rw [HN.out]; exact hX)
  clear hL hE hY hZ hbw hb2
  cases v0
  · have hA0 : a = (⟨knd, rd, wt, V, fs, bs, L.map QM.qu, hd⟩, false) := by rw [← HA.out, addE, if_neg (by rw [hOK]; simp)]
    go_upto_region 2 with fail
    have hi8 : (Tryz.prog.info? 31).map (·.size) = some 8 := by kernel_rfl
    have one8 : ∀ u ∈ ([.int .i64 knd, .int .i64 rd, .int .i64 wt, .int .i64 V, .slice Af fs.length cf, .slice Ab bs.length cb, .slice Ae n ce, .int .i64 hd] : List Value), u.oneCell' = true := fun u hu => by
      simp only [List.mem_cons, List.not_mem_nil, or_false] at hu
      rcases hu with rfl | rfl | rfl | rfl | rfl | rfl | rfl | rfl <;> rfl
    refine wp_region_lit ?_
    refine wpList_load_at rfl 31 _ rfl rfl hE2 _ Tryz.underlying31 rfl hi8 ?_
    refine wpList_store_at rfl 31 _ _ rfl rfl rfl hZ2 rfl one8 hi8 ?_
    have hR9 := (hZ2).setRow [.int .i64 knd, .int .i64 rd, .int .i64 wt, .int .i64 V, .slice Af fs.length cf, .slice Ab bs.length cb, .slice Ae n ce, .int .i64 hd] rfl
    have hE9 := ElR.offRow (i := 0) (HOF0.out (N + 3) (by omega)) [.int .i64 knd, .int .i64 rd, .int .i64 wt, .int .i64 V, .slice Af fs.length cf, .slice Ab bs.length cb, .slice Ae n ce, .int .i64 hd] (HRR.out.bel hbw2)
    have hb9 := Bel.setRow (B := N + 3) (i := 0) [.int .i64 knd, .int .i64 rd, .int .i64 wt, .int .i64 V, .slice Af fs.length cf, .slice Ab bs.length cb, .slice Ae n ce, .int .i64 hd] hbw2 (by omega)
    have hlv := loadVar_at (P := Tryz.prog) 31 hR9 _ Tryz.underlying31 rfl hi8
    generalize setRow _ (N + 3) 0 [.int .i64 knd, .int .i64 rd, .int .i64 wt, .int .i64 V, .slice Af fs.length cf, .slice Ab bs.length cb, .slice Ae n ce, .int .i64 hd] = W10 at *
    simp only [Act.put, Act.eval, List.setIfInBounds_toArray, List.set_cons_succ, List.set_cons_zero]
    go_wp2
    subst hA0
    exact bodyPost_ret (v := .tuple #[.agg #[.int .i64 knd, .int .i64 rd, .int .i64 wt, .int .i64 V, .slice Af fs.length cf, .slice Ab bs.length cb, .slice Ae n ce, .int .i64 hd], .bool false]) (by simp [results, Tryz.results9, hlv, asAddr]) rfl ⟨_, _, _, _, rfl, hE9, rfl, fun X hX h1 h2 => h1, hb9⟩
  · have y1 := hY2.1.2 1 _ rfl
    have yl := hY2.1.1
    by_cases hT : 0 ≤ t1 ∧ t1 < 4
    · have hT1 := hT.1
      have hT2 := hT.2
      have hT3 : ¬ t1 < 0 := by omega
      have hT4 : ¬ t1 ≥ 4 := by omega
      go_upto_region 3 with fail
      clear y1 yl
      obtain ⟨i0, hi0, hz0, hz1, hz2⟩ := info_parts Tryz.infoQue
      have HIN := Lib.hid (And.intro hi0 (And.intro hz0 (And.intro hz1 hz2)))
      go_cut [8] (fun lv wx => ∃ g c', lv = .slice g n c' ∧ wx.ownsRow (N + 4) 67 12 lv n (qmc L) ∧ Bel w2 wx)
      case first =>
        have e6 := hE2.1.2 6 _ rfl
        have el := hE2.1.1
        rcases HRR.out.nz with ⟨hv, hl⟩ | hl
        · injection hv with e1 e2 e3
          subst e1 e2 e3
          go_wp2_with fail
          go_meet
          rw [hl]
          exact ⟨_, _, rfl, ⟨rfl, Or.inl ⟨rfl, rfl⟩⟩, Bel.refl _⟩
        · obtain ⟨g0, o0, c9, hv⟩ := hl
          injection hv with hv1 hv3 hv2
          subst hv1 hv2
          clear hv3
          have hnews : ∀ j u, (qmc L)[j]? = some u → w2.cell? ((⟨g0, o0, none⟩ : Addr).add j) = some u := fun j u hu => by
            have h0 : 0 < L.length := by
              rcases Nat.eq_zero_or_pos L.length with h | h
              · rw [List.length_eq_zero_iff.1 h] at hu
                cases hu
              · exact h
            obtain ⟨g1, o1, c9, hv1, hlb, hcell⟩ := HRR.out.q.rd.at h0
            injection hv1 with q1 q2 q3
            injection q1 with q1
            injection q1 with q4 q5
            subst q4 q5
            rw [Addr.add_lit, hbw2.cellAt _ _ hlb]
            exact hcell j u hu
          have hone : ∀ u ∈ qmc L, u.oneCell' = true := qcells_one _
          have hml : (qmc L).length = n * 12 := by rw [qmc_len, Hn.out]
          have HCC := Lib.hid (And.intro hone hml)
          go_wp2_with (at_builtin; go_must (refine wpList_append_own_at _ rfl _ _ 29 rfl (N + 4) 67 i0 _ 12 120 Tryz.underlying29 hi0 hz0 hz1 hz2 rfl (by omega) (.slice none 0 0) 0 [] rfl ⟨rfl, Or.inl ⟨rfl, rfl⟩⟩ ⟨g0, o0, none⟩ n _ (qmc L) rfl hml hnews hone (by unfold maxLen; omega) (by omega) (by omega) ?_); intro v' w5 hown hg _ hloc)
          go_meet
          have hown2 : w5.ownsRow (N + 4) 67 12 v' n (qmc L) := by simpa using hown
          have hbW : Bel w2 w5 := bel_own (Bel.refl w2) (base := w2.heap.size) (e := 67) (size := 12) (v := .slice none 0 0) (n := 0) (xs := []) ⟨rfl, Or.inl ⟨rfl, rfl⟩⟩ hg (Nat.le_refl _)
          obtain ⟨gn, cn, hvn⟩ := own_slice hown2
          subst hvn
          exact ⟨_, _, rfl, hown2, hbW⟩
      case rest =>
        obtain ⟨g8, c8, rfl, hown, hb3⟩ := hcut
        obtain ⟨w3, rfl⟩ : ∃ x, x = wc := ⟨_, rfl⟩
        have hL3 := hL2.bel hb3
        have hE3 := hE2.bel hb3
        have hY3 := hY2.bel hb3
        have hZ3 := hZ2.bel hb3
        have hbw3 := hbw2.trans hb3
        have hs3 := hb3.size
        clear hL2 hE2 hY2 hZ2 hbw2 hb3
        go_upto_region 4 with fail
        have e1 := hE3.1.2 1 _ rfl
        have e2 := hE3.1.2 2 _ rfl
        have el := hE3.1.1
        have y0 := (hY3).1.2 0 _ rfl
        have y1 := (hY3).1.2 1 _ rfl
        have y2 := (hY3).1.2 2 _ rfl
        have y3 := (hY3).1.2 3 _ rfl
        have y4 := (hY3).1.2 4 _ rfl
        have y5 := (hY3).1.2 5 _ rfl
        have y6 := (hY3).1.2 6 _ rfl
        have y7 := (hY3).1.2 7 _ rfl
        have y8 := (hY3).1.2 8 _ rfl
        have yl := hY3.1.1
        go_wp2_with fail
        refine (HD.out _).mono ?_; rintro e w4 ⟨rfl, hb4⟩
        clear e1 e2 el y0 y1 y2 y3 y4 y5 y6 y7 y8 yl hT1 hT2 hT3 hT4
        have hL4 := hL3.bel hb4
        have hE4 := hE3.bel hb4
        have hY4 := hY3.bel hb4
        have hZ4 := hZ3.bel hb4
        have hbw4 := hbw3.trans hb4
        have hown4 := own_keep hown hb4
        have hs4 := hb4.size
        clear hL3 hE3 hY3 hZ3 hbw3 hown hb4
        have HQ4 := Lib.hid (show QL w4 (.slice g8 n c8) L from ⟨by rw [Hn.out]; exact Rd.own hown4, fun x hx => (HRR.out.q.mem x hx).bel hbw4⟩)
        obtain ⟨P, HP⟩ : ∃ P, Hid (L.map QM.qu = P) := ⟨_, rfl⟩
        have HLP : Hid (P.length = n) := by show _ = _; rw [← HP.out, List.length_map]; exact Hn.out
        obtain ⟨u, HU⟩ : ∃ u, Hid (BM.bu ⟨⟨i1, t1, k1, s1, n1, d1, f1, a1, ms1.length, c1, m1⟩, ms1⟩ = u) := ⟨_, rfl⟩
        rw [HP.out, HU.out] at HA
        have HUT : Hid (u.ten = t1 ∧ u.cnt = n1) := by show _ ∧ _; rw [← HU.out]; exact ⟨rfl, rfl⟩
        have HSV := Lib.hid (And.intro hL4 (And.intro hE4 (And.intro hY4 (And.intro hZ4 (And.intro hbw4 hown4)))))
        have hNs : N + 4 ≤ w4.heap.size := by omega
        clear hL4 hE4 hY4 hZ4 hbw4 hown4
        go_wp2
        go_loopw [10] (fun iv wr => ∃ i : Nat, iv = .int .i64 i ∧ i ≤ n ∧ Hid (∀ j < i, goodQ M B knd u P j = false) ∧ Bel w4 wr) (fun iv _ => n - (intOf iv).toNat)
        case atStart => exact ⟨0, rfl, Nat.zero_le _, fun j h => absurd h (by omega), Bel.refl _⟩
        case round =>
          obtain ⟨i, rfl, hi, HG2, hbr⟩ := hrel
          obtain ⟨W5, rfl⟩ : ∃ X, X = wr := ⟨_, rfl⟩
          obtain ⟨hL4, hE4, hY4, hZ4, hbw4, hown4⟩ := HSV.out
          have hL5 := hL4.bel hbr
          have hE5 := hE4.bel hbr
          have hY5 := hY4.bel hbr
          have hZ5 := hZ4.bel hbr
          have hbw5 := hbw4.trans hbr
          have hown5 := own_keep hown4 hbr
          clear hL4 hE4 hY4 hZ4 hbw4 hown4
          by_cases hlt : i < n
          · have hin : (i : Int) < (n : Int) := by omega
            obtain ⟨x, hx⟩ : ∃ x, L[i]? = some x := ⟨L[i]'(by have := Hn.out; omega), List.getElem?_eq_getElem _⟩
            obtain ⟨g, o, cx, hat⟩ := (HQ4.out.bel hbr).at hx
            have hfx := hat.form
            injection hfx with h1 h2 h3
            subst h1
            have hrow := hat.row
            have hmx := hat.mem
            have hgl := hat.lt
            have HXI := Lib.hid hx
            have HXP : Hid (P[i]? = some x.qu) := by show _ = _; rw [← HP.out, List.getElem?_map, hx]; rfl
            obtain ⟨how, HW⟩ : ∃ k, Hid (canU M B x.qu.u u = k) := ⟨_, rfl⟩
            have HCN := Lib.hid (fun W' (h : Bel W5 W') => refCan_any M B x.bm ⟨⟨i1, t1, k1, s1, n1, d1, f1, a1, ms1.length, c1, m1⟩, ms1⟩ W' (hmx.bel h) (HYM.out _ (hbw5.trans h)))
            rw [HU.out, show x.bm.bu = x.qu.u from rfl, HW.out] at HCN
            have HBN := Lib.hid (fun W' (h : Bel W5 W') => refBunches_any L _ W' (HQ4.out.bel (hbr.trans h)) (by have := Hn.out; omega))
            obtain ⟨fr, HFV⟩ : ∃ b, Hid (((P.drop (i + 1)).any fun z => confU z.u u) = !b) := ⟨!((P.drop (i + 1)).any fun z => confU z.u u), by show _ = _; rw [Bool.not_not]⟩
            have hfree : freeF (L.map QM.bm) (i + 1) ⟨⟨i1, t1, k1, s1, n1, d1, f1, a1, ms1.length, c1, m1⟩, ms1⟩ = fr := by
              rw [freeF_bu, HU.out, List.map_map, ← List.map_drop, List.any_map]
              have h := HFV.out
              rw [← HP.out, ← List.map_drop, List.any_map] at h
              have e : ((fun x => confU x u) ∘ (BM.bu ∘ QM.bm)) = ((fun z => confU z.u u) ∘ QM.qu) := rfl
              rw [e, h, Bool.not_not]
            have HFR := Lib.hid (fun W' bv (hb : BL W' bv (L.map QM.bm)) (h : Bel W5 W') => refFree_any (L.map QM.bm) (i + 1) ⟨⟨i1, t1, k1, s1, n1, d1, f1, a1, ms1.length, c1, m1⟩, ms1⟩ bv W' hb (HYM.out _ (hbw5.trans h)) (by rw [List.length_map, Hn.out]; omega))
            rw [hfree] at HFR
            obtain ⟨lr, HLR⟩ : ∃ b, Hid (((P.drop (i + 1)).any fun y => y.u.ten == t1) = b) := ⟨_, rfl⟩
            have HLA := Lib.hid (fun W' (h : Bel W5 W') => refLater_any L (i + 1) t1 _ W' (HQ4.out.bel (hbr.trans h)) (by have := Hn.out; omega) (by rw [Hn.out]; omega))
            rw [HP.out, HLR.out] at HLA
            have hc1 : ((i + 1 : Nat) : Int) = (i : Int) + 1 := by omega
            rw [hc1] at HLA HFR
            simp only at HFR
            clear hc1
            clear h2 h3 hx hat hfree hmx
            obtain ⟨⟨⟨j1, t2, k2, s2, n2, d2, f2, a2, l2, c2, m2⟩, du, st, tr⟩, ms2⟩ := x
            simp only [QM.bm] at HCN hrow
            have p0 := hL5.1.2 0 _ rfl
            have p1 := hL5.1.2 1 _ rfl
            have q0 := (hrow).cell 0 rfl
            have q1 := (hrow).cell 1 rfl
            have q2 := (hrow).cell 2 rfl
            have q3 := (hrow).cell 3 rfl
            have q4 := (hrow).cell 4 rfl
            have q5 := (hrow).cell 5 rfl
            have q6 := (hrow).cell 6 rfl
            have q7 := (hrow).cell 7 rfl
            have q8 := (hrow).cell 8 rfl
            have q9 := (hrow).cell 9 rfl
            have q10 := (hrow).cell 10 rfl
            have q11 := (hrow).cell 11 rfl
            rw [Nat.add_zero] at q0
            clear q9 q10 q11
            have y0 := (hY5).1.2 0 _ rfl
            have y1 := (hY5).1.2 1 _ rfl
            have y2 := (hY5).1.2 2 _ rfl
            have y3 := (hY5).1.2 3 _ rfl
            have y4 := (hY5).1.2 4 _ rfl
            have y5 := (hY5).1.2 5 _ rfl
            have y6 := (hY5).1.2 6 _ rfl
            have y7 := (hY5).1.2 7 _ rfl
            have y8 := (hY5).1.2 8 _ rfl
            go_upto_region 8 with fail
            have rp0 := fun d os => cell_regrown p0 d os
            have rp1 := fun d os => cell_regrown p1 d os
            have rq0 := fun d os => cell_regrown q0 d os
            have rq1 := fun d os => cell_regrown q1 d os
            have rq2 := fun d os => cell_regrown q2 d os
            have rq3 := fun d os => cell_regrown q3 d os
            have rq4 := fun d os => cell_regrown q4 d os
            have rq5 := fun d os => cell_regrown q5 d os
            have rq6 := fun d os => cell_regrown q6 d os
            have rq7 := fun d os => cell_regrown q7 d os
            have rq8 := fun d os => cell_regrown q8 d os
            have ry0 := fun d os => cell_regrown y0 d os
            have ry1 := fun d os => cell_regrown y1 d os
            have ry2 := fun d os => cell_regrown y2 d os
            have ry3 := fun d os => cell_regrown y3 d os
            have ry4 := fun d os => cell_regrown y4 d os
            have ry5 := fun d os => cell_regrown y5 d os
            have ry6 := fun d os => cell_regrown y6 d os
            have ry7 := fun d os => cell_regrown y7 d os
            have ry8 := fun d os => cell_regrown y8 d os
            refine wp_region_lex [7] 8 (by kernel_rfl) (by kernel_rfl) ?_
            simp only [List.take_succ_cons, List.take_zero, List.drop_succ_cons, List.drop_zero]
            with_reducible refine lex_seg 7 _ _ _ _ (by kernel_rfl) ?_
            simp only [List.take_succ_cons, List.take_zero, List.drop_succ_cons, List.drop_zero]
            try simp only [Act.put, List.setIfInBounds_toArray, List.set_cons_succ, List.set_cons_zero]
            repeat (go_big_quiet_step (fail))
            with_reducible refine wpQuiet_nil ?_
            refine lex_call 29 rfl rfl (by simp [go_sem]; rfl) ?_
            have hzz := HCN.out _ ((Bel.refl W5).drew)
            with_reducible refine Calls.mono hzz ?_
            rintro e w6 ⟨rfl, hb6⟩
            refine ⟨_, rfl, hb6, ?_⟩
            clear hzz
            with_reducible refine lex_nil ?_
            clear rp0 rp1 p0 p1 q0 q1 q2 q3 q4 q5 q6 q7 q8 rq0 rq1 rq2 rq3 rq4 rq5 rq6 rq7 rq8 ry0 ry1 ry2 ry3 ry4 ry5 ry6 ry7 ry8 y0 y1 y2 y3 y4 y5 y6 y7 y8
            have hb56 : Bel W5 w6 := (Bel.refl W5).drew.trans hb6
            obtain ⟨gq, HGQ⟩ : ∃ b, Hid (goodQ M B knd u P i = b) := ⟨_, rfl⟩
            have HGE : Hid (gq = (how != 0 && !(!fr || (decide (knd = 3) && lr)))) := by
              show _ = _
              rw [← HGQ.out]
              exact goodQ_eq HXP.out HW.out HFV.out (by rw [HUT.out.1]; exact HLR.out)
            go_upto_region 9 with fail
            go_cut [75] (fun v wx => v = .bool (!gq) ∧ Bel w6 wx)
            case first =>
              have hE6 := hE5.bel hb56
              have hY6 := hY5.bel hb56
              have e0 := hE6.1.2 0 _ rfl
              have re0 := fun d os => cell_regrown e0 d os
              have y0 := (hY6).1.2 0 _ rfl
              have y1 := (hY6).1.2 1 _ rfl
              have y2 := (hY6).1.2 2 _ rfl
              have y3 := (hY6).1.2 3 _ rfl
              have y4 := (hY6).1.2 4 _ rfl
              have y5 := (hY6).1.2 5 _ rfl
              have y6 := (hY6).1.2 6 _ rfl
              have y7 := (hY6).1.2 7 _ rfl
              have y8 := (hY6).1.2 8 _ rfl
              have ry0 := fun d os => cell_regrown y0 d os
              have ry1 := fun d os => cell_regrown y1 d os
              have ry2 := fun d os => cell_regrown y2 d os
              have ry3 := fun d os => cell_regrown y3 d os
              have ry4 := fun d os => cell_regrown y4 d os
              have ry5 := fun d os => cell_regrown y5 d os
              have ry6 := fun d os => cell_regrown y6 d os
              have ry7 := fun d os => cell_regrown y7 d os
              have ry8 := fun d os => cell_regrown y8 d os
              clear hL5 hE5 hY5 hZ5 hbw5 hown5 hE6 hY6
              have hd6 : Bel W5 w6.drew := hb56.drew
              by_cases h0 : how = 0
              · have h0b : (how == 0) = true := by simpa using h0
                have hgq : gq = false := by rw [HGE.out, h0]; rfl
                subst hgq
                clear h0
                refine wp_region_lex [4, 8, 21] 24 (by kernel_rfl) (by kernel_rfl) ?_
                simp only [List.take_succ_cons, List.take_zero, List.drop_succ_cons, List.drop_zero]
                with_reducible refine lex_seg 4 _ _ _ _ (by kernel_rfl) ?_
                simp only [List.take_succ_cons, List.take_zero, List.drop_succ_cons, List.drop_zero]
                try simp only [Act.put, List.setIfInBounds_toArray, List.set_cons_succ, List.set_cons_zero]
                repeat (go_big_quiet_step (fail))
                with_reducible refine wpQuiet_nil ?_
                with_reducible refine lex_skip (by kernel_rfl) ?_
                try simp only [Act.put, List.setIfInBounds_toArray, List.set_cons_succ, List.set_cons_zero]
                with_reducible refine lex_seg 3 _ _ _ _ (by kernel_rfl) ?_
                simp only [List.take_succ_cons, List.take_zero, List.drop_succ_cons, List.drop_zero]
                try simp only [Act.put, List.setIfInBounds_toArray, List.set_cons_succ, List.set_cons_zero]
                repeat (go_big_quiet_step (fail))
                with_reducible refine wpQuiet_nil ?_
                with_reducible refine lex_skip (by kernel_rfl) ?_
                try simp only [Act.put, List.setIfInBounds_toArray, List.set_cons_succ, List.set_cons_zero]
                with_reducible refine lex_seg 12 _ _ _ _ (by kernel_rfl) ?_
                simp only [List.take_succ_cons, List.take_zero, List.drop_succ_cons, List.drop_zero]
                try simp only [Act.put, List.setIfInBounds_toArray, List.set_cons_succ, List.set_cons_zero]
                repeat (go_big_quiet_step (fail))
                with_reducible refine wpQuiet_nil ?_
                with_reducible refine lex_skip (by kernel_rfl) ?_
                try simp only [Act.put, List.setIfInBounds_toArray, List.set_cons_succ, List.set_cons_zero]
                with_reducible refine lex_seg 2 _ _ _ _ (by kernel_rfl) ?_
                simp only [List.take_succ_cons, List.take_zero, List.drop_succ_cons, List.drop_zero]
                try simp only [Act.put, List.setIfInBounds_toArray, List.set_cons_succ, List.set_cons_zero]
                repeat (go_big_quiet_step (fail))
                with_reducible refine wpQuiet_nil ?_
                with_reducible refine lex_nil ?_
                go_wp2_with fail
                go_meet
                exact ⟨rfl, bI⟩
              · have h0b : (how == 0) = false := by simpa using h0
                have h0c : (how != 0) = true := by simpa using h0
                refine wp_region_lex [4, 8, 21] 24 (by kernel_rfl) (by kernel_rfl) ?_
                simp only [List.take_succ_cons, List.take_zero, List.drop_succ_cons, List.drop_zero]
                with_reducible refine lex_seg 4 _ _ _ _ (by kernel_rfl) ?_
                simp only [List.take_succ_cons, List.take_zero, List.drop_succ_cons, List.drop_zero]
                try simp only [Act.put, List.setIfInBounds_toArray, List.set_cons_succ, List.set_cons_zero]
                repeat (go_big_quiet_step (fail))
                with_reducible refine wpQuiet_nil ?_
                refine lex_call 31 rfl rfl (by simp [go_sem]; rfl) ?_
                have hzz := HBN.out _ hd6
                with_reducible refine Calls.mono hzz ?_
                rintro e w7 ⟨bv, rfl, hbl, hb7⟩
                refine ⟨_, rfl, hb7, ?_⟩
                clear hzz
                with_reducible refine lex_seg 3 _ _ _ _ (by kernel_rfl) ?_
                simp only [List.take_succ_cons, List.take_zero, List.drop_succ_cons, List.drop_zero]
                try simp only [Act.put, List.setIfInBounds_toArray, List.set_cons_succ, List.set_cons_zero]
                repeat (go_big_quiet_step (fail))
                with_reducible refine wpQuiet_nil ?_
                refine lex_call 30 rfl rfl (by simp [go_sem]; rfl) ?_
                have hzz := HFR.out _ _ hbl (hd6.trans hb7)
                with_reducible refine Calls.mono hzz ?_
                rintro e w8 ⟨rfl, hb8⟩
                refine ⟨_, rfl, hb8, ?_⟩
                clear hzz hbl
                have hb68 : Bel w6 w8 := ((Bel.refl w6).drew.trans hb7).trans hb8
                cases fr
                · have hgq : gq = false := by rw [HGE.out]; simp
                  subst hgq
                  with_reducible refine lex_seg 12 _ _ _ _ (by kernel_rfl) ?_
                  simp only [List.take_succ_cons, List.take_zero, List.drop_succ_cons, List.drop_zero]
                  try simp only [Act.put, List.setIfInBounds_toArray, List.set_cons_succ, List.set_cons_zero]
                  repeat (go_big_quiet_step (fail))
                  with_reducible refine wpQuiet_nil ?_
                  with_reducible refine lex_skip (by kernel_rfl) ?_
                  try simp only [Act.put, List.setIfInBounds_toArray, List.set_cons_succ, List.set_cons_zero]
                  with_reducible refine lex_seg 2 _ _ _ _ (by kernel_rfl) ?_
                  simp only [List.take_succ_cons, List.take_zero, List.drop_succ_cons, List.drop_zero]
                  try simp only [Act.put, List.setIfInBounds_toArray, List.set_cons_succ, List.set_cons_zero]
                  repeat (go_big_quiet_step (fail))
                  with_reducible refine wpQuiet_nil ?_
                  with_reducible refine lex_nil ?_
                  go_wp2_with fail
                  go_meet
                  exact ⟨rfl, bI⟩
                · by_cases h3 : knd = 3
                  · have h3b : (knd == 3) = true := by simpa using h3
                    have hgq : gq = !lr := by rw [HGE.out, h0c, h3]; simp
                    subst hgq
                    clear h3
                    with_reducible refine lex_seg 12 _ _ _ _ (by kernel_rfl) ?_
                    simp only [List.take_succ_cons, List.take_zero, List.drop_succ_cons, List.drop_zero]
                    try simp only [Act.put, List.setIfInBounds_toArray, List.set_cons_succ, List.set_cons_zero]
                    repeat (go_big_quiet_step (fail))
                    with_reducible refine wpQuiet_nil ?_
                    refine lex_call 32 rfl rfl (by simp [go_sem]; rfl) ?_
                    have hzz := HLA.out _ ((hd6.trans hb7).trans hb8)
                    with_reducible refine Calls.mono hzz ?_
                    rintro e w9 ⟨rfl, hb9⟩
                    refine ⟨_, rfl, hb9, ?_⟩
                    clear hzz
                    with_reducible refine lex_seg 2 _ _ _ _ (by kernel_rfl) ?_
                    simp only [List.take_succ_cons, List.take_zero, List.drop_succ_cons, List.drop_zero]
                    try simp only [Act.put, List.setIfInBounds_toArray, List.set_cons_succ, List.set_cons_zero]
                    repeat (go_big_quiet_step (fail))
                    with_reducible refine wpQuiet_nil ?_
                    with_reducible refine lex_nil ?_
                    have hb69 := hb68.trans hb9
                    go_wp2_with fail
                    go_meet
                    exact ⟨by cases lr <;> rfl, hb69⟩
                  · have h3b : (knd == 3) = false := by simpa using h3
                    have hgq : gq = true := by rw [HGE.out, h0c]; simp [h3]
                    subst hgq
                    with_reducible refine lex_seg 12 _ _ _ _ (by kernel_rfl) ?_
                    simp only [List.take_succ_cons, List.take_zero, List.drop_succ_cons, List.drop_zero]
                    try simp only [Act.put, List.setIfInBounds_toArray, List.set_cons_succ, List.set_cons_zero]
                    repeat (go_big_quiet_step (fail))
                    with_reducible refine wpQuiet_nil ?_
                    with_reducible refine lex_skip (by kernel_rfl) ?_
                    try simp only [Act.put, List.setIfInBounds_toArray, List.set_cons_succ, List.set_cons_zero]
                    with_reducible refine lex_seg 2 _ _ _ _ (by kernel_rfl) ?_
                    simp only [List.take_succ_cons, List.take_zero, List.drop_succ_cons, List.drop_zero]
                    try simp only [Act.put, List.setIfInBounds_toArray, List.set_cons_succ, List.set_cons_zero]
                    repeat (go_big_quiet_step (fail))
                    with_reducible refine wpQuiet_nil ?_
                    with_reducible refine lex_nil ?_
                    go_wp2_with fail
                    go_meet
                    exact ⟨rfl, bI⟩
            case rest =>
              obtain ⟨rfl, hb7⟩ := hcut
              obtain ⟨w7, rfl⟩ : ∃ x, x = wc := ⟨_, rfl⟩
              cases gq
              · have HG3 : Hid (∀ j < i + 1, goodQ M B knd u P j = false) := by
                  intro j hj
                  by_cases h : j < i
                  · exact HG2.out j h
                  · obtain rfl : j = i := by omega
                    exact HGQ.out
                have hbf := (hbr.trans hb56).trans hb7
                clear hL5 hE5 hY5 hZ5 hbw5 hown5
                go_wp2
                go_roundw
                case rel => exact ⟨i + 1, by go_num, by omega, HG3, hbf⟩
                case measure => simp [intOf]; omega
              · have hb57 := hb56.trans hb7
                have hL7 := hL5.bel hb57
                have hE7 := hE5.bel hb57
                have hY7 := hY5.bel hb57
                have hZ7 := hZ5.bel hb57
                have hbw7 := hbw5.trans hb57
                have hown7 := own_keep hown5 hb57
                have HQ7 := Lib.hid (HQ4.out.bel (hbr.trans hb57))
                have hs7 := hb57.size
                have hs5 := hbr.size
                have hpp := partP_some HGQ.out HG2.out
                have HPP := Lib.hid hpp
                have hrow7 := hrow.bel hb57 hgl
                have hgl7 : g < w7.heap.size := by omega
                have HOF7 := Lib.hid (hown7)
                clear hL5 hE5 hY5 hZ5 hbw5 hown5 hpp hrow hb56 hb7 hb6 HBN HFR HLA HCN HFV HLR HGE HGQ
                obtain ⟨g', c', hv', hg4, _⟩ := hown7.form (by omega)
                injection hv' with hv1 hv2 hv3
                injection hv1 with hv1
                injection hv1 with hv1 hv4
                subst hv1 hv4
                clear hv2 hv3
                obtain rfl : l2 = ms2.length := (HQ7.out.mem _ (List.mem_of_getElem? HXI.out)).len
                have hcx : how ≠ 0 := by
                  obtain ⟨x0, hx0, hc0, _⟩ := partP_find HPP.out
                  rw [HXP.out] at hx0
                  injection hx0 with hx0
                  subst hx0
                  rw [HW.out] at hc0
                  exact hc0
                have HCX := Lib.hid hcx
                have e0 := (hE7).1.2 0 _ rfl
                have e1 := (hE7).1.2 1 _ rfl
                have e2 := (hE7).1.2 2 _ rfl
                have e3 := (hE7).1.2 3 _ rfl
                have e4 := (hE7).1.2 4 _ rfl
                have e5 := (hE7).1.2 5 _ rfl
                have e6 := (hE7).1.2 6 _ rfl
                have e7 := (hE7).1.2 7 _ rfl
                have el := hE7.1.1
                have y0 := (hY7).1.2 0 _ rfl
                have y1 := (hY7).1.2 1 _ rfl
                have y2 := (hY7).1.2 2 _ rfl
                have y3 := (hY7).1.2 3 _ rfl
                have y4 := (hY7).1.2 4 _ rfl
                have y5 := (hY7).1.2 5 _ rfl
                have y6 := (hY7).1.2 6 _ rfl
                have y7 := (hY7).1.2 7 _ rfl
                have y8 := (hY7).1.2 8 _ rfl
                have yl := hY7.1.1
                clear hcx
                go_wp2_with fail
                refine (HG.out _ hbw7).mono ?_; rintro e w8 ⟨v8, rfl, ho8, hb8⟩
                clear e0 e1 e2 e3 e4 e5 e6 e7 el y0 y1 y2 y3 y4 y5 y6 y7 y8 yl
                obtain ⟨A5, c5, rfl⟩ := own_slice ho8
                have hSL : G.1.length = fs.length := by rw [← HGG.out]; exact advB_len2 V fs t1 n1 _
                obtain ⟨G1, G2, G3⟩ := G
                simp only at hSL ho8
                have hFB : Bel w8 (w8.alloc (.cells [.int .i64 V, .slice A5 fs.length c5].toArray 27)) := bI
                have hF6 := AtF.new_at (w := w8) rfl 27 [.int .i64 V, .slice A5 fs.length c5]
                have hb78 := hb8.trans hFB
                have hgFB : g < w8.heap.size := Nat.lt_of_lt_of_le hgl7 hb8.size
                have hnFB : w7.heap.size ≤ w8.heap.size := hb8.size
                have ho6 := own_keep ho8 hFB
                have hE6 := hE7.bel hb78
                have hY6 := hY7.bel hb78
                have hZ6 := hZ7.bel hb78
                have hbw6 := hbw7.trans hb78
                have hown6 := own_keep hown7 hb78
                have HQ6 := Lib.hid (HQ7.out.bel hb78)
                have hrow6 := hrow7.bel hb78 hgl7
                have hs6 := hb78.size
                have hs7' : N + 4 ≤ w7.heap.size := by omega
                simp only [List.toArray] at hF6 hE6 hY6 hZ6 hbw6 hown6 hrow6 hs6 HQ6 ho6
                clear hFB hb78 hb8 ho8 hE7 hY7 hZ7 hbw7 hown7 hrow7 hL7 HOF7
                have hgg : growB V fs u.ten u.cnt = (G1, G2, G3) := by rw [HUT.out.1, HUT.out.2]; exact HGG.out
                cases G3
                · have hA0 : a = (⟨knd, rd, wt, V, fs, bs, P, hd⟩, false) := by
                    rw [← HA.out, addE_some ⟨by rw [← HU.out]; exact hOK, by rw [HUT.out.1]; exact hT.1, by rw [HUT.out.1]; exact hT.2⟩ HPP.out HXP.out hgg]
                    rfl
                  go_upto_region 12 with fail
                  have hi8 : (Tryz.prog.info? 31).map (·.size) = some 8 := by kernel_rfl
                  have one8 : ∀ u ∈ ([.int .i64 knd, .int .i64 rd, .int .i64 wt, .int .i64 V, .slice Af fs.length cf, .slice Ab bs.length cb, .slice Ae n ce, .int .i64 hd] : List Value), u.oneCell' = true := fun u hu => by
                    simp only [List.mem_cons, List.not_mem_nil, or_false] at hu
                    rcases hu with rfl | rfl | rfl | rfl | rfl | rfl | rfl | rfl <;> rfl
                  refine wp_region_lit ?_
                  refine wpList_load_at rfl 31 _ rfl rfl hE6 _ Tryz.underlying31 rfl hi8 ?_
                  refine wpList_store_at rfl 31 _ _ rfl rfl rfl hZ6 rfl one8 hi8 ?_
                  have hR9 := (hZ6).setRow [.int .i64 knd, .int .i64 rd, .int .i64 wt, .int .i64 V, .slice Af fs.length cf, .slice Ab bs.length cb, .slice Ae n ce, .int .i64 hd] rfl
                  have hE9 := ElR.offRow (i := 0) (HOF0.out (N + 3) (by omega)) [.int .i64 knd, .int .i64 rd, .int .i64 wt, .int .i64 V, .slice Af fs.length cf, .slice Ab bs.length cb, .slice Ae n ce, .int .i64 hd] (HRR.out.bel hbw6)
                  have hb9 := Bel.setRow (B := N + 3) (i := 0) [.int .i64 knd, .int .i64 rd, .int .i64 wt, .int .i64 V, .slice Af fs.length cf, .slice Ab bs.length cb, .slice Ae n ce, .int .i64 hd] hbw6 (by omega)
                  have hlv := loadVar_at (P := Tryz.prog) 31 hR9 _ Tryz.underlying31 rfl hi8
                  generalize setRow _ (N + 3) 0 [.int .i64 knd, .int .i64 rd, .int .i64 wt, .int .i64 V, .slice Af fs.length cf, .slice Ab bs.length cb, .slice Ae n ce, .int .i64 hd] = W10 at *
                  simp only [Act.put, Act.eval, List.setIfInBounds_toArray, List.set_cons_succ, List.set_cons_zero]
                  go_wp2
                  subst hA0
                  exact bodyPost_ret (v := .tuple #[.agg #[.int .i64 knd, .int .i64 rd, .int .i64 wt, .int .i64 V, .slice Af fs.length cf, .slice Ab bs.length cb, .slice Ae n ce, .int .i64 hd], .bool false]) (by simp [results, Tryz.results9, hlv, asAddr]) rfl ⟨_, _, _, _, rfl, hE9, HP.out, fun X hX h1 h2 => h1, hb9⟩
                · have hA0 : a = (⟨knd, rd, wt, V, G1, bs, P.set i ⟨joinU (QM.qu ⟨⟨⟨j1, t2, k2, s2, n2, d2, f2, a2, ms2.length, c2, m2⟩, du, st, tr⟩, ms2⟩).u u how, min du D, st, tr⟩, hd⟩, true) := by
                    rw [← HA.out, addE_some ⟨by rw [← HU.out]; exact hOK, by rw [HUT.out.1]; exact hT.1, by rw [HUT.out.1]; exact hT.2⟩ HPP.out HXP.out hgg, HW.out, ← HDD.out, ← HU.out]
                    rfl
                  have hxm := HQ6.out.mem _ (List.mem_of_getElem? HXI.out)
                  go_upto_region 13 with fail
                  generalize w8.alloc _ = W6 at *
                  generalize w8.heap.size = FB at *
                  have hcan : canU 128 0 (BM.bu ⟨⟨j1, t2, k2, s2, n2, d2, f2, a2, ms2.length, c2, m2⟩, ms2⟩) (BM.bu ⟨⟨i1, t1, k1, s1, n1, d1, f1, a1, ms1.length, c1, m1⟩, ms1⟩) = how := by
                    rw [HU.out]
                    have h : canU M B (BM.bu ⟨⟨j1, t2, k2, s2, n2, d2, f2, a2, ms2.length, c2, m2⟩, ms2⟩) u = how := HW.out
                    rw [← h]
                    exact can_bigR (by rw [h]; exact HCX.out)
                  have hJC := Lib.hid (fun (w' : World) (h : Bel W6 w') => refJoin_any ⟨⟨j1, t2, k2, s2, n2, d2, f2, a2, ms2.length, c2, m2⟩, ms2⟩ ⟨⟨i1, t1, k1, s1, n1, d1, f1, a1, ms1.length, c1, m1⟩, ms1⟩ how w' (hxm.bel h) (HYM.out _ (hbw6.trans h)) HCX.out hcan)
                  obtain ⟨J, HJ⟩ : ∃ J, Hid (joinU (BM.bu ⟨⟨j1, t2, k2, s2, n2, d2, f2, a2, ms2.length, c2, m2⟩, ms2⟩) (BM.bu ⟨⟨i1, t1, k1, s1, n1, d1, f1, a1, ms1.length, c1, m1⟩, ms1⟩) how = J) := ⟨_, rfl⟩
                  rw [HJ.out] at hJC
                  simp only [Bu.at] at hJC
                  have hgl6 : g < W6.heap.size := by omega
                  rw [Nat.zero_add] at hrow6
                  have hc9 : ∀ j v, ([.int .i64 j1, .int .i64 t2, .int .i64 k2, .int .i64 s2, .int .i64 n2, .string d2, .bool f2, .slice a2 ms2.length c2, .int .i64 m2] : List Value)[j]? = some v → W6.cell? ⟨g, i * 12 + j, none⟩ = some v := fun j v h => hrow6.all j v (by
                    have hj := (List.getElem?_eq_some_iff.1 h).1
                    show ([.int .i64 j1, .int .i64 t2, .int .i64 k2, .int .i64 s2, .int .i64 n2, .string d2, .bool f2, .slice a2 ms2.length c2, .int .i64 m2] ++ [.int .i64 du, .int .i64 st, .int .i64 tr] : List Value)[j]? = some v
                    rw [List.getElem?_append_left hj]; exact h)
                  clear hxm hcan
                  let RAS : World → Prop := fun W' => AtF W' (N + 2) [.int .i64 i1, .int .i64 t1, .int .i64 k1, .int .i64 s1, .int .i64 n1, .string d1, .bool f1, .slice a1 ms1.length c1, .int .i64 m1]
                  haveI nnS : Nonempty (InS RAS) := ⟨⟨W6, hY6⟩⟩
                  have hgY : N + 2 ≠ g := by omega
                  have HGX := Lib.hid hgg
                  clear hgg
                  refine wp_region_sts RAS [8, 11, 16, 21] 22 (by kernel_rfl) (by kernel_rfl) ?hS0 ?_
                  case hS0 => exact hY6.drew
                  with_reducible refine st_sel [0, 1, 2, 3, 4, 5, 6, 7, 9, 10, 12, 13, 14, 15, 17] (by kernel_rfl) (by kernel_rfl) ?_
                  simp only [picked, List.getElem?_cons_succ, List.getElem?_cons_zero, Option.toList_some, List.nil_append, List.cons_append, List.append_nil]
                  go_big_quiet_step (fail)
                  go_big_quiet_step (fail)
                  go_big_quiet_step (fail)
                  go_big_quiet_step (fail)
                  go_big_quiet_step (fail)
                  go_big_quiet_step (fail)
                  go_big_quiet_step (fail)
                  go_big_quiet_step (fail)
                  refine wpQuiet_load_s rfl 44 _ rfl rfl (fun w' h => h) _ Tryz.underlying44 rfl (by kernel_rfl) ?_
                  try simp only [Act.put, List.setIfInBounds_toArray, List.set_cons_succ, List.set_cons_zero]
                  repeat (go_big_quiet_step (fail))
                  with_reducible refine wpQuiet_nil ?_
                  try simp only [List.nil_append, List.cons_append, Act.put, List.setIfInBounds_toArray, List.set_cons_succ, List.set_cons_zero]
                  refine st_branch [8, 16] (by kernel_rfl) (branch_cons (by simp only [List.getElem?_toArray, List.getElem?_cons_succ, List.getElem?_cons_zero]; rfl) ?_ (branch_cons (by simp only [List.getElem?_toArray, List.getElem?_cons_succ, List.getElem?_cons_zero]; rfl) ?_ branch_nil))
                  · skip
                    refine eff_made_s rfl (exec_load_off (W := W6.drew) 44 _ rfl rfl (fun j v h => hc9 j v h) _ Tryz.underlying44 rfl (by kernel_rfl)) ?_ ?_
                    · exact hY6.drew
                    try simp only [List.nil_append, List.cons_append, Act.put, List.setIfInBounds_toArray, List.set_cons_succ, List.set_cons_zero]
                    refine st_branch [11, 16] (by kernel_rfl) (branch_cons (by simp only [List.getElem?_toArray, List.getElem?_cons_succ, List.getElem?_cons_zero]; rfl) ?_ (branch_cons (by simp only [List.getElem?_toArray, List.getElem?_cons_succ, List.getElem?_cons_zero]; rfl) ?_ branch_nil))
                    · skip
                      refine eff_call_s 34 rfl (by simp [go_sem]; rfl) hY6.drew ?_
                      refine (hJC.out _ bI).mono ?_; rintro e w9 ⟨A7, c7, rfl, hZb, hb9⟩
                      have hb9' : Bel W6 w9 := bI
                      refine ⟨_, rfl, hY6.bel hb9', ?_⟩
                      try simp only [List.nil_append, List.cons_append, Act.put, List.setIfInBounds_toArray, List.set_cons_succ, List.set_cons_zero]
                      refine st_branch [16] (by kernel_rfl) (branch_cons (by simp only [List.getElem?_toArray, List.getElem?_cons_succ, List.getElem?_cons_zero]; rfl) ?_ branch_nil)
                      have hdd : w9.cell? ⟨g, i * 12 + 9, none⟩ = some (.int .i64 du) := (hrow6.bel hb9' hgl6).cell 9 rfl
                      refine eff_made_s rfl (by simp [go_sem, hdd]; exact ⟨rfl, rfl⟩) ?_ ?_
                      · exact hY6.bel hb9'
                      clear hdd
                      try simp only [List.nil_append, List.cons_append, Act.put, List.setIfInBounds_toArray, List.set_cons_succ, List.set_cons_zero]
                      with_reducible refine st_sel [18, 19, 20] (by kernel_rfl) (by kernel_rfl) ?_
                      simp only [picked, List.getElem?_cons_succ, List.getElem?_cons_zero, Option.toList_some, List.nil_append, List.cons_append, List.append_nil]
                      repeat (go_big_quiet_step (fail))
                      with_reducible refine wpQuiet_nil ?_
                      try simp only [List.nil_append, List.cons_append, Act.put, List.setIfInBounds_toArray, List.set_cons_succ, List.set_cons_zero]
                      refine st_branch [21] (by kernel_rfl) (branch_cons (by simp only [List.getElem?_toArray, List.getElem?_cons_succ, List.getElem?_cons_zero]; rfl) ?_ branch_nil)
                      have hown9 := own_keep hown6 hb9'
                      have hrow9 := hrow6.bel hb9' hgl6
                      have gf := fun j => hown9.frozenAt (g := g) j
                      have hc7 : ∀ j v, ([.int .i64 j1, .int .i64 t2, .int .i64 k2, .int .i64 s2, .int .i64 n2, .string d2, .bool f2, .slice a2 ms2.length c2, .int .i64 m2] : List Value)[j]? = some v → w9.cell? ⟨g, i * 12 + j, none⟩ = some v := fun j v h => hrow9.all j v (by
                        have hj := (List.getElem?_eq_some_iff.1 h).1
                        show ([.int .i64 j1, .int .i64 t2, .int .i64 k2, .int .i64 s2, .int .i64 n2, .string d2, .bool f2, .slice a2 ms2.length c2, .int .i64 m2] ++ [.int .i64 du, .int .i64 st, .int .i64 tr] : List Value)[j]? = some v
                        rw [List.getElem?_append_left hj]; exact h)
                      have one9 : ∀ u ∈ ([.int .i64 J.id, .int .i64 J.ten, .int .i64 J.knd, .int .i64 J.sec, .int .i64 J.cnt, .string J.dat, .bool J.fua, .slice A7 J.ms.length c7, .int .i64 J.tim] : List Value), u.oneCell' = true := fun u hu => by
                        simp only [List.mem_cons, List.not_mem_nil, or_false] at hu
                        rcases hu with rfl | rfl | rfl | rfl | rfl | rfl | rfl | rfl | rfl <;> rfl
                      with_reducible refine eff_done_s (w' := setRow w9 g (i * 12) [.int .i64 J.id, .int .i64 J.ten, .int .i64 J.knd, .int .i64 J.sec, .int .i64 J.cnt, .string J.dat, .bool J.fua, .slice A7 J.ms.length c7, .int .i64 J.tim]) ?_ ?_ ?_ ?_
                      · rfl
                      · exact exec_store_off (vs := [.int .i64 J.id, .int .i64 J.ten, .int .i64 J.knd, .int .i64 J.sec, .int .i64 J.cnt, .string J.dat, .bool J.fua, .slice A7 J.ms.length c7, .int .i64 J.tim]) 44 _ _ rfl rfl rfl hc7 (fun j => gf (i * 12 + j)) rfl one9 (by kernel_rfl)
                      · exact (hY6.bel hb9').setRow_other (B := g) (i := i * 12) [.int .i64 J.id, .int .i64 J.ten, .int .i64 J.knd, .int .i64 J.sec, .int .i64 J.cnt, .string J.dat, .bool J.fua, .slice A7 J.ms.length c7, .int .i64 J.tim] hgY
                      have hO8 := own_setRow [.int .i64 J.id, .int .i64 J.ten, .int .i64 J.knd, .int .i64 J.sec, .int .i64 J.cnt, .string J.dat, .bool J.fua, .slice A7 J.ms.length c7, .int .i64 J.tim] (i := i * 12) hown9
                      generalize hW8 : setRow w9 g (i * 12) [.int .i64 J.id, .int .i64 J.ten, .int .i64 J.knd, .int .i64 J.sec, .int .i64 J.cnt, .string J.dat, .bool J.fua, .slice A7 J.ms.length c7, .int .i64 J.tim] = W8
                      rw [hW8] at hO8
                      have h89 : (setL (qmc L) (i * 12) [.int .i64 J.id, .int .i64 J.ten, .int .i64 J.knd, .int .i64 J.sec, .int .i64 J.cnt, .string J.dat, .bool J.fua, .slice A7 J.ms.length c7, .int .i64 J.tim])[i * 12 + 9]? = some (.int .i64 du) := by
                        rw [setL_getElem? [.int .i64 J.id, .int .i64 J.ten, .int .i64 J.knd, .int .i64 J.sec, .int .i64 J.cnt, .string J.dat, .bool J.fua, .slice A7 J.ms.length c7, .int .i64 J.tim] (qmc L) (i * 12) (i * 12 + 9) (Or.inr (Nat.le_refl _))]
                        exact flat_at (l := L.map QM.q) (f := Qd.cells) Qd.cells_len (by rw [List.getElem?_map, HXI.out]; rfl) (j := 9) rfl
                      have c89 := hO8.cells (g := g) rfl _ _ h89
                      rw [add_zero_off] at c89
                      have f89 := hO8.frozenAt (g := g) (i * 12 + 9)
                      have g89 := (hO8.lt g rfl).2
                      clear h89
                      try simp only [List.nil_append, List.cons_append, Act.put, List.setIfInBounds_toArray, List.set_cons_succ, List.set_cons_zero]
                      refine st_end (by kernel_rfl) ?_
                      simp only [List.drop_succ_cons, List.drop_zero, List.drop_nil]
                      go_upto_region 14 with fail
                      have hmin : (if D < du then D else du) = min du D := by rw [Int.min_def]; split <;> split <;> omega
                      rw [hmin]
                      have hw9 : W8.setCell ⟨g, i * 12 + 9, none⟩ (.int .i64 (min du D)) = setRow w9 g (i * 12) [.int .i64 J.id, .int .i64 J.ten, .int .i64 J.knd, .int .i64 J.sec, .int .i64 J.cnt, .string J.dat, .bool J.fua, .slice A7 J.ms.length c7, .int .i64 J.tim, .int .i64 (min du D)] := by rw [← hW8]; rfl
                      generalize W8.setCell ⟨g, i * 12 + 9, none⟩ (.int .i64 (min du D)) = WA at *
                      obtain ⟨yq, Hyq⟩ : ∃ y : QM, Hid (y = ⟨⟨Bu.at J A7 c7, min du D, st, tr⟩, J.ms⟩) := ⟨_, rfl⟩
                      have hs9 := hb9'.size
                      have hZb2 := hZb.2
                      simp only [World.size_drew] at hZb2
                      have hownA : WA.ownsRow (N + 4) 67 12 (.slice (some ⟨g, 0, none⟩) n c8) n (qmc (L.set i yq)) := by
                        rw [hw9]
                        have h := own_setRow [.int .i64 J.id, .int .i64 J.ten, .int .i64 J.knd, .int .i64 J.sec, .int .i64 J.cnt, .string J.dat, .bool J.fua, .slice A7 J.ms.length c7, .int .i64 J.tim, .int .i64 (min du D)] (i := i * 12) hown9
                        rw [setL_ten (y := yq) HXI.out (by rw [Hyq.out]; rfl) rfl] at h
                        exact h
                      have hbA : Bel w WA := by rw [hw9]; exact Bel.setRow (B := g) (i := i * 12) _ (hbw6.trans hb9') (by omega)
                      have hEA : AtF WA (N + 1) [.int .i64 knd, .int .i64 rd, .int .i64 wt, .int .i64 V, .slice Af fs.length cf, .slice Ab bs.length cb, .slice Ae n ce, .int .i64 hd] := by rw [hw9]; exact (hE6.bel hb9').setRow_other (B := g) (i := i * 12) _ (by omega)
                      have hZA : AtF WA (N + 3) [.int .i64 0, .int .i64 0, .int .i64 0, .int .i64 0, .slice none 0 0, .slice none 0 0, .slice none 0 0, .int .i64 0] := by rw [hw9]; exact (hZ6.bel hb9').setRow_other (B := g) (i := i * 12) _ (by omega)
                      have hFA : AtF WA FB [.int .i64 V, .slice A5 fs.length c5] := by rw [hw9]; exact (hF6.bel hb9').setRow_other (B := g) (i := i * 12) _ (by omega)
                      have hoA : WA.ownsRow w7.heap.size 101 2 (.slice A5 fs.length c5) fs.length (fcells G1) := by rw [hw9]; exact setRow_own (B := g) (i := i * 12) _ (own_keep ho6 hb9') (fun e => by have := (ho6.lt g e).1; omega)
                      have hmy : Mems WA yq.q.b yq.ms := by
                        rw [hw9, Hyq.out]
                        exact Mems.offRow (fun h0 e => by have := hZb2 g e; omega) _ hZb.1
                      have hRA : ElR WA (.slice A5 fs.length c5) (.slice Ab bs.length cb) (.slice (some ⟨g, 0, none⟩) n c8) G1 bs (L.set i yq) := by
                        refine ⟨by rw [hSL]; exact Rd.own hoA, HRR.out.b.bel hbA, ⟨by rw [List.length_set, Hn.out]; exact Rd.own hownA, fun z hz => ?_⟩, fun k hk => ?_, .inr ⟨g, 0, c8, by rw [List.length_set, Hn.out]⟩⟩
                        · rcases List.mem_or_eq_of_mem_set hz with hz | hz
                          · exact (HRR.out.q.mem z hz).bel hbA
                          · rw [hz]; exact hmy
                        · rcases hk with hk | hk | hk
                          · exact (hoA.lt k hk).2
                          · exact Nat.lt_of_lt_of_le (HRR.out.lt k (.inr (.inl hk))) hbA.size
                          · exact (hownA.lt k hk).2
                      have HOFA : Hid (∀ X, X < N + 4 → (X < N → Off X (.slice Af fs.length cf) (.slice Ab bs.length cb) (.slice Ae n ce) L ∧ Ofm X ⟨⟨i1, t1, k1, s1, n1, d1, f1, a1, ms1.length, c1, m1⟩, ms1⟩) → Off X (.slice A5 fs.length c5) (.slice Ab bs.length cb) (.slice (some ⟨g, 0, none⟩) n c8) (L.set i yq)) := by
                        intro X hX hXN
                        have ho : Off X (.slice Af fs.length cf) (.slice Ab bs.length cb) (.slice Ae n ce) L := by
                          by_cases h : X < N
                          · exact (hXN h).1
                          · exact HOF0.out X (by omega)
                        refine ⟨fun e => by have := (hoA.lt X e).1; omega, ho.b, fun e => by have := (hownA.lt X e).1; omega, fun z hz h0 e => ?_⟩
                        rcases List.mem_or_eq_of_mem_set hz with hz | hz
                        · exact ho.m z hz h0 e
                        · rw [hz, Hyq.out] at e
                          have := hZb2 X e
                          omega
                      have hCP : (L.set i yq).map QM.qu = P.set i ⟨joinU (QM.qu ⟨⟨⟨j1, t2, k2, s2, n2, d2, f2, a2, ms2.length, c2, m2⟩, du, st, tr⟩, ms2⟩).u u how, min du D, st, tr⟩ := by
                        rw [List.map_set, HP.out, Hyq.out, ← HU.out]
                        show P.set i ⟨J, min du D, st, tr⟩ = _
                        rw [← HJ.out]; rfl
                      clear hO8 c89 f89 g89 hW8 hZb hZb2 hb9 hb9' gf hc7 hrow9 hown9 hw9 one9 hmin hmy hownA
                      have e3 := hEA.1.2 3 _ rfl
                      have e4 := hEA.1.2 4 _ rfl
                      have e6 := hEA.1.2 6 _ rfl
                      have el := hEA.1.1
                      have ef := hEA.2
                      have x0 := hFA.1.2 0 _ rfl
                      have x1 := hFA.1.2 1 _ rfl
                      have xl := hFA.1.1
                      have hEB := ((hEA.set 3 (by simp) (.int .i64 V)).set 4 (by simp) (.slice A5 fs.length c5)).set 6 (by simp) (.slice (some ⟨g, 0, none⟩) n c8)
                      simp only [List.set_cons_succ, List.set_cons_zero] at hEB
                      have hZB := ((hZA.other (C := N + 1) (by omega) 3 (.int .i64 V)).other (C := N + 1) (by omega) 4 (.slice A5 fs.length c5)).other (C := N + 1) (by omega) 6 (.slice (some ⟨g, 0, none⟩) n c8)
                      have hof1 := HOFA.out (N + 1) (by omega) (fun h => absurd h (by omega))
                      have hof3 := HOFA.out (N + 3) (by omega) (fun h => absurd h (by omega))
                      have hRB := ((hRA.off (p := ⟨N + 1, 3, none⟩) hof1 (.int .i64 V)).off (p := ⟨N + 1, 4, none⟩) hof1 (.slice A5 fs.length c5)).off (p := ⟨N + 1, 6, none⟩) hof1 (.slice (some ⟨g, 0, none⟩) n c8)
                      have hbB := ((hbA.setNew (p := ⟨N + 1, 3, none⟩) (by show w.heap.size ≤ N + 1; omega) (.int .i64 V)).setNew (p := ⟨N + 1, 4, none⟩) (by show w.heap.size ≤ N + 1; omega) (.slice A5 fs.length c5)).setNew (p := ⟨N + 1, 6, none⟩) (by show w.heap.size ≤ N + 1; omega) (.slice (some ⟨g, 0, none⟩) n c8)
                      clear hEA hZA hRA hbA hFA
                      go_upto_region 15 with fail
                      clear e3 e4 e6 el ef x0 x1 xl
                      generalize World.setCell _ ⟨N + 1, 6, none⟩ _ = WB at *
                      go_upto_region 15 with fail
                      have hi8 : (Tryz.prog.info? 31).map (·.size) = some 8 := by kernel_rfl
                      have one8 : ∀ u ∈ ([.int .i64 knd, .int .i64 rd, .int .i64 wt, .int .i64 V, .slice A5 fs.length c5, .slice Ab bs.length cb, .slice (some ⟨g, 0, none⟩) n c8, .int .i64 hd] : List Value), u.oneCell' = true := fun u hu => by
                        simp only [List.mem_cons, List.not_mem_nil, or_false] at hu
                        rcases hu with rfl | rfl | rfl | rfl | rfl | rfl | rfl | rfl <;> rfl
                      refine wp_region_lit ?_
                      refine wpList_load_at rfl 31 _ rfl rfl hEB _ Tryz.underlying31 rfl hi8 ?_
                      refine wpList_store_at rfl 31 _ _ rfl rfl rfl hZB rfl one8 hi8 ?_
                      have hR9 := (hZB).setRow [.int .i64 knd, .int .i64 rd, .int .i64 wt, .int .i64 V, .slice A5 fs.length c5, .slice Ab bs.length cb, .slice (some ⟨g, 0, none⟩) n c8, .int .i64 hd] rfl
                      have hE9 := ElR.offRow (i := 0) hof3 [.int .i64 knd, .int .i64 rd, .int .i64 wt, .int .i64 V, .slice A5 fs.length c5, .slice Ab bs.length cb, .slice (some ⟨g, 0, none⟩) n c8, .int .i64 hd] hRB
                      have hb9 := Bel.setRow (B := N + 3) (i := 0) [.int .i64 knd, .int .i64 rd, .int .i64 wt, .int .i64 V, .slice A5 fs.length c5, .slice Ab bs.length cb, .slice (some ⟨g, 0, none⟩) n c8, .int .i64 hd] hbB (by omega)
                      have hlv := loadVar_at (P := Tryz.prog) 31 hR9 _ Tryz.underlying31 rfl hi8
                      generalize setRow _ (N + 3) 0 [.int .i64 knd, .int .i64 rd, .int .i64 wt, .int .i64 V, .slice A5 fs.length c5, .slice Ab bs.length cb, .slice (some ⟨g, 0, none⟩) n c8, .int .i64 hd] = W10 at *
                      simp only [Act.put, Act.eval, List.setIfInBounds_toArray, List.set_cons_succ, List.set_cons_zero]
                      go_wp2
                      subst hA0
                      exact bodyPost_ret (v := .tuple #[.agg #[.int .i64 knd, .int .i64 rd, .int .i64 wt, .int .i64 V, .slice A5 fs.length c5, .slice Ab bs.length cb, .slice (some ⟨g, 0, none⟩) n c8, .int .i64 hd], .bool true]) (by simp [results, Tryz.results9, hlv, asAddr]) rfl ⟨_, _, _, _, rfl, hE9, hCP, fun X hX h1 h2 => HOFA.out X (by omega) (fun _ => ⟨h1, h2⟩), hb9⟩
                    · skip
                      have hdd : W6.drew.cell? ⟨g, i * 12 + 9, none⟩ = some (.int .i64 du) := hrow6.cell 9 rfl
                      refine eff_made_s rfl (by simp [go_sem, hdd]; exact ⟨rfl, rfl⟩) ?_ ?_
                      · exact hY6.drew
                      clear hdd
                      try simp only [List.nil_append, List.cons_append, Act.put, List.setIfInBounds_toArray, List.set_cons_succ, List.set_cons_zero]
                      with_reducible refine st_sel [18] (by kernel_rfl) (by kernel_rfl) ?_
                      simp only [picked, List.getElem?_cons_succ, List.getElem?_cons_zero, Option.toList_some, List.nil_append, List.cons_append, List.append_nil]
                      repeat (go_big_quiet_step (fail))
                      with_reducible refine wpQuiet_nil ?_
                      try simp only [List.nil_append, List.cons_append, Act.put, List.setIfInBounds_toArray, List.set_cons_succ, List.set_cons_zero]
                      refine st_branch [11] (by kernel_rfl) (branch_cons (by simp only [List.getElem?_toArray, List.getElem?_cons_succ, List.getElem?_cons_zero]; rfl) ?_ branch_nil)
                      refine eff_call_s 34 rfl (by simp [go_sem]; rfl) hY6.drew ?_
                      refine (hJC.out _ bI).mono ?_; rintro e w9 ⟨A7, c7, rfl, hZb, hb9⟩
                      have hb9' : Bel W6 w9 := bI
                      refine ⟨_, rfl, hY6.bel hb9', ?_⟩
                      try simp only [List.nil_append, List.cons_append, Act.put, List.setIfInBounds_toArray, List.set_cons_succ, List.set_cons_zero]
                      with_reducible refine st_sel [19, 20] (by kernel_rfl) (by kernel_rfl) ?_
                      simp only [picked, List.getElem?_cons_succ, List.getElem?_cons_zero, Option.toList_some, List.nil_append, List.cons_append, List.append_nil]
                      repeat (go_big_quiet_step (fail))
                      with_reducible refine wpQuiet_nil ?_
                      try simp only [List.nil_append, List.cons_append, Act.put, List.setIfInBounds_toArray, List.set_cons_succ, List.set_cons_zero]
                      refine st_branch [21] (by kernel_rfl) (branch_cons (by simp only [List.getElem?_toArray, List.getElem?_cons_succ, List.getElem?_cons_zero]; rfl) ?_ branch_nil)
                      have hown9 := own_keep hown6 hb9'
                      have hrow9 := hrow6.bel hb9' hgl6
                      have gf := fun j => hown9.frozenAt (g := g) j
                      have hc7 : ∀ j v, ([.int .i64 j1, .int .i64 t2, .int .i64 k2, .int .i64 s2, .int .i64 n2, .string d2, .bool f2, .slice a2 ms2.length c2, .int .i64 m2] : List Value)[j]? = some v → w9.cell? ⟨g, i * 12 + j, none⟩ = some v := fun j v h => hrow9.all j v (by
                        have hj := (List.getElem?_eq_some_iff.1 h).1
                        show ([.int .i64 j1, .int .i64 t2, .int .i64 k2, .int .i64 s2, .int .i64 n2, .string d2, .bool f2, .slice a2 ms2.length c2, .int .i64 m2] ++ [.int .i64 du, .int .i64 st, .int .i64 tr] : List Value)[j]? = some v
                        rw [List.getElem?_append_left hj]; exact h)
                      have one9 : ∀ u ∈ ([.int .i64 J.id, .int .i64 J.ten, .int .i64 J.knd, .int .i64 J.sec, .int .i64 J.cnt, .string J.dat, .bool J.fua, .slice A7 J.ms.length c7, .int .i64 J.tim] : List Value), u.oneCell' = true := fun u hu => by
                        simp only [List.mem_cons, List.not_mem_nil, or_false] at hu
                        rcases hu with rfl | rfl | rfl | rfl | rfl | rfl | rfl | rfl | rfl <;> rfl
                      with_reducible refine eff_done_s (w' := setRow w9 g (i * 12) [.int .i64 J.id, .int .i64 J.ten, .int .i64 J.knd, .int .i64 J.sec, .int .i64 J.cnt, .string J.dat, .bool J.fua, .slice A7 J.ms.length c7, .int .i64 J.tim]) ?_ ?_ ?_ ?_
                      · rfl
                      · exact exec_store_off (vs := [.int .i64 J.id, .int .i64 J.ten, .int .i64 J.knd, .int .i64 J.sec, .int .i64 J.cnt, .string J.dat, .bool J.fua, .slice A7 J.ms.length c7, .int .i64 J.tim]) 44 _ _ rfl rfl rfl hc7 (fun j => gf (i * 12 + j)) rfl one9 (by kernel_rfl)
                      · exact (hY6.bel hb9').setRow_other (B := g) (i := i * 12) [.int .i64 J.id, .int .i64 J.ten, .int .i64 J.knd, .int .i64 J.sec, .int .i64 J.cnt, .string J.dat, .bool J.fua, .slice A7 J.ms.length c7, .int .i64 J.tim] hgY
                      have hO8 := own_setRow [.int .i64 J.id, .int .i64 J.ten, .int .i64 J.knd, .int .i64 J.sec, .int .i64 J.cnt, .string J.dat, .bool J.fua, .slice A7 J.ms.length c7, .int .i64 J.tim] (i := i * 12) hown9
                      generalize hW8 : setRow w9 g (i * 12) [.int .i64 J.id, .int .i64 J.ten, .int .i64 J.knd, .int .i64 J.sec, .int .i64 J.cnt, .string J.dat, .bool J.fua, .slice A7 J.ms.length c7, .int .i64 J.tim] = W8
                      rw [hW8] at hO8
                      have h89 : (setL (qmc L) (i * 12) [.int .i64 J.id, .int .i64 J.ten, .int .i64 J.knd, .int .i64 J.sec, .int .i64 J.cnt, .string J.dat, .bool J.fua, .slice A7 J.ms.length c7, .int .i64 J.tim])[i * 12 + 9]? = some (.int .i64 du) := by
                        rw [setL_getElem? [.int .i64 J.id, .int .i64 J.ten, .int .i64 J.knd, .int .i64 J.sec, .int .i64 J.cnt, .string J.dat, .bool J.fua, .slice A7 J.ms.length c7, .int .i64 J.tim] (qmc L) (i * 12) (i * 12 + 9) (Or.inr (Nat.le_refl _))]
                        exact flat_at (l := L.map QM.q) (f := Qd.cells) Qd.cells_len (by rw [List.getElem?_map, HXI.out]; rfl) (j := 9) rfl
                      have c89 := hO8.cells (g := g) rfl _ _ h89
                      rw [add_zero_off] at c89
                      have f89 := hO8.frozenAt (g := g) (i * 12 + 9)
                      have g89 := (hO8.lt g rfl).2
                      clear h89
                      try simp only [List.nil_append, List.cons_append, Act.put, List.setIfInBounds_toArray, List.set_cons_succ, List.set_cons_zero]
                      refine st_end (by kernel_rfl) ?_
                      simp only [List.drop_succ_cons, List.drop_zero, List.drop_nil]
                      go_upto_region 14 with fail
                      have hmin : (if D < du then D else du) = min du D := by rw [Int.min_def]; split <;> split <;> omega
                      rw [hmin]
                      have hw9 : W8.setCell ⟨g, i * 12 + 9, none⟩ (.int .i64 (min du D)) = setRow w9 g (i * 12) [.int .i64 J.id, .int .i64 J.ten, .int .i64 J.knd, .int .i64 J.sec, .int .i64 J.cnt, .string J.dat, .bool J.fua, .slice A7 J.ms.length c7, .int .i64 J.tim, .int .i64 (min du D)] := by rw [← hW8]; rfl
                      generalize W8.setCell ⟨g, i * 12 + 9, none⟩ (.int .i64 (min du D)) = WA at *
                      obtain ⟨yq, Hyq⟩ : ∃ y : QM, Hid (y = ⟨⟨Bu.at J A7 c7, min du D, st, tr⟩, J.ms⟩) := ⟨_, rfl⟩
                      have hs9 := hb9'.size
                      have hZb2 := hZb.2
                      simp only [World.size_drew] at hZb2
                      have hownA : WA.ownsRow (N + 4) 67 12 (.slice (some ⟨g, 0, none⟩) n c8) n (qmc (L.set i yq)) := by
                        rw [hw9]
                        have h := own_setRow [.int .i64 J.id, .int .i64 J.ten, .int .i64 J.knd, .int .i64 J.sec, .int .i64 J.cnt, .string J.dat, .bool J.fua, .slice A7 J.ms.length c7, .int .i64 J.tim, .int .i64 (min du D)] (i := i * 12) hown9
                        rw [setL_ten (y := yq) HXI.out (by rw [Hyq.out]; rfl) rfl] at h
                        exact h
                      have hbA : Bel w WA := by rw [hw9]; exact Bel.setRow (B := g) (i := i * 12) _ (hbw6.trans hb9') (by omega)
                      have hEA : AtF WA (N + 1) [.int .i64 knd, .int .i64 rd, .int .i64 wt, .int .i64 V, .slice Af fs.length cf, .slice Ab bs.length cb, .slice Ae n ce, .int .i64 hd] := by rw [hw9]; exact (hE6.bel hb9').setRow_other (B := g) (i := i * 12) _ (by omega)
                      have hZA : AtF WA (N + 3) [.int .i64 0, .int .i64 0, .int .i64 0, .int .i64 0, .slice none 0 0, .slice none 0 0, .slice none 0 0, .int .i64 0] := by rw [hw9]; exact (hZ6.bel hb9').setRow_other (B := g) (i := i * 12) _ (by omega)
                      have hFA : AtF WA FB [.int .i64 V, .slice A5 fs.length c5] := by rw [hw9]; exact (hF6.bel hb9').setRow_other (B := g) (i := i * 12) _ (by omega)
                      have hoA : WA.ownsRow w7.heap.size 101 2 (.slice A5 fs.length c5) fs.length (fcells G1) := by rw [hw9]; exact setRow_own (B := g) (i := i * 12) _ (own_keep ho6 hb9') (fun e => by have := (ho6.lt g e).1; omega)
                      have hmy : Mems WA yq.q.b yq.ms := by
                        rw [hw9, Hyq.out]
                        exact Mems.offRow (fun h0 e => by have := hZb2 g e; omega) _ hZb.1
                      have hRA : ElR WA (.slice A5 fs.length c5) (.slice Ab bs.length cb) (.slice (some ⟨g, 0, none⟩) n c8) G1 bs (L.set i yq) := by
                        refine ⟨by rw [hSL]; exact Rd.own hoA, HRR.out.b.bel hbA, ⟨by rw [List.length_set, Hn.out]; exact Rd.own hownA, fun z hz => ?_⟩, fun k hk => ?_, .inr ⟨g, 0, c8, by rw [List.length_set, Hn.out]⟩⟩
                        · rcases List.mem_or_eq_of_mem_set hz with hz | hz
                          · exact (HRR.out.q.mem z hz).bel hbA
                          · rw [hz]; exact hmy
                        · rcases hk with hk | hk | hk
                          · exact (hoA.lt k hk).2
                          · exact Nat.lt_of_lt_of_le (HRR.out.lt k (.inr (.inl hk))) hbA.size
                          · exact (hownA.lt k hk).2
                      have HOFA : Hid (∀ X, X < N + 4 → (X < N → Off X (.slice Af fs.length cf) (.slice Ab bs.length cb) (.slice Ae n ce) L ∧ Ofm X ⟨⟨i1, t1, k1, s1, n1, d1, f1, a1, ms1.length, c1, m1⟩, ms1⟩) → Off X (.slice A5 fs.length c5) (.slice Ab bs.length cb) (.slice (some ⟨g, 0, none⟩) n c8) (L.set i yq)) := by
                        intro X hX hXN
                        have ho : Off X (.slice Af fs.length cf) (.slice Ab bs.length cb) (.slice Ae n ce) L := by
                          by_cases h : X < N
                          · exact (hXN h).1
                          · exact HOF0.out X (by omega)
                        refine ⟨fun e => by have := (hoA.lt X e).1; omega, ho.b, fun e => by have := (hownA.lt X e).1; omega, fun z hz h0 e => ?_⟩
                        rcases List.mem_or_eq_of_mem_set hz with hz | hz
                        · exact ho.m z hz h0 e
                        · rw [hz, Hyq.out] at e
                          have := hZb2 X e
                          omega
                      have hCP : (L.set i yq).map QM.qu = P.set i ⟨joinU (QM.qu ⟨⟨⟨j1, t2, k2, s2, n2, d2, f2, a2, ms2.length, c2, m2⟩, du, st, tr⟩, ms2⟩).u u how, min du D, st, tr⟩ := by
                        rw [List.map_set, HP.out, Hyq.out, ← HU.out]
                        show P.set i ⟨J, min du D, st, tr⟩ = _
                        rw [← HJ.out]; rfl
                      clear hO8 c89 f89 g89 hW8 hZb hZb2 hb9 hb9' gf hc7 hrow9 hown9 hw9 one9 hmin hmy hownA
                      have e3 := hEA.1.2 3 _ rfl
                      have e4 := hEA.1.2 4 _ rfl
                      have e6 := hEA.1.2 6 _ rfl
                      have el := hEA.1.1
                      have ef := hEA.2
                      have x0 := hFA.1.2 0 _ rfl
                      have x1 := hFA.1.2 1 _ rfl
                      have xl := hFA.1.1
                      have hEB := ((hEA.set 3 (by simp) (.int .i64 V)).set 4 (by simp) (.slice A5 fs.length c5)).set 6 (by simp) (.slice (some ⟨g, 0, none⟩) n c8)
                      simp only [List.set_cons_succ, List.set_cons_zero] at hEB
                      have hZB := ((hZA.other (C := N + 1) (by omega) 3 (.int .i64 V)).other (C := N + 1) (by omega) 4 (.slice A5 fs.length c5)).other (C := N + 1) (by omega) 6 (.slice (some ⟨g, 0, none⟩) n c8)
                      have hof1 := HOFA.out (N + 1) (by omega) (fun h => absurd h (by omega))
                      have hof3 := HOFA.out (N + 3) (by omega) (fun h => absurd h (by omega))
                      have hRB := ((hRA.off (p := ⟨N + 1, 3, none⟩) hof1 (.int .i64 V)).off (p := ⟨N + 1, 4, none⟩) hof1 (.slice A5 fs.length c5)).off (p := ⟨N + 1, 6, none⟩) hof1 (.slice (some ⟨g, 0, none⟩) n c8)
                      have hbB := ((hbA.setNew (p := ⟨N + 1, 3, none⟩) (by show w.heap.size ≤ N + 1; omega) (.int .i64 V)).setNew (p := ⟨N + 1, 4, none⟩) (by show w.heap.size ≤ N + 1; omega) (.slice A5 fs.length c5)).setNew (p := ⟨N + 1, 6, none⟩) (by show w.heap.size ≤ N + 1; omega) (.slice (some ⟨g, 0, none⟩) n c8)
                      clear hEA hZA hRA hbA hFA
                      go_upto_region 15 with fail
                      clear e3 e4 e6 el ef x0 x1 xl
                      generalize World.setCell _ ⟨N + 1, 6, none⟩ _ = WB at *
                      go_upto_region 15 with fail
                      have hi8 : (Tryz.prog.info? 31).map (·.size) = some 8 := by kernel_rfl
                      have one8 : ∀ u ∈ ([.int .i64 knd, .int .i64 rd, .int .i64 wt, .int .i64 V, .slice A5 fs.length c5, .slice Ab bs.length cb, .slice (some ⟨g, 0, none⟩) n c8, .int .i64 hd] : List Value), u.oneCell' = true := fun u hu => by
                        simp only [List.mem_cons, List.not_mem_nil, or_false] at hu
                        rcases hu with rfl | rfl | rfl | rfl | rfl | rfl | rfl | rfl <;> rfl
                      refine wp_region_lit ?_
                      refine wpList_load_at rfl 31 _ rfl rfl hEB _ Tryz.underlying31 rfl hi8 ?_
                      refine wpList_store_at rfl 31 _ _ rfl rfl rfl hZB rfl one8 hi8 ?_
                      have hR9 := (hZB).setRow [.int .i64 knd, .int .i64 rd, .int .i64 wt, .int .i64 V, .slice A5 fs.length c5, .slice Ab bs.length cb, .slice (some ⟨g, 0, none⟩) n c8, .int .i64 hd] rfl
                      have hE9 := ElR.offRow (i := 0) hof3 [.int .i64 knd, .int .i64 rd, .int .i64 wt, .int .i64 V, .slice A5 fs.length c5, .slice Ab bs.length cb, .slice (some ⟨g, 0, none⟩) n c8, .int .i64 hd] hRB
                      have hb9 := Bel.setRow (B := N + 3) (i := 0) [.int .i64 knd, .int .i64 rd, .int .i64 wt, .int .i64 V, .slice A5 fs.length c5, .slice Ab bs.length cb, .slice (some ⟨g, 0, none⟩) n c8, .int .i64 hd] hbB (by omega)
                      have hlv := loadVar_at (P := Tryz.prog) 31 hR9 _ Tryz.underlying31 rfl hi8
                      generalize setRow _ (N + 3) 0 [.int .i64 knd, .int .i64 rd, .int .i64 wt, .int .i64 V, .slice A5 fs.length c5, .slice Ab bs.length cb, .slice (some ⟨g, 0, none⟩) n c8, .int .i64 hd] = W10 at *
                      simp only [Act.put, Act.eval, List.setIfInBounds_toArray, List.set_cons_succ, List.set_cons_zero]
                      go_wp2
                      subst hA0
                      exact bodyPost_ret (v := .tuple #[.agg #[.int .i64 knd, .int .i64 rd, .int .i64 wt, .int .i64 V, .slice A5 fs.length c5, .slice Ab bs.length cb, .slice (some ⟨g, 0, none⟩) n c8, .int .i64 hd], .bool true]) (by simp [results, Tryz.results9, hlv, asAddr]) rfl ⟨_, _, _, _, rfl, hE9, hCP, fun X hX h1 h2 => HOFA.out X (by omega) (fun _ => ⟨h1, h2⟩), hb9⟩
                  · skip
                    have hdd : W6.drew.cell? ⟨g, i * 12 + 9, none⟩ = some (.int .i64 du) := hrow6.cell 9 rfl
                    refine eff_made_s rfl (by simp [go_sem, hdd]; exact ⟨rfl, rfl⟩) ?_ ?_
                    · exact hY6.drew
                    clear hdd
                    try simp only [List.nil_append, List.cons_append, Act.put, List.setIfInBounds_toArray, List.set_cons_succ, List.set_cons_zero]
                    with_reducible refine st_sel [18] (by kernel_rfl) (by kernel_rfl) ?_
                    simp only [picked, List.getElem?_cons_succ, List.getElem?_cons_zero, Option.toList_some, List.nil_append, List.cons_append, List.append_nil]
                    repeat (go_big_quiet_step (fail))
                    with_reducible refine wpQuiet_nil ?_
                    try simp only [List.nil_append, List.cons_append, Act.put, List.setIfInBounds_toArray, List.set_cons_succ, List.set_cons_zero]
                    refine st_branch [8] (by kernel_rfl) (branch_cons (by simp only [List.getElem?_toArray, List.getElem?_cons_succ, List.getElem?_cons_zero]; rfl) ?_ branch_nil)
                    refine eff_made_s rfl (exec_load_off (W := W6.drew) 44 _ rfl rfl (fun j v h => hc9 j v h) _ Tryz.underlying44 rfl (by kernel_rfl)) ?_ ?_
                    · exact hY6.drew
                    try simp only [List.nil_append, List.cons_append, Act.put, List.setIfInBounds_toArray, List.set_cons_succ, List.set_cons_zero]
                    refine st_branch [11] (by kernel_rfl) (branch_cons (by simp only [List.getElem?_toArray, List.getElem?_cons_succ, List.getElem?_cons_zero]; rfl) ?_ branch_nil)
                    refine eff_call_s 34 rfl (by simp [go_sem]; rfl) hY6.drew ?_
                    refine (hJC.out _ bI).mono ?_; rintro e w9 ⟨A7, c7, rfl, hZb, hb9⟩
                    have hb9' : Bel W6 w9 := bI
                    refine ⟨_, rfl, hY6.bel hb9', ?_⟩
                    try simp only [List.nil_append, List.cons_append, Act.put, List.setIfInBounds_toArray, List.set_cons_succ, List.set_cons_zero]
                    with_reducible refine st_sel [19, 20] (by kernel_rfl) (by kernel_rfl) ?_
                    simp only [picked, List.getElem?_cons_succ, List.getElem?_cons_zero, Option.toList_some, List.nil_append, List.cons_append, List.append_nil]
                    repeat (go_big_quiet_step (fail))
                    with_reducible refine wpQuiet_nil ?_
                    try simp only [List.nil_append, List.cons_append, Act.put, List.setIfInBounds_toArray, List.set_cons_succ, List.set_cons_zero]
                    refine st_branch [21] (by kernel_rfl) (branch_cons (by simp only [List.getElem?_toArray, List.getElem?_cons_succ, List.getElem?_cons_zero]; rfl) ?_ branch_nil)
                    have hown9 := own_keep hown6 hb9'
                    have hrow9 := hrow6.bel hb9' hgl6
                    have gf := fun j => hown9.frozenAt (g := g) j
                    have hc7 : ∀ j v, ([.int .i64 j1, .int .i64 t2, .int .i64 k2, .int .i64 s2, .int .i64 n2, .string d2, .bool f2, .slice a2 ms2.length c2, .int .i64 m2] : List Value)[j]? = some v → w9.cell? ⟨g, i * 12 + j, none⟩ = some v := fun j v h => hrow9.all j v (by
                      have hj := (List.getElem?_eq_some_iff.1 h).1
                      show ([.int .i64 j1, .int .i64 t2, .int .i64 k2, .int .i64 s2, .int .i64 n2, .string d2, .bool f2, .slice a2 ms2.length c2, .int .i64 m2] ++ [.int .i64 du, .int .i64 st, .int .i64 tr] : List Value)[j]? = some v
                      rw [List.getElem?_append_left hj]; exact h)
                    have one9 : ∀ u ∈ ([.int .i64 J.id, .int .i64 J.ten, .int .i64 J.knd, .int .i64 J.sec, .int .i64 J.cnt, .string J.dat, .bool J.fua, .slice A7 J.ms.length c7, .int .i64 J.tim] : List Value), u.oneCell' = true := fun u hu => by
                      simp only [List.mem_cons, List.not_mem_nil, or_false] at hu
                      rcases hu with rfl | rfl | rfl | rfl | rfl | rfl | rfl | rfl | rfl <;> rfl
                    with_reducible refine eff_done_s (w' := setRow w9 g (i * 12) [.int .i64 J.id, .int .i64 J.ten, .int .i64 J.knd, .int .i64 J.sec, .int .i64 J.cnt, .string J.dat, .bool J.fua, .slice A7 J.ms.length c7, .int .i64 J.tim]) ?_ ?_ ?_ ?_
                    · rfl
                    · exact exec_store_off (vs := [.int .i64 J.id, .int .i64 J.ten, .int .i64 J.knd, .int .i64 J.sec, .int .i64 J.cnt, .string J.dat, .bool J.fua, .slice A7 J.ms.length c7, .int .i64 J.tim]) 44 _ _ rfl rfl rfl hc7 (fun j => gf (i * 12 + j)) rfl one9 (by kernel_rfl)
                    · exact (hY6.bel hb9').setRow_other (B := g) (i := i * 12) [.int .i64 J.id, .int .i64 J.ten, .int .i64 J.knd, .int .i64 J.sec, .int .i64 J.cnt, .string J.dat, .bool J.fua, .slice A7 J.ms.length c7, .int .i64 J.tim] hgY
                    have hO8 := own_setRow [.int .i64 J.id, .int .i64 J.ten, .int .i64 J.knd, .int .i64 J.sec, .int .i64 J.cnt, .string J.dat, .bool J.fua, .slice A7 J.ms.length c7, .int .i64 J.tim] (i := i * 12) hown9
                    generalize hW8 : setRow w9 g (i * 12) [.int .i64 J.id, .int .i64 J.ten, .int .i64 J.knd, .int .i64 J.sec, .int .i64 J.cnt, .string J.dat, .bool J.fua, .slice A7 J.ms.length c7, .int .i64 J.tim] = W8
                    rw [hW8] at hO8
                    have h89 : (setL (qmc L) (i * 12) [.int .i64 J.id, .int .i64 J.ten, .int .i64 J.knd, .int .i64 J.sec, .int .i64 J.cnt, .string J.dat, .bool J.fua, .slice A7 J.ms.length c7, .int .i64 J.tim])[i * 12 + 9]? = some (.int .i64 du) := by
                      rw [setL_getElem? [.int .i64 J.id, .int .i64 J.ten, .int .i64 J.knd, .int .i64 J.sec, .int .i64 J.cnt, .string J.dat, .bool J.fua, .slice A7 J.ms.length c7, .int .i64 J.tim] (qmc L) (i * 12) (i * 12 + 9) (Or.inr (Nat.le_refl _))]
                      exact flat_at (l := L.map QM.q) (f := Qd.cells) Qd.cells_len (by rw [List.getElem?_map, HXI.out]; rfl) (j := 9) rfl
                    have c89 := hO8.cells (g := g) rfl _ _ h89
                    rw [add_zero_off] at c89
                    have f89 := hO8.frozenAt (g := g) (i * 12 + 9)
                    have g89 := (hO8.lt g rfl).2
                    clear h89
                    try simp only [List.nil_append, List.cons_append, Act.put, List.setIfInBounds_toArray, List.set_cons_succ, List.set_cons_zero]
                    refine st_end (by kernel_rfl) ?_
                    simp only [List.drop_succ_cons, List.drop_zero, List.drop_nil]
                    go_upto_region 14 with fail
                    have hmin : (if D < du then D else du) = min du D := by rw [Int.min_def]; split <;> split <;> omega
                    rw [hmin]
                    have hw9 : W8.setCell ⟨g, i * 12 + 9, none⟩ (.int .i64 (min du D)) = setRow w9 g (i * 12) [.int .i64 J.id, .int .i64 J.ten, .int .i64 J.knd, .int .i64 J.sec, .int .i64 J.cnt, .string J.dat, .bool J.fua, .slice A7 J.ms.length c7, .int .i64 J.tim, .int .i64 (min du D)] := by rw [← hW8]; rfl
                    generalize W8.setCell ⟨g, i * 12 + 9, none⟩ (.int .i64 (min du D)) = WA at *
                    obtain ⟨yq, Hyq⟩ : ∃ y : QM, Hid (y = ⟨⟨Bu.at J A7 c7, min du D, st, tr⟩, J.ms⟩) := ⟨_, rfl⟩
                    have hs9 := hb9'.size
                    have hZb2 := hZb.2
                    simp only [World.size_drew] at hZb2
                    have hownA : WA.ownsRow (N + 4) 67 12 (.slice (some ⟨g, 0, none⟩) n c8) n (qmc (L.set i yq)) := by
                      rw [hw9]
                      have h := own_setRow [.int .i64 J.id, .int .i64 J.ten, .int .i64 J.knd, .int .i64 J.sec, .int .i64 J.cnt, .string J.dat, .bool J.fua, .slice A7 J.ms.length c7, .int .i64 J.tim, .int .i64 (min du D)] (i := i * 12) hown9
                      rw [setL_ten (y := yq) HXI.out (by rw [Hyq.out]; rfl) rfl] at h
                      exact h
                    have hbA : Bel w WA := by rw [hw9]; exact Bel.setRow (B := g) (i := i * 12) _ (hbw6.trans hb9') (by omega)
                    have hEA : AtF WA (N + 1) [.int .i64 knd, .int .i64 rd, .int .i64 wt, .int .i64 V, .slice Af fs.length cf, .slice Ab bs.length cb, .slice Ae n ce, .int .i64 hd] := by rw [hw9]; exact (hE6.bel hb9').setRow_other (B := g) (i := i * 12) _ (by omega)
                    have hZA : AtF WA (N + 3) [.int .i64 0, .int .i64 0, .int .i64 0, .int .i64 0, .slice none 0 0, .slice none 0 0, .slice none 0 0, .int .i64 0] := by rw [hw9]; exact (hZ6.bel hb9').setRow_other (B := g) (i := i * 12) _ (by omega)
                    have hFA : AtF WA FB [.int .i64 V, .slice A5 fs.length c5] := by rw [hw9]; exact (hF6.bel hb9').setRow_other (B := g) (i := i * 12) _ (by omega)
                    have hoA : WA.ownsRow w7.heap.size 101 2 (.slice A5 fs.length c5) fs.length (fcells G1) := by rw [hw9]; exact setRow_own (B := g) (i := i * 12) _ (own_keep ho6 hb9') (fun e => by have := (ho6.lt g e).1; omega)
                    have hmy : Mems WA yq.q.b yq.ms := by
                      rw [hw9, Hyq.out]
                      exact Mems.offRow (fun h0 e => by have := hZb2 g e; omega) _ hZb.1
                    have hRA : ElR WA (.slice A5 fs.length c5) (.slice Ab bs.length cb) (.slice (some ⟨g, 0, none⟩) n c8) G1 bs (L.set i yq) := by
                      refine ⟨by rw [hSL]; exact Rd.own hoA, HRR.out.b.bel hbA, ⟨by rw [List.length_set, Hn.out]; exact Rd.own hownA, fun z hz => ?_⟩, fun k hk => ?_, .inr ⟨g, 0, c8, by rw [List.length_set, Hn.out]⟩⟩
                      · rcases List.mem_or_eq_of_mem_set hz with hz | hz
                        · exact (HRR.out.q.mem z hz).bel hbA
                        · rw [hz]; exact hmy
                      · rcases hk with hk | hk | hk
                        · exact (hoA.lt k hk).2
                        · exact Nat.lt_of_lt_of_le (HRR.out.lt k (.inr (.inl hk))) hbA.size
                        · exact (hownA.lt k hk).2
                    have HOFA : Hid (∀ X, X < N + 4 → (X < N → Off X (.slice Af fs.length cf) (.slice Ab bs.length cb) (.slice Ae n ce) L ∧ Ofm X ⟨⟨i1, t1, k1, s1, n1, d1, f1, a1, ms1.length, c1, m1⟩, ms1⟩) → Off X (.slice A5 fs.length c5) (.slice Ab bs.length cb) (.slice (some ⟨g, 0, none⟩) n c8) (L.set i yq)) := by
                      intro X hX hXN
                      have ho : Off X (.slice Af fs.length cf) (.slice Ab bs.length cb) (.slice Ae n ce) L := by
                        by_cases h : X < N
                        · exact (hXN h).1
                        · exact HOF0.out X (by omega)
                      refine ⟨fun e => by have := (hoA.lt X e).1; omega, ho.b, fun e => by have := (hownA.lt X e).1; omega, fun z hz h0 e => ?_⟩
                      rcases List.mem_or_eq_of_mem_set hz with hz | hz
                      · exact ho.m z hz h0 e
                      · rw [hz, Hyq.out] at e
                        have := hZb2 X e
                        omega
                    have hCP : (L.set i yq).map QM.qu = P.set i ⟨joinU (QM.qu ⟨⟨⟨j1, t2, k2, s2, n2, d2, f2, a2, ms2.length, c2, m2⟩, du, st, tr⟩, ms2⟩).u u how, min du D, st, tr⟩ := by
                      rw [List.map_set, HP.out, Hyq.out, ← HU.out]
                      show P.set i ⟨J, min du D, st, tr⟩ = _
                      rw [← HJ.out]; rfl
                    clear hO8 c89 f89 g89 hW8 hZb hZb2 hb9 hb9' gf hc7 hrow9 hown9 hw9 one9 hmin hmy hownA
                    have e3 := hEA.1.2 3 _ rfl
                    have e4 := hEA.1.2 4 _ rfl
                    have e6 := hEA.1.2 6 _ rfl
                    have el := hEA.1.1
                    have ef := hEA.2
                    have x0 := hFA.1.2 0 _ rfl
                    have x1 := hFA.1.2 1 _ rfl
                    have xl := hFA.1.1
                    have hEB := ((hEA.set 3 (by simp) (.int .i64 V)).set 4 (by simp) (.slice A5 fs.length c5)).set 6 (by simp) (.slice (some ⟨g, 0, none⟩) n c8)
                    simp only [List.set_cons_succ, List.set_cons_zero] at hEB
                    have hZB := ((hZA.other (C := N + 1) (by omega) 3 (.int .i64 V)).other (C := N + 1) (by omega) 4 (.slice A5 fs.length c5)).other (C := N + 1) (by omega) 6 (.slice (some ⟨g, 0, none⟩) n c8)
                    have hof1 := HOFA.out (N + 1) (by omega) (fun h => absurd h (by omega))
                    have hof3 := HOFA.out (N + 3) (by omega) (fun h => absurd h (by omega))
                    have hRB := ((hRA.off (p := ⟨N + 1, 3, none⟩) hof1 (.int .i64 V)).off (p := ⟨N + 1, 4, none⟩) hof1 (.slice A5 fs.length c5)).off (p := ⟨N + 1, 6, none⟩) hof1 (.slice (some ⟨g, 0, none⟩) n c8)
                    have hbB := ((hbA.setNew (p := ⟨N + 1, 3, none⟩) (by show w.heap.size ≤ N + 1; omega) (.int .i64 V)).setNew (p := ⟨N + 1, 4, none⟩) (by show w.heap.size ≤ N + 1; omega) (.slice A5 fs.length c5)).setNew (p := ⟨N + 1, 6, none⟩) (by show w.heap.size ≤ N + 1; omega) (.slice (some ⟨g, 0, none⟩) n c8)
                    clear hEA hZA hRA hbA hFA
                    go_upto_region 15 with fail
                    clear e3 e4 e6 el ef x0 x1 xl
                    generalize World.setCell _ ⟨N + 1, 6, none⟩ _ = WB at *
                    go_upto_region 15 with fail
                    have hi8 : (Tryz.prog.info? 31).map (·.size) = some 8 := by kernel_rfl
                    have one8 : ∀ u ∈ ([.int .i64 knd, .int .i64 rd, .int .i64 wt, .int .i64 V, .slice A5 fs.length c5, .slice Ab bs.length cb, .slice (some ⟨g, 0, none⟩) n c8, .int .i64 hd] : List Value), u.oneCell' = true := fun u hu => by
                      simp only [List.mem_cons, List.not_mem_nil, or_false] at hu
                      rcases hu with rfl | rfl | rfl | rfl | rfl | rfl | rfl | rfl <;> rfl
                    refine wp_region_lit ?_
                    refine wpList_load_at rfl 31 _ rfl rfl hEB _ Tryz.underlying31 rfl hi8 ?_
                    refine wpList_store_at rfl 31 _ _ rfl rfl rfl hZB rfl one8 hi8 ?_
                    have hR9 := (hZB).setRow [.int .i64 knd, .int .i64 rd, .int .i64 wt, .int .i64 V, .slice A5 fs.length c5, .slice Ab bs.length cb, .slice (some ⟨g, 0, none⟩) n c8, .int .i64 hd] rfl
                    have hE9 := ElR.offRow (i := 0) hof3 [.int .i64 knd, .int .i64 rd, .int .i64 wt, .int .i64 V, .slice A5 fs.length c5, .slice Ab bs.length cb, .slice (some ⟨g, 0, none⟩) n c8, .int .i64 hd] hRB
                    have hb9 := Bel.setRow (B := N + 3) (i := 0) [.int .i64 knd, .int .i64 rd, .int .i64 wt, .int .i64 V, .slice A5 fs.length c5, .slice Ab bs.length cb, .slice (some ⟨g, 0, none⟩) n c8, .int .i64 hd] hbB (by omega)
                    have hlv := loadVar_at (P := Tryz.prog) 31 hR9 _ Tryz.underlying31 rfl hi8
                    generalize setRow _ (N + 3) 0 [.int .i64 knd, .int .i64 rd, .int .i64 wt, .int .i64 V, .slice A5 fs.length c5, .slice Ab bs.length cb, .slice (some ⟨g, 0, none⟩) n c8, .int .i64 hd] = W10 at *
                    simp only [Act.put, Act.eval, List.setIfInBounds_toArray, List.set_cons_succ, List.set_cons_zero]
                    go_wp2
                    subst hA0
                    exact bodyPost_ret (v := .tuple #[.agg #[.int .i64 knd, .int .i64 rd, .int .i64 wt, .int .i64 V, .slice A5 fs.length c5, .slice Ab bs.length cb, .slice (some ⟨g, 0, none⟩) n c8, .int .i64 hd], .bool true]) (by simp [results, Tryz.results9, hlv, asAddr]) rfl ⟨_, _, _, _, rfl, hE9, hCP, fun X hX h1 h2 => HOFA.out X (by omega) (fun _ => ⟨h1, h2⟩), hb9⟩
          · obtain rfl : i = n := by omega
            have jk : decide ((i : Int) < (i : Int)) = false := by simp
            have HPN := Lib.hid (partP_none (M := M) (B := B) (knd := knd) (b := u) (P := P) (fun j hj => HG2.out j (by rw [HLP.out] at hj; exact hj)))
            have hs5 := hbr.size
            have e0 := (hE5).1.2 0 _ rfl
            have e1 := (hE5).1.2 1 _ rfl
            have e2 := (hE5).1.2 2 _ rfl
            have e3 := (hE5).1.2 3 _ rfl
            have e4 := (hE5).1.2 4 _ rfl
            have e5 := (hE5).1.2 5 _ rfl
            have e6 := (hE5).1.2 6 _ rfl
            have e7 := (hE5).1.2 7 _ rfl
            have el := hE5.1.1
            have y0 := (hY5).1.2 0 _ rfl
            have y1 := (hY5).1.2 1 _ rfl
            have y2 := (hY5).1.2 2 _ rfl
            have y3 := (hY5).1.2 3 _ rfl
            have y4 := (hY5).1.2 4 _ rfl
            have y5 := (hY5).1.2 5 _ rfl
            have y6 := (hY5).1.2 6 _ rfl
            have y7 := (hY5).1.2 7 _ rfl
            have y8 := (hY5).1.2 8 _ rfl
            have yl := hY5.1.1
            go_wp2_with fail
            refine (HS.out _ hbw5).mono ?_; rintro e w8 ⟨v8, rfl, ho8, hb8⟩
            clear e0 e1 e2 e3 e4 e5 e6 e7 el y0 y1 y2 y3 y4 y5 y6 y7 y8 yl
            obtain ⟨A5, c5, rfl⟩ := own_slice ho8
            have hSL : S.1.length = fs.length := by rw [← HSS.out]; exact advB_len2 V fs t1 n1 _
            obtain ⟨S1, S2, S3⟩ := S
            simp only at hSL ho8
            have hFB : Bel w8 (w8.alloc (.cells [.int .i64 V, .slice A5 fs.length c5].toArray 27)) := bI
            have hF6 := AtF.new_at (w := w8) rfl 27 [.int .i64 V, .slice A5 fs.length c5]
            have hb78 := hb8.trans hFB
            have ho6 := own_keep ho8 hFB
            have hE6 := hE5.bel hb78
            have hY6 := hY5.bel hb78
            have hZ6 := hZ5.bel hb78
            have hbw6 := hbw5.trans hb78
            have hown6 := own_keep hown5 hb78
            have hs6 := hb78.size
            have hs7' : N + 4 ≤ W5.heap.size := by omega
            have hnFB : W5.heap.size ≤ w8.heap.size := hb8.size
            have hrb := fun k (hk : (Value.slice g8 i c8).ownBlock = some k) => (hown5.lt k hk).2
            simp only [List.toArray] at hF6 hE6 hY6 hZ6 hbw6 hown6 hs6 ho6
            clear hFB hb78 hb8 ho8 hE5 hY5 hZ5 hbw5 hown5 hL5
            have hgg : stampB V fs u.ten u.cnt = (S1, S2, S3) := by rw [HUT.out.1, HUT.out.2]; exact HSS.out
            cases S3
            · have hA0 : a = (⟨knd, rd, wt, V, fs, bs, P, hd⟩, false) := by
                rw [← HA.out, addE_none ⟨by rw [← HU.out]; exact hOK, by rw [HUT.out.1]; exact hT.1, by rw [HUT.out.1]; exact hT.2⟩ HPN.out hgg]
                rfl
              go_upto_region 18 with fail
              have hi8 : (Tryz.prog.info? 31).map (·.size) = some 8 := by kernel_rfl
              have one8 : ∀ u ∈ ([.int .i64 knd, .int .i64 rd, .int .i64 wt, .int .i64 V, .slice Af fs.length cf, .slice Ab bs.length cb, .slice Ae i ce, .int .i64 hd] : List Value), u.oneCell' = true := fun u hu => by
                simp only [List.mem_cons, List.not_mem_nil, or_false] at hu
                rcases hu with rfl | rfl | rfl | rfl | rfl | rfl | rfl | rfl <;> rfl
              refine wp_region_lit ?_
              refine wpList_load_at rfl 31 _ rfl rfl hE6 _ Tryz.underlying31 rfl hi8 ?_
              refine wpList_store_at rfl 31 _ _ rfl rfl rfl hZ6 rfl one8 hi8 ?_
              have hR9 := (hZ6).setRow [.int .i64 knd, .int .i64 rd, .int .i64 wt, .int .i64 V, .slice Af fs.length cf, .slice Ab bs.length cb, .slice Ae i ce, .int .i64 hd] rfl
              have hE9 := ElR.offRow (i := 0) (HOF0.out (N + 3) (by omega)) [.int .i64 knd, .int .i64 rd, .int .i64 wt, .int .i64 V, .slice Af fs.length cf, .slice Ab bs.length cb, .slice Ae i ce, .int .i64 hd] (HRR.out.bel hbw6)
              have hb9 := Bel.setRow (B := N + 3) (i := 0) [.int .i64 knd, .int .i64 rd, .int .i64 wt, .int .i64 V, .slice Af fs.length cf, .slice Ab bs.length cb, .slice Ae i ce, .int .i64 hd] hbw6 (by omega)
              have hlv := loadVar_at (P := Tryz.prog) 31 hR9 _ Tryz.underlying31 rfl hi8
              generalize setRow _ (N + 3) 0 [.int .i64 knd, .int .i64 rd, .int .i64 wt, .int .i64 V, .slice Af fs.length cf, .slice Ab bs.length cb, .slice Ae i ce, .int .i64 hd] = W10 at *
              simp only [Act.put, Act.eval, List.setIfInBounds_toArray, List.set_cons_succ, List.set_cons_zero]
              go_wp2
              subst hA0
              exact bodyPost_ret (v := .tuple #[.agg #[.int .i64 knd, .int .i64 rd, .int .i64 wt, .int .i64 V, .slice Af fs.length cf, .slice Ab bs.length cb, .slice Ae i ce, .int .i64 hd], .bool false]) (by simp [results, Tryz.results9, hlv, asAddr]) rfl ⟨_, _, _, _, rfl, hE9, HP.out, fun X hX h1 h2 => h1, hb9⟩
            · have hA0 : a = (⟨knd, rd, wt, V, S1, bs, P ++ [⟨u, D, S2, 0⟩], hd⟩, true) := by
                rw [← HA.out, addE_none ⟨by rw [← HU.out]; exact hOK, by rw [HUT.out.1]; exact hT.1, by rw [HUT.out.1]; exact hT.2⟩ HPN.out hgg, ← HDD.out, ← HU.out]
                rfl
              go_upto_region 19 with fail
              generalize w8.alloc _ = W6 at *
              generalize w8.heap.size = FB at *
              have HGX := Lib.hid hgg
              clear hgg
              obtain ⟨i0, hi0, hz0, hz1, hz2⟩ := info_parts Tryz.infoQue
              let RBS : World → Prop := fun W' => AtF W' (N + 2) [.int .i64 i1, .int .i64 t1, .int .i64 k1, .int .i64 s1, .int .i64 n1, .string d1, .bool f1, .slice a1 ms1.length c1, .int .i64 m1] ∧ AtF W' FB [.int .i64 V, .slice A5 fs.length c5]
              have hrs : RBS W6.drew := ⟨hY6.drew, hF6.drew⟩
              haveI nnS : Nonempty (InS RBS) := ⟨⟨W6.drew, hrs⟩⟩
              refine wp_region_sts RBS [6, 7] 9 (by kernel_rfl) (by kernel_rfl) ?hS0 ?_
              case hS0 => exact hrs
              with_reducible refine st_sel [0, 1, 2, 3, 4, 5, 8] (by kernel_rfl) (by kernel_rfl) ?_
              simp only [picked, List.getElem?_cons_succ, List.getElem?_cons_zero, Option.toList_some, List.nil_append, List.cons_append, List.append_nil]
              refine wpQuiet_load_s rfl 27 _ rfl rfl (fun w' h => h.2) _ Tryz.underlying27 rfl (by kernel_rfl) ?_
              try simp only [Act.put, List.setIfInBounds_toArray, List.set_cons_succ, List.set_cons_zero]
              go_big_quiet_step (fail)
              refine wpQuiet_load_s rfl 44 _ rfl rfl (fun w' h => h.1) _ Tryz.underlying44 rfl (by kernel_rfl) ?_
              try simp only [Act.put, List.setIfInBounds_toArray, List.set_cons_succ, List.set_cons_zero]
              go_big_quiet_step (fail)
              go_big_quiet_step (fail)
              refine wpQuiet_pure rfl (.agg #[.int .i64 i1, .int .i64 t1, .int .i64 k1, .int .i64 s1, .int .i64 n1, .string d1, .bool f1, .slice a1 ms1.length c1, .int .i64 m1, .int .i64 D, .int .i64 S2, .int .i64 0]) (by intro w; kernel_rfl) ?_
              try simp only [Act.put, List.setIfInBounds_toArray, List.set_cons_succ, List.set_cons_zero]
              go_big_quiet_step (fail)
              with_reducible refine wpQuiet_nil ?_
              try simp only [List.nil_append, List.cons_append, Act.put, List.setIfInBounds_toArray, List.set_cons_succ, List.set_cons_zero]
              refine st_branch [6] (by kernel_rfl) (branch_cons (by simp only [List.getElem?_toArray, List.getElem?_cons_succ, List.getElem?_cons_zero]; rfl) ?_ branch_nil)
              have hfa : RBS (W6.drew.alloc (.cells #[.int .i64 i1, .int .i64 t1, .int .i64 k1, .int .i64 s1, .int .i64 n1, .string d1, .bool f1, .slice a1 ms1.length c1, .int .i64 m1, .int .i64 D, .int .i64 S2, .int .i64 0] 67)) := ⟨hrs.1.alloc _, hrs.2.alloc _⟩
              refine eff_made_s rfl (by simp [go_sem]; exact rfl) hfa ?_
              try simp only [List.nil_append, List.cons_append, Act.put, List.setIfInBounds_toArray, List.set_cons_succ, List.set_cons_zero]
              refine st_branch [7] (by kernel_rfl) (branch_cons (by simp only [List.getElem?_toArray, List.getElem?_cons_succ, List.getElem?_cons_zero]; rfl) ?_ branch_nil)
              have hownA : (W6.drew.alloc (.cells #[.int .i64 i1, .int .i64 t1, .int .i64 k1, .int .i64 s1, .int .i64 n1, .string d1, .bool f1, .slice a1 ms1.length c1, .int .i64 m1, .int .i64 D, .int .i64 S2, .int .i64 0] 67)).ownsRow (N + 4) 67 12 (.slice g8 i c8) i (qmc L) := (own_keep hown6 ((Bel.refl W6).drew)).alloc _
              refine eff_append_own_r rfl _ _ 29 rfl (N + 4) 67 i0 _ 12 120 Tryz.underlying29 hi0 hz0 hz1 hz2 rfl (by omega) (.slice g8 i c8) i (qmc L) rfl hownA ⟨W6.heap.size, 0, none⟩ 1 1 [.int .i64 i1, .int .i64 t1, .int .i64 k1, .int .i64 s1, .int .i64 n1, .string d1, .bool f1, .slice a1 ms1.length c1, .int .i64 m1, .int .i64 D, .int .i64 S2, .int .i64 0] rfl rfl (World.news_of_block (cs := #[.int .i64 i1, .int .i64 t1, .int .i64 k1, .int .i64 s1, .int .i64 n1, .string d1, .bool f1, .slice a1 ms1.length c1, .int .i64 m1, .int .i64 D, .int .i64 S2, .int .i64 0]) (t := 67) (fr := (0, 0)) (heap_new_at (by simp))) (qcell_one ⟨⟨i1, t1, k1, s1, n1, d1, f1, a1, ms1.length, c1, m1⟩, D, S2, 0⟩) (by unfold maxLen; omega) (by omega) (by simp; omega) ?_
              intro v9 w9 hown9 hg9 hloc9
              have hnb : ∀ X, W5.heap.size ≤ X → some X ≠ (Value.slice g8 i c8).ownBlock := fun X hX e => by have := hrb X e.symm; omega
              have hnl : ∀ X, X < N + 4 → some X ≠ (Value.slice g8 i c8).ownBlock := fun X hX e => by have := (hown6.lt X e.symm).1; omega
              have hj9 : RBS w9 := ⟨hfa.1.grown hg9 (hnl _ (by omega)), hfa.2.grown hg9 (hnb _ (by omega))⟩
              refine ⟨hj9, ?_⟩
              try simp only [List.nil_append, List.cons_append, Act.put, List.setIfInBounds_toArray, List.set_cons_succ, List.set_cons_zero]
              refine st_end (by kernel_rfl) ?_
              simp only [List.drop_succ_cons, List.drop_zero, List.drop_nil]
              obtain ⟨gn, cn, hvn, _, _⟩ := hown9.form (by omega)
              subst hvn
              have hda : Bel W6 (W6.drew.alloc (.cells #[.int .i64 i1, .int .i64 t1, .int .i64 k1, .int .i64 s1, .int .i64 n1, .string d1, .bool f1, .slice a1 ms1.length c1, .int .i64 m1, .int .i64 D, .int .i64 S2, .int .i64 0] 67)) := bI
              have hbA : Bel w w9 := bel_own (hbw6.trans hda) hownA hg9 (by omega)
              have hEA := (hE6.bel hda).grown hg9 (hnl _ (by omega))
              have hZA := (hZ6.bel hda).grown hg9 (hnl _ (by omega))
              have hFA := hj9.2
              have hoA := own_grown (own_keep ho6 hda) hg9 (fun k hk e => by have h1 := (ho6.lt k hk).1; have h2 := hrb k e; omega)
              have hRA : ElR w9 (.slice A5 fs.length c5) (.slice Ab bs.length cb) (.slice (some ⟨gn, 0, none⟩) (i + 1) cn) S1 bs (L ++ [⟨⟨⟨i1, t1, k1, s1, n1, d1, f1, a1, ms1.length, c1, m1⟩, D, S2, 0⟩, ms1⟩]) := by
                refine ⟨by rw [hSL]; exact Rd.own hoA, HRR.out.b.bel hbA, ⟨?_, fun z hz => ?_⟩, fun k hk => ?_, .inr ⟨gn, 0, cn, by rw [List.length_append, Hn.out]; rfl⟩⟩
                · have h := Rd.own hown9
                  have e : (L ++ [(⟨⟨⟨i1, t1, k1, s1, n1, d1, f1, a1, ms1.length, c1, m1⟩, D, S2, 0⟩, ms1⟩ : QM)]).length = i + 1 := by rw [List.length_append, Hn.out]; rfl
                  have e2 : qmc (L ++ [(⟨⟨⟨i1, t1, k1, s1, n1, d1, f1, a1, ms1.length, c1, m1⟩, D, S2, 0⟩, ms1⟩ : QM)]) = qmc L ++ [.int .i64 i1, .int .i64 t1, .int .i64 k1, .int .i64 s1, .int .i64 n1, .string d1, .bool f1, .slice a1 ms1.length c1, .int .i64 m1, .int .i64 D, .int .i64 S2, .int .i64 0] := by
                    unfold qmc
                    rw [List.map_append, qcells_app]; rfl
                  rw [e, e2]; exact h
                · rw [List.mem_append, List.mem_singleton] at hz
                  rcases hz with hz | rfl
                  · exact (HRR.out.q.mem z hz).bel hbA
                  · exact HYM.out _ hbA
                · rcases hk with hk | hk | hk
                  · exact (hoA.lt k hk).2
                  · exact Nat.lt_of_lt_of_le (HRR.out.lt k (.inr (.inl hk))) hbA.size
                  · exact (hown9.lt k hk).2
              have HOFA : Hid (∀ X, X < N + 4 → (X < N → Off X (.slice Af fs.length cf) (.slice Ab bs.length cb) (.slice Ae i ce) L ∧ Ofm X ⟨⟨i1, t1, k1, s1, n1, d1, f1, a1, ms1.length, c1, m1⟩, ms1⟩) → Off X (.slice A5 fs.length c5) (.slice Ab bs.length cb) (.slice (some ⟨gn, 0, none⟩) (i + 1) cn) (L ++ [⟨⟨⟨i1, t1, k1, s1, n1, d1, f1, a1, ms1.length, c1, m1⟩, D, S2, 0⟩, ms1⟩])) := by
                intro X hX hXN
                have ho : Off X (.slice Af fs.length cf) (.slice Ab bs.length cb) (.slice Ae i ce) L := by
                  by_cases h : X < N
                  · exact (hXN h).1
                  · exact HOF0.out X (by omega)
                refine ⟨fun e => by have := (hoA.lt X e).1; omega, ho.b, fun e => by have := (hown9.lt X e).1; omega, fun z hz h0 e => ?_⟩
                rw [List.mem_append, List.mem_singleton] at hz
                rcases hz with hz | rfl
                · exact ho.m z hz h0 e
                · by_cases h : X < N
                  · exact (hXN h).2 h0 e
                  · have := HY.out.rd.own_lt h0 e
                    have := HN.out
                    omega
              have hCP : (L ++ [(⟨⟨⟨i1, t1, k1, s1, n1, d1, f1, a1, ms1.length, c1, m1⟩, D, S2, 0⟩, ms1⟩ : QM)]).map QM.qu = P ++ [⟨u, D, S2, 0⟩] := by
                rw [List.map_append, HP.out, ← HU.out]; rfl
              clear hown9 hg9 hloc9 hfa hrs hownA hown6 hj9 hoA hda hnb hnl
              have e3 := hEA.1.2 3 _ rfl
              have e4 := hEA.1.2 4 _ rfl
              have e6 := hEA.1.2 6 _ rfl
              have el := hEA.1.1
              have ef := hEA.2
              have x0 := hFA.1.2 0 _ rfl
              have x1 := hFA.1.2 1 _ rfl
              have xl := hFA.1.1
              have hEB := ((hEA.set 3 (by simp) (.int .i64 V)).set 4 (by simp) (.slice A5 fs.length c5)).set 6 (by simp) (.slice (some ⟨gn, 0, none⟩) (i + 1) cn)
              simp only [List.set_cons_succ, List.set_cons_zero] at hEB
              have hZB := ((hZA.other (C := N + 1) (by omega) 3 (.int .i64 V)).other (C := N + 1) (by omega) 4 (.slice A5 fs.length c5)).other (C := N + 1) (by omega) 6 (.slice (some ⟨gn, 0, none⟩) (i + 1) cn)
              have hof1 := HOFA.out (N + 1) (by omega) (fun h => absurd h (by omega))
              have hof3 := HOFA.out (N + 3) (by omega) (fun h => absurd h (by omega))
              have hRB := ((hRA.off (p := ⟨N + 1, 3, none⟩) hof1 (.int .i64 V)).off (p := ⟨N + 1, 4, none⟩) hof1 (.slice A5 fs.length c5)).off (p := ⟨N + 1, 6, none⟩) hof1 (.slice (some ⟨gn, 0, none⟩) (i + 1) cn)
              have hbB := ((hbA.setNew (p := ⟨N + 1, 3, none⟩) (by show w.heap.size ≤ N + 1; omega) (.int .i64 V)).setNew (p := ⟨N + 1, 4, none⟩) (by show w.heap.size ≤ N + 1; omega) (.slice A5 fs.length c5)).setNew (p := ⟨N + 1, 6, none⟩) (by show w.heap.size ≤ N + 1; omega) (.slice (some ⟨gn, 0, none⟩) (i + 1) cn)
              clear hEA hZA hRA hbA hFA
              go_upto_region 20 with fail
              clear e3 e4 e6 el ef x0 x1 xl
              generalize World.setCell _ ⟨N + 1, 6, none⟩ _ = WB at *
              go_upto_region 20 with fail
              have hi8 : (Tryz.prog.info? 31).map (·.size) = some 8 := by kernel_rfl
              have one8 : ∀ u ∈ ([.int .i64 knd, .int .i64 rd, .int .i64 wt, .int .i64 V, .slice A5 fs.length c5, .slice Ab bs.length cb, .slice (some ⟨gn, 0, none⟩) (i + 1) cn, .int .i64 hd] : List Value), u.oneCell' = true := fun u hu => by
                simp only [List.mem_cons, List.not_mem_nil, or_false] at hu
                rcases hu with rfl | rfl | rfl | rfl | rfl | rfl | rfl | rfl <;> rfl
              refine wp_region_lit ?_
              refine wpList_load_at rfl 31 _ rfl rfl hEB _ Tryz.underlying31 rfl hi8 ?_
              refine wpList_store_at rfl 31 _ _ rfl rfl rfl hZB rfl one8 hi8 ?_
              have hR9 := (hZB).setRow [.int .i64 knd, .int .i64 rd, .int .i64 wt, .int .i64 V, .slice A5 fs.length c5, .slice Ab bs.length cb, .slice (some ⟨gn, 0, none⟩) (i + 1) cn, .int .i64 hd] rfl
              have hE9 := ElR.offRow (i := 0) hof3 [.int .i64 knd, .int .i64 rd, .int .i64 wt, .int .i64 V, .slice A5 fs.length c5, .slice Ab bs.length cb, .slice (some ⟨gn, 0, none⟩) (i + 1) cn, .int .i64 hd] hRB
              have hb9 := Bel.setRow (B := N + 3) (i := 0) [.int .i64 knd, .int .i64 rd, .int .i64 wt, .int .i64 V, .slice A5 fs.length c5, .slice Ab bs.length cb, .slice (some ⟨gn, 0, none⟩) (i + 1) cn, .int .i64 hd] hbB (by omega)
              have hlv := loadVar_at (P := Tryz.prog) 31 hR9 _ Tryz.underlying31 rfl hi8
              generalize setRow _ (N + 3) 0 [.int .i64 knd, .int .i64 rd, .int .i64 wt, .int .i64 V, .slice A5 fs.length c5, .slice Ab bs.length cb, .slice (some ⟨gn, 0, none⟩) (i + 1) cn, .int .i64 hd] = W10 at *
              simp only [Act.put, Act.eval, List.setIfInBounds_toArray, List.set_cons_succ, List.set_cons_zero]
              go_wp2
              subst hA0
              exact bodyPost_ret (v := .tuple #[.agg #[.int .i64 knd, .int .i64 rd, .int .i64 wt, .int .i64 V, .slice A5 fs.length c5, .slice Ab bs.length cb, .slice (some ⟨gn, 0, none⟩) (i + 1) cn, .int .i64 hd], .bool true]) (by simp [results, Tryz.results9, hlv, asAddr]) rfl ⟨_, _, _, _, rfl, hE9, hCP, fun X hX h1 h2 => HOFA.out X (by omega) (fun _ => ⟨h1, h2⟩), hb9⟩
    · have hA0 : a = (⟨knd, rd, wt, V, fs, bs, L.map QM.qu, hd⟩, false) := by rw [← HA.out, addE, if_neg (fun h => hT h.2)]
      by_cases ht0 : t1 < 0
      · skip
        go_upto_region 2 with fail
        have hi8 : (Tryz.prog.info? 31).map (·.size) = some 8 := by kernel_rfl
        have one8 : ∀ u ∈ ([.int .i64 knd, .int .i64 rd, .int .i64 wt, .int .i64 V, .slice Af fs.length cf, .slice Ab bs.length cb, .slice Ae n ce, .int .i64 hd] : List Value), u.oneCell' = true := fun u hu => by
          simp only [List.mem_cons, List.not_mem_nil, or_false] at hu
          rcases hu with rfl | rfl | rfl | rfl | rfl | rfl | rfl | rfl <;> rfl
        refine wp_region_lit ?_
        refine wpList_load_at rfl 31 _ rfl rfl hE2 _ Tryz.underlying31 rfl hi8 ?_
        refine wpList_store_at rfl 31 _ _ rfl rfl rfl hZ2 rfl one8 hi8 ?_
        have hR9 := (hZ2).setRow [.int .i64 knd, .int .i64 rd, .int .i64 wt, .int .i64 V, .slice Af fs.length cf, .slice Ab bs.length cb, .slice Ae n ce, .int .i64 hd] rfl
        have hE9 := ElR.offRow (i := 0) (HOF0.out (N + 3) (by omega)) [.int .i64 knd, .int .i64 rd, .int .i64 wt, .int .i64 V, .slice Af fs.length cf, .slice Ab bs.length cb, .slice Ae n ce, .int .i64 hd] (HRR.out.bel hbw2)
        have hb9 := Bel.setRow (B := N + 3) (i := 0) [.int .i64 knd, .int .i64 rd, .int .i64 wt, .int .i64 V, .slice Af fs.length cf, .slice Ab bs.length cb, .slice Ae n ce, .int .i64 hd] hbw2 (by omega)
        have hlv := loadVar_at (P := Tryz.prog) 31 hR9 _ Tryz.underlying31 rfl hi8
        generalize setRow _ (N + 3) 0 [.int .i64 knd, .int .i64 rd, .int .i64 wt, .int .i64 V, .slice Af fs.length cf, .slice Ab bs.length cb, .slice Ae n ce, .int .i64 hd] = W10 at *
        simp only [Act.put, Act.eval, List.setIfInBounds_toArray, List.set_cons_succ, List.set_cons_zero]
        go_wp2
        subst hA0
        exact bodyPost_ret (v := .tuple #[.agg #[.int .i64 knd, .int .i64 rd, .int .i64 wt, .int .i64 V, .slice Af fs.length cf, .slice Ab bs.length cb, .slice Ae n ce, .int .i64 hd], .bool false]) (by simp [results, Tryz.results9, hlv, asAddr]) rfl ⟨_, _, _, _, rfl, hE9, rfl, fun X hX h1 h2 => h1, hb9⟩
      · have ht4 : t1 ≥ 4 := by omega
        go_upto_region 2 with fail
        have hi8 : (Tryz.prog.info? 31).map (·.size) = some 8 := by kernel_rfl
        have one8 : ∀ u ∈ ([.int .i64 knd, .int .i64 rd, .int .i64 wt, .int .i64 V, .slice Af fs.length cf, .slice Ab bs.length cb, .slice Ae n ce, .int .i64 hd] : List Value), u.oneCell' = true := fun u hu => by
          simp only [List.mem_cons, List.not_mem_nil, or_false] at hu
          rcases hu with rfl | rfl | rfl | rfl | rfl | rfl | rfl | rfl <;> rfl
        refine wp_region_lit ?_
        refine wpList_load_at rfl 31 _ rfl rfl hE2 _ Tryz.underlying31 rfl hi8 ?_
        refine wpList_store_at rfl 31 _ _ rfl rfl rfl hZ2 rfl one8 hi8 ?_
        have hR9 := (hZ2).setRow [.int .i64 knd, .int .i64 rd, .int .i64 wt, .int .i64 V, .slice Af fs.length cf, .slice Ab bs.length cb, .slice Ae n ce, .int .i64 hd] rfl
        have hE9 := ElR.offRow (i := 0) (HOF0.out (N + 3) (by omega)) [.int .i64 knd, .int .i64 rd, .int .i64 wt, .int .i64 V, .slice Af fs.length cf, .slice Ab bs.length cb, .slice Ae n ce, .int .i64 hd] (HRR.out.bel hbw2)
        have hb9 := Bel.setRow (B := N + 3) (i := 0) [.int .i64 knd, .int .i64 rd, .int .i64 wt, .int .i64 V, .slice Af fs.length cf, .slice Ab bs.length cb, .slice Ae n ce, .int .i64 hd] hbw2 (by omega)
        have hlv := loadVar_at (P := Tryz.prog) 31 hR9 _ Tryz.underlying31 rfl hi8
        generalize setRow _ (N + 3) 0 [.int .i64 knd, .int .i64 rd, .int .i64 wt, .int .i64 V, .slice Af fs.length cf, .slice Ab bs.length cb, .slice Ae n ce, .int .i64 hd] = W10 at *
        simp only [Act.put, Act.eval, List.setIfInBounds_toArray, List.set_cons_succ, List.set_cons_zero]
        go_wp2
        subst hA0
        exact bodyPost_ret (v := .tuple #[.agg #[.int .i64 knd, .int .i64 rd, .int .i64 wt, .int .i64 V, .slice Af fs.length cf, .slice Ab bs.length cb, .slice Ae n ce, .int .i64 hd], .bool false]) (by simp [results, Tryz.results9, hlv, asAddr]) rfl ⟨_, _, _, _, rfl, hE9, rfl, fun X hX h1 h2 => h1, hb9⟩
end Go.Proofs.YtpgjbocjhconoaaGreat
