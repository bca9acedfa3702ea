/- Sending bunches to an image: plain laws. -/
import Derived.Test.YtbijfmpmgmfpgaaPlL
namespace Go.Proofs.Ytbijfmpmgmfpgaa
open Go.RowKit Go.Maps
set_option linter.unusedSimpArgs false

/-! ### bytes of a function -/
def sl (f : Nat → UInt8) (a n : Nat) : ByteArray := ⟨((List.range' a n).map f).toArray⟩
def byt (d : ByteArray) (j : Nat) : UInt8 := d.data[j]?.getD 0
theorem sl_size (f : Nat → UInt8) (a n : Nat) : (sl f a n).size = n := by
  show ((List.range' a n).map f).toArray.size = n
  simp
theorem sl_congr {f g : Nat → UInt8} {a n : Nat} (h : ∀ j, a ≤ j → j < a + n → f j = g j) : sl f a n = sl g a n := by
  unfold sl
  congr 2
  refine List.map_congr_left fun j hj => ?_
  rw [List.mem_range'_1] at hj
  exact h j hj.1 hj.2
theorem sl_app (f : Nat → UInt8) (a n m : Nat) : sl f a n ++ sl f (a + n) m = sl f a (n + m) := by
  apply ByteArray.ext
  simp only [ByteArray.data_append, sl]
  rw [List.append_toArray, ← List.map_append]
  congr 2
  have := List.range'_append (s := a) (m := n) (n := m) (step := 1)
  rwa [Nat.one_mul] at this
theorem sl_cut (f : Nat → UInt8) (a n : Nat) {i j : Nat} (hij : i ≤ j) (hj : j ≤ n) : (sl f a n).extract i j = sl f (a + i) (j - i) := by
  have e1 : sl f a n = sl f a i ++ (sl f (a + i) (j - i) ++ sl f (a + i + (j - i)) (n - j)) := by
    rw [sl_app, sl_app]
    congr 1; omega
  have s1 : (sl f a i).size = i := sl_size _ _ _
  have s2 : (sl f (a + i) (j - i)).size = j - i := sl_size _ _ _
  have h3 := extract_right (a := sl f a i) (b := sl f (a + i) (j - i) ++ sl f (a + i + (j - i)) (n - j)) (i := 0) (j := j - i)
  rw [s1, Nat.add_zero, show i + (j - i) = j by omega] at h3
  rw [e1, h3, extract_left (by omega)]
  have h4 : ∀ d : ByteArray, d.extract 0 d.size = d := fun d => by
    apply ByteArray.ext
    simp
  have h5 := h4 (sl f (a + i) (j - i))
  rw [s2] at h5
  exact h5
theorem sl_dat (d : ByteArray) (a : Nat) : d = sl (fun j => byt d (j - a)) a d.size := by
  apply ByteArray.ext
  apply Array.ext
  · show d.size = _
    exact (sl_size _ _ _).symm
  · intro i h1 h2
    simp only [sl, List.getElem_toArray, List.getElem_map, List.getElem_range', Nat.one_mul, Nat.add_sub_cancel_left, byt]
    rw [Array.getElem?_eq_getElem h1]
    rfl
def wr (f : Nat → UInt8) (a : Nat) (d : ByteArray) : Nat → UInt8 := fun j => if a ≤ j ∧ j < a + d.size then byt d (j - a) else f j
theorem sl_wr (f : Nat → UInt8) (a N : Nat) (d : ByteArray) (h : a + d.size ≤ N) : (sl f 0 N).extract 0 a ++ d ++ (sl f 0 N).extract (a + d.size) N = sl (wr f a d) 0 N := by
  rw [sl_cut _ _ _ (by omega) (by omega), sl_cut _ _ _ h (Nat.le_refl _)]
  have e1 : sl f (0 + 0) (a - 0) = sl (wr f a d) 0 a := by
    rw [Nat.sub_zero]
    exact sl_congr fun j h1 h2 => by unfold wr; rw [if_neg (by omega)]
  have e2 : d = sl (wr f a d) (0 + a) d.size := by
    conv => lhs; rw [sl_dat d (0 + a)]
    refine sl_congr fun j h1 h2 => ?_
    unfold wr
    rw [if_pos (by omega), Nat.zero_add]
  have e3 : sl f (0 + (a + d.size)) (N - (a + d.size)) = sl (wr f a d) (0 + (a + d.size)) (N - (a + d.size)) :=
    sl_congr fun j h1 h2 => by unfold wr; rw [if_neg (by omega)]
  rw [e1, e3]
  conv => lhs; arg 1; arg 2; rw [e2]
  rw [sl_app, show 0 + (a + d.size) = 0 + (a + d.size) from rfl, sl_app]
  congr 1; omega

/-! ### what a bunch does -/
def slotM (m : Mem) : Nat := (rnd m.id 32).toNat
def rd1 (f : Nat → UInt8) (s : Int) (o : Nat → ByteArray) (m : Mem) : Nat → ByteArray := fun k => if k = slotM m then sl f ((s + m.off).toNat * 8) (m.cnt.toNat * 8) else o k
abbrev SA := (Nat → UInt8) × (Nat → ByteArray)
def stepA (s : SA) (u : Bu) : SA := if u.knd = 2 then (wr s.1 (u.sec.toNat * 8) u.dat, s.2) else (s.1, u.ms.foldl (rd1 s.1 u.sec) s.2)
def runA (s : SA) (l : List Bu) : SA := l.foldl stepA s
theorem runA_app (s : SA) (l k : List Bu) : runA s (l ++ k) = runA (runA s l) k := List.foldl_append
theorem runA_cons (s : SA) (u : Bu) (l : List Bu) : runA s (u :: l) = runA (stepA s u) l := rfl

/-- What may change places. -/
def Swp (u v : Bu) : Prop := ∀ s, stepA (stepA s u) v = stepA (stepA s v) u
theorem rd_comm {f : Nat → UInt8} {s t : Int} {m : Mem} : ∀ (l : List Mem) (o : Nat → ByteArray), (∀ e ∈ l, slotM e ≠ slotM m) → l.foldl (rd1 f s) (rd1 f t o m) = rd1 f t (l.foldl (rd1 f s) o) m
  | [], _, _ => rfl
  | e :: l, o, h => by
    have he : rd1 f s (rd1 f t o m) e = rd1 f t (rd1 f s o e) m := by
      have hn := h e (by simp)
      funext k
      unfold rd1
      by_cases h1 : k = slotM e
      · rw [if_pos h1, if_neg (fun h2 => hn (by omega)), if_pos h1]
      · rw [if_neg h1, if_neg h1]
    rw [List.foldl_cons, List.foldl_cons, he]
    exact rd_comm l _ fun x hx => h x (by simp [hx])
theorem rds_comm {f : Nat → UInt8} {s t : Int} {l : List Mem} : ∀ (k : List Mem) (o : Nat → ByteArray), (∀ m ∈ k, ∀ e ∈ l, slotM e ≠ slotM m) → l.foldl (rd1 f s) (k.foldl (rd1 f t) o) = k.foldl (rd1 f t) (l.foldl (rd1 f s) o)
  | [], _, _ => rfl
  | m :: k, o, h => by
    rw [List.foldl_cons, List.foldl_cons, rds_comm k _ fun x hx => h x (by simp [hx]), rd_comm l o (h m (by simp))]
theorem rds_congr {f g : Nat → UInt8} {s : Int} : ∀ (l : List Mem) (o : Nat → ByteArray), (∀ m ∈ l, ∀ j, (s + m.off).toNat * 8 ≤ j → j < (s + m.off).toNat * 8 + m.cnt.toNat * 8 → f j = g j) → l.foldl (rd1 f s) o = l.foldl (rd1 g s) o
  | [], _, _ => rfl
  | m :: l, o, h => by
    have : rd1 f s o m = rd1 g s o m := by
      funext k
      unfold rd1
      rw [sl_congr (h m (by simp))]
    rw [List.foldl_cons, List.foldl_cons, this]
    exact rds_congr l _ fun x hx => h x (by simp [hx])
theorem okU_knd {u : Bu} (h : okU u = true) : u.knd = 1 ∨ (u.knd = 2 ∧ (u.dat.size : Int) = u.cnt * 8) := by
  rcases dataOk_size (okU_parts.1 h).2.1 with ⟨h1, _⟩ | h1
  · exact .inl h1
  · exact .inr h1
theorem conf_apart {u v : Bu} (hu : okU u = true) (hv : okU v = true) (hc : confU u v = false) (hk : u.knd = 2 ∨ v.knd = 2) : u.sec + u.cnt ≤ v.sec ∨ v.sec + v.cnt ≤ u.sec := by
  unfold confU confB at hc
  have e1 : u.bm.ok = true := hu
  have e2 : v.bm.ok = true := hv
  rw [e1, e2, Bool.true_and, Bool.true_and] at hc
  unfold meetB at hc
  rw [decide_eq_false_iff_not] at hc
  have hc' : ¬ ((u.knd = 2 ∨ v.knd = 2) ∧ u.sec < v.sec + v.cnt ∧ v.sec < u.sec + u.cnt) := hc
  by_cases h1 : u.sec < v.sec + v.cnt
  · by_cases h2 : v.sec < u.sec + u.cnt
    · exact absurd ⟨hk, h1, h2⟩ hc'
    · omega
  · omega
theorem wr_read {s : SA} {u v : Bu} (hu : okU u = true) (hv : okU v = true) (hk : u.knd = 2) (hk2 : v.knd ≠ 2) (ha : u.sec + u.cnt ≤ v.sec ∨ v.sec + v.cnt ≤ u.sec) : stepA (stepA s u) v = stepA (stepA s v) u := by
  have r1 := okU_range hu
  have r2 := okU_range hv
  have hz : (u.dat.size : Int) = u.cnt * 8 := by
    rcases okU_knd hu with h | h
    · omega
    · exact h.2
  unfold stepA
  rw [if_pos hk, if_neg hk2, if_neg hk2, if_pos hk]
  refine Prod.ext rfl ?_
  refine rds_congr _ _ fun m hm j h1 h2 => ?_
  have hb := okU_mem hv hm
  show wr s.1 (u.sec.toNat * 8) u.dat j = s.1 j
  unfold wr
  rw [if_neg]
  omega
theorem swp_of {u v : Bu} (hu : okU u = true) (hv : okU v = true) (hc : confU u v = false) (hs : ∀ e ∈ u.ms, ∀ f ∈ v.ms, slotM e ≠ slotM f) : Swp u v := fun s => by
  have r1 := okU_range hu
  have r2 := okU_range hv
  rcases okU_knd hu with k1 | ⟨k1, z1⟩ <;> rcases okU_knd hv with k2 | ⟨k2, z2⟩
  · unfold stepA
    rw [if_neg (by omega), if_neg (by omega), if_neg (by omega), if_neg (by omega)]
    exact Prod.ext rfl (rds_comm _ _ fun m hm e he => (hs m hm e he).symm)
  · exact (wr_read hv hu k2 (by omega) ((conf_apart hu hv hc (.inr k2)).symm)).symm
  · exact wr_read hu hv k1 (by omega) (conf_apart hu hv hc (.inl k1))
  · have ha := conf_apart hu hv hc (.inl k1)
    unfold stepA
    rw [if_pos k1, if_pos k2, if_pos k2, if_pos k1]
    refine Prod.ext ?_ rfl
    funext j
    show wr (wr s.1 _ u.dat) _ v.dat j = wr (wr s.1 _ v.dat) _ u.dat j
    unfold wr
    by_cases h1 : v.sec.toNat * 8 ≤ j ∧ j < v.sec.toNat * 8 + v.dat.size
    · rw [if_pos h1, if_neg (by omega), if_pos h1]
    · rw [if_neg h1, if_neg h1]
theorem Swp.symm {u v : Bu} (h : Swp u v) : Swp v u := fun s => (h s).symm
theorem run_left {b : Bu} : ∀ (P : List Bu) (s : SA), (∀ x ∈ P, Swp x b) → runA s (P ++ [b]) = runA s (b :: P)
  | [], _, _ => rfl
  | x :: P, s, h => by
    rw [List.cons_append, runA_cons, run_left P _ fun y hy => h y (by simp [hy]), runA_cons, runA_cons, runA_cons, h x (by simp)]
/-- A join does what its two do. -/
theorem step_pair {M B : Int} {u v x y : Bu} (hj : JoinS M B u v x y) (s : SA) : stepA s (pairU u v x y) = stepA (stepA s x) y := by
  have r1 := okU_range hj.okx
  have r2 := okU_range hj.oky
  have hk : x.knd = u.knd ∧ y.knd = u.knd := by
    rcases hj.or with ⟨rfl, rfl⟩ | ⟨rfl, rfl⟩
    · exact ⟨rfl, hj.knd.symm⟩
    · exact ⟨hj.knd.symm, rfl⟩
  have hsd := hj.side
  rcases okU_knd hj.okx with k1 | ⟨k1, z1⟩
  · unfold stepA
    rw [if_neg (show ¬ (pairU u v x y).knd = 2 from by show ¬ u.knd = 2; omega), if_neg (by omega), if_neg (by omega)]
    refine Prod.ext rfl ?_
    show (x.ms ++ shift x.cnt y.ms).foldl (rd1 s.1 x.sec) s.2 = _
    rw [List.foldl_append]
    unfold shift
    rw [List.foldl_map]
    show List.foldl _ (List.foldl (rd1 s.1 x.sec) s.2 x.ms) y.ms = List.foldl (rd1 s.1 y.sec) (List.foldl (rd1 s.1 x.sec) s.2 x.ms) y.ms
    congr 1
    funext o m k
    unfold rd1
    show (if k = slotM m then sl s.1 ((x.sec + (m.off + x.cnt)).toNat * 8) (m.cnt.toNat * 8) else o k) = _
    rw [show x.sec + (m.off + x.cnt) = y.sec + m.off by omega]
  · have k2 : y.knd = 2 := by omega
    have z2 : (y.dat.size : Int) = y.cnt * 8 := by
      rcases okU_knd hj.oky with h | h
      · omega
      · exact h.2
    unfold stepA
    rw [if_pos (show (pairU u v x y).knd = 2 from by show u.knd = 2; omega), if_pos k1, if_pos k2]
    refine Prod.ext ?_ rfl
    funext j
    show wr s.1 (x.sec.toNat * 8) (x.dat ++ y.dat) j = wr (wr s.1 (x.sec.toNat * 8) x.dat) (y.sec.toNat * 8) y.dat j
    have hsz : (x.dat ++ y.dat).size = x.dat.size + y.dat.size := ByteArray.size_append
    unfold wr
    by_cases h1 : y.sec.toNat * 8 ≤ j ∧ j < y.sec.toNat * 8 + y.dat.size
    · rw [if_pos (by omega), if_pos h1]
      unfold byt
      rw [ByteArray.data_append, Array.getElem?_append_right (by have : x.dat.data.size = x.dat.size := rfl; omega)]
      congr 2
      have : x.dat.data.size = x.dat.size := rfl
      omega
    · rw [if_neg h1]
      by_cases h2 : x.sec.toNat * 8 ≤ j ∧ j < x.sec.toNat * 8 + x.dat.size
      · rw [if_pos (by omega), if_pos h2]
        unfold byt
        rw [ByteArray.data_append, Array.getElem?_append_left (by have : x.dat.data.size = x.dat.size := rfl; omega)]
      · rw [if_neg (by omega), if_neg h2]
theorem slot_ne {e f : Mem} (h : e.id ≠ f.id) (h1 : 0 ≤ e.id ∧ e.id < 32) (h2 : 0 ≤ f.id ∧ f.id < 32) : slotM e ≠ slotM f := by
  unfold slotM rnd
  intro he
  omega
/-- Adding one more does what sending it last does. -/
theorem add_run {M B : Int} {Q : List Bu} {m : Nat} {P : List Bu} {b : Bu} (hs : PlS M B Q m P) (hd : DkB m b) (hm : m < 16) (hl : limOk M B = true) (s : SA) : runA s (addP M B P b).1 = runA s (P ++ [b]) := by
  rcases addP_cases (P := P) hd.ok hl (by have := hs.len; omega) with ⟨i, a, x, y, ha, hj, hc, he⟩ | he
  · rw [he]
    have hi := (List.getElem?_eq_some_iff.1 ha).1
    have hP : P = P.take i ++ a :: P.drop (i + 1) := by
      rw [← (List.getElem?_eq_some_iff.1 ha).2, ← List.drop_eq_getElem_cons, List.take_append_drop]
    have hset : P.set i (pairU a b x y) = P.take i ++ pairU a b x y :: P.drop (i + 1) := by
      rw [List.set_eq_take_append_cons_drop, if_pos hi]
    show runA s (P.set i (pairU a b x y)) = _
    rw [hset]
    conv => rhs; rw [hP]
    rw [List.append_assoc, runA_app, runA_app, List.cons_append, runA_cons, runA_cons, run_left, runA_cons]
    · congr 1
      rw [step_pair hj]
      rcases hj.or with ⟨rfl, rfl⟩ | ⟨rfl, rfl⟩
      · rfl
      · have ho := (hs.each _ (List.mem_of_getElem? ha))
        refine (swp_of hd.ok ho.ok ?_ ?_ _)
        · rw [confU_symm]
          rw [List.any_eq_false] at hc
          have : canU M B y x ≠ 0 := by
            intro h0
            have := hj.eq
            rw [h0] at this
            unfold joinU at this
            rw [if_pos (.inl rfl)] at this
            have hcz : (0 : Int) = x.cnt + y.cnt := congrArg Bu.cnt this
            have := okU_range hj.okx
            have := okU_range hj.oky
            omega
          exact canU_apart this
        · intro e he f hf
          have h1 := ho.lo f hf
          have h2 := hd.id he
          refine slot_ne ?_ ?_ ?_ <;> omega
    · intro z hz
      have hzP := List.mem_of_mem_drop hz
      have ho := hs.each z hzP
      rw [List.any_eq_false] at hc
      refine swp_of ho.ok hd.ok (by simpa using hc z hz) fun e he f hf => ?_
      have h1 := ho.lo e he
      have h2 := hd.id hf
      refine slot_ne ?_ ?_ ?_ <;> omega
  · rw [he]
theorem plug_run {M B : Int} {Q : List Bu} (hq : DkQ Q) (hl : limOk M B = true) (s : SA) : ∀ m ≤ Q.length, runA s (plugP M B Q m) = runA s (Q.take m)
  | 0, _ => by simp [plugP]
  | m + 1, h => by
    have h8 := hq.1
    have hb : Q[m]? = some (Q[m]'(by omega)) := List.getElem?_eq_getElem (by omega)
    rw [plugP_succ hb, add_run (plugP_ok hq hl m (by omega)) (hq.2 m _ hb) (by omega) hl, runA_app, plug_run hq hl s m (by omega), List.take_add_one, hb]
    rw [runA_app]
    rfl

/-! ### the order -/
def unT (n : Nat) (T : List Bool) : List Nat := (List.range n).filter (offB T)
def atP (P : List Bu) (i : Nat) : Bu := P.getD i zeroU
theorem atP_some {P : List Bu} {i : Nat} {x : Bu} (h : P[i]? = some x) : atP P i = x := by
  unfold atP
  rw [List.getD_eq_getElem?_getD, h]; rfl
theorem unT_cut {n b : Nat} {T : List Bool} (hb : b < n) (hT : T[b]? = some false) :
    unT n T = (List.range b).filter (offB T) ++ b :: (List.range' (b + 1) (n - (b + 1))).filter (offB T) ∧ unT n (T.set b true) = (List.range b).filter (offB T) ++ (List.range' (b + 1) (n - (b + 1))).filter (offB T) := by
  have hr : List.range n = List.range b ++ b :: List.range' (b + 1) (n - (b + 1)) := by
    rw [List.range_eq_range', List.range_eq_range', ← List.range'_succ]
    have := List.range'_append (s := 0) (m := b) (n := n - (b + 1) + 1) (step := 1)
    rw [Nat.one_mul, Nat.zero_add] at this
    rw [this]
    congr 1; omega
  have hsame : ∀ i, i ≠ b → offB (T.set b true) i = offB T i := fun i hi => by
    unfold offB
    rw [List.getElem?_set_ne (Ne.symm hi)]
  have hbl : b < T.length := (List.getElem?_eq_some_iff.1 hT).1
  have h1 : offB (T.set b true) b = false := by
    unfold offB
    rw [List.getElem?_set_self hbl]
  unfold unT
  rw [hr, List.filter_append, List.filter_append, List.filter_cons_of_pos (offB_iff.2 hT), List.filter_cons_of_neg (by rw [h1]; simp)]
  refine ⟨rfl, ?_⟩
  congr 1
  · refine List.filter_congr fun i hi => hsame i ?_
    have := List.mem_range.1 hi
    omega
  · refine List.filter_congr fun i hi => hsame i ?_
    rw [List.mem_range'_1] at hi
    omega
theorem ord_run {P : List Bu} (hsw : ∀ (i j : Nat) (x y : Bu), i < j → P[i]? = some x → P[j]? = some y → confU x y = false → Swp x y) (s : SA) : ∀ r ≤ P.length, runA s (((ordR P r).2 ++ unT P.length (ordR P r).1).map (atP P)) = runA s P
  | 0, _ => by
    have h1 : unT P.length (List.replicate P.length false) = List.range P.length := by
      unfold unT
      rw [List.filter_eq_self]
      intro i hi
      rw [offB_iff, List.getElem?_replicate, if_pos (List.mem_range.1 hi)]
    show runA s (([] ++ unT P.length (List.replicate P.length false)).map (atP P)) = _
    rw [h1, List.nil_append]
    congr 1
    apply List.ext_getElem?
    intro i
    rw [List.getElem?_map]
    by_cases hi : i < P.length
    · rw [List.getElem?_range hi, List.getElem?_eq_getElem hi]
      exact congrArg some (atP_some (List.getElem?_eq_getElem hi))
    · rw [List.getElem?_eq_none (by simpa using hi), List.getElem?_eq_none (by omega)]
      rfl
  | r + 1, h => by
    obtain ⟨b, h1, h2, h3, h4⟩ := ordR_succ (P := P) (r := r) (by omega)
    obtain ⟨-, hf, -⟩ := pickO_some h1
    rw [← ord_run hsw s r (by omega), h4]
    obtain ⟨c1, c2⟩ := unT_cut h2 h3
    generalize (ordR P r).1 = T at *
    generalize (ordR P r).2 = o at *
    simp only
    rw [c1, c2]
    simp only [List.map_append, List.map_cons, List.map_nil, runA_app, runA_cons]
    congr 1
    have hb : P[b]? = some (P[b]'h2) := List.getElem?_eq_getElem h2
    have := run_left (b := atP P b) (((List.range b).filter (offB T)).map (atP P)) (runA s (o.map (atP P))) (fun x hx => by
      rw [List.mem_map] at hx
      obtain ⟨i, hi, rfl⟩ := hx
      rw [List.mem_filter, List.mem_range] at hi
      have hiP : i < P.length := by omega
      have hi2 : P[i]? = some (P[i]'hiP) := List.getElem?_eq_getElem hiP
      rw [atP_some hi2, atP_some hb]
      refine hsw i b _ _ hi.1 hi2 hb ?_
      unfold freeP at hf
      rw [Bool.and_eq_true] at hf
      have hw : waitsP P T b = false := by simpa using hf.2
      unfold waitsP at hw
      rw [List.any_eq_false] at hw
      have := hw i (List.mem_range.2 hi.1)
      unfold wAt at this
      rw [offB_iff.1 hi.2, hi2, hb] at this
      simpa using this)
    rw [runA_app, runA_cons] at this
    exact this.symm
theorem unT_full {n : Nat} {T : List Bool} (hl : T.length = n) (hc : T.count true = n) : unT n T = [] := by
  unfold unT
  rw [List.filter_eq_nil_iff]
  intro i hi
  rw [offB_iff]
  intro h
  have := List.count_eq_length.1 (show T.count true = T.length by omega) false (List.mem_of_getElem? h)
  cases this
theorem drain_run {P : List Bu} (hsw : ∀ (i j : Nat) (x y : Bu), i < j → P[i]? = some x → P[j]? = some y → confU x y = false → Swp x y) (s : SA) : runA s (drainP P) = runA s P := by
  rw [← ord_run hsw s P.length (Nat.le_refl _)]
  have ho := ordR_ok P P.length (Nat.le_refl _)
  rw [unT_full ho.len ho.cnt, List.append_nil]
  rfl
/-- Sending what the plug gives does what sending the bunches does. -/
theorem send_same {M B : Int} {Q : List Bu} (hq : DkQ Q) (hl : limOk M B = true) (s : SA) : runA s (drainP (plugP M B Q Q.length)) = runA s Q := by
  have hs := plugP_ok hq hl Q.length (Nat.le_refl _)
  have h8 := hq.1
  rw [drain_run, plug_run hq hl s Q.length (Nat.le_refl _), List.take_length]
  intro i j x y hij hx hy hc
  have h1 := hs.each x (List.mem_of_getElem? hx)
  have h2 := hs.each y (List.mem_of_getElem? hy)
  refine swp_of h1.ok h2.ok hc fun e he f hf => ?_
  have l1 := h1.lo e he
  have l2 := h2.lo f hf
  exact slot_ne (hs.disj i j x y (by omega) hx hy e he f hf) (by omega) (by omega)
end Go.Proofs.Ytbijfmpmgmfpgaa
