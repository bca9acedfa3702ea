/- The law's weightsOf; the plain law of ElevatorNews. -/
import Derived.Test.YtpgjbocjhconoaaElI
import Derived.Test.YtpgjbocjhconoaaElR
namespace Go.Proofs.Ytpgjbocjhconoaa
open Go.RowKit Go.Maps
set_option linter.unusedSimpArgs false

theorem ints_own {w : World} {base : Nat} {v : Value} {zs : List Int} (h : w.ownsRow base 3 1 v zs.length (intC zs)) (hz : ∀ z ∈ zs, IsInt z) : Ints w v zs := by
  obtain ⟨_, A, c, rfl, h1, h2, h3⟩ := Rd.own h
  refine ⟨hz, A, c, rfl, h1, h2, fun h0 => ?_⟩
  obtain ⟨b, o, hA, hb, hc⟩ := h3 h0
  refine ⟨b, o, hA, hb, fun j hj => ?_⟩
  exact hc j _ (by unfold intC; rw [List.getElem?_map, List.getElem?_eq_getElem hj]; rfl)

set_option maxRecDepth 100000 in
set_option maxHeartbeats 8000000 in
theorem weightsOf_any (knd rd wt vt hd : Int) (fl bu en : Value) (fs : List (Int × Int)) (w : World) (hf : Rd w fl 2 fs.length (fcells fs)) (hfn : fs.length ≤ 1000) (hi : ∀ p ∈ fs, IsInt p.1) :
    Calls Try.prog 14 #[.agg #[.int .i64 knd, .int .i64 rd, .int .i64 wt, .int .i64 vt, fl, bu, en, .int .i64 hd]] w fun e w' => ∃ v, e = .returned v ∧ Ints w' v (fs.map Prod.fst) ∧ Bel w w' := by
  obtain ⟨i0, hi0, hz0, hz1, hz2⟩ := info_parts Try.infoIntE
  have HF := Lib.hid hf
  have HI := Lib.hid hi
  obtain ⟨A1, c1, rfl, -, -⟩ := hf.form
  obtain ⟨n, Hn⟩ : ∃ n, Hid (fs.length = n) := ⟨_, rfl⟩
  rw [Hn.out] at HF hfn ⊢
  clear hf hi
  have hX := AtF.new_at (w := w) rfl 31 [.int .i64 knd, .int .i64 rd, .int .i64 wt, .int .i64 vt, .slice A1 n c1, bu, en, .int .i64 hd]
  have hbX : Bel w (w.alloc (.cells [.int .i64 knd, .int .i64 rd, .int .i64 wt, .int .i64 vt, .slice A1 n c1, bu, en, .int .i64 hd].toArray 31)) := (by repeat (first | (with_reducible exact Bel.refl _) | (with_reducible assumption) | (with_reducible refine Bel.drewN ?_ _) | (with_reducible refine Bel.drew ?_) | (with_reducible refine Bel.alloc ?_ _) | (with_reducible refine Bel.setNew ?_ ?_ _) | (with_reducible refine Bel.trans ?_ (by assumption)) | (focus (simp; done)) | (focus (simp; omega))))
  simp only [List.toArray] at hX hbX
  go_enter Try.func14, Try.ntmps14
  go_upto_region 1 with fail
  generalize w.alloc _ = W at *
  obtain ⟨X, HX⟩ : ∃ X, Hid (w.heap.size = X) := ⟨_, rfl⟩
  rw [HX.out] at hX ⊢
  go_wp2
  go_loopw [3, 4] (fun ov iv wr => ∃ i : Nat, iv = .int .i64 i ∧ i ≤ n ∧ wr.ownsRow (X + 1) 3 1 ov i (intC ((fs.map Prod.fst).take i)) ∧ AtF wr X [.int .i64 knd, .int .i64 rd, .int .i64 wt, .int .i64 vt, .slice A1 n c1, bu, en, .int .i64 hd] ∧ Bel w wr) (fun _ iv _ => n - (intOf iv).toNat)
  case atStart => exact ⟨0, rfl, Nat.zero_le _, ⟨rfl, Or.inl ⟨rfl, rfl⟩⟩, hX, hbX⟩
  case round =>
    clear hX hbX
    obtain ⟨i, rfl, hi, hown, hX, hbr⟩ := hrel
    obtain ⟨W6, rfl⟩ : ∃ X, X = wr := ⟨_, rfl⟩
    obtain ⟨Ao, co, rfl⟩ := own_slice hown
    have e4 := hX.1.2 4 _ rfl
    have el := hX.1.1
    by_cases hlt : i < n
    · have hin : (i : Int) < (n : Int) := by omega
      obtain ⟨⟨x, y⟩, hx⟩ : ∃ p, fs[i]? = some p := ⟨fs[i]'(by have := Hn.out; omega), List.getElem?_eq_getElem _⟩
      obtain ⟨g, o, cx, hfx, hgl, hcx⟩ := (HF.out.bel hbr).at (by omega)
      injection hfx with h1 h2 h3
      subst h1
      have p0 := hcx _ _ (fcells_at0 _ _ _ hx)
      have HTK : Hid ((fs.map Prod.fst).take (i + 1) = (fs.map Prod.fst).take i ++ [x]) := by
        show _ = _
        rw [List.take_add_one, List.getElem?_map, hx]; rfl
      clear h2 h3 hx hcx
      have hXn : some X ≠ (Value.slice Ao i co).ownBlock := fun e => by have := (hown.lt X e.symm).1; omega
      go_wp2_with (at_builtin; go_must (refine wpList_append_own_at _ rfl _ _ 24 rfl (X + 1) 3 i0 _ 1 8 Try.underlying24 hi0 hz0 hz1 hz2 rfl (by omega) (.slice Ao i co) _ _ rfl (hown.alloc _) ⟨W6.heap.size, 0, none⟩ 1 1 [.int .i64 x] rfl rfl (World.news_of_block (cs := #[.int .i64 x]) (t := 3) (fr := (0, 0)) (heap_alloc_new W6 _)) (by simp [Value.oneCell']) (by unfold maxLen; omega) (by omega) (by simp; omega) ?_); intro v' w3 hown' hg' _ hloc; obtain ⟨gn, cn, hvn, _, _⟩ := hown'.form (by omega); subst hvn)
      have hna : Bel W6 (W6.alloc (.cells #[.int .i64 x] 3)) := (by repeat (first | (with_reducible exact Bel.refl _) | (with_reducible assumption) | (with_reducible refine Bel.drewN ?_ _) | (with_reducible refine Bel.drew ?_) | (with_reducible refine Bel.alloc ?_ _) | (with_reducible refine Bel.setNew ?_ ?_ _) | (with_reducible refine Bel.trans ?_ (by assumption)) | (focus (simp; done)) | (focus (simp; omega))))
      have hX3 := (hX.bel hna).grown hg' hXn
      have hsz : w.heap.size ≤ X + 1 := by rw [HX.out]; omega
      have hb3 := bel_own (hbr.trans hna) (hown.alloc _) hg' hsz
      have how3 : w3.ownsRow (X + 1) 3 1 (.slice (some ⟨gn, 0, none⟩) (i + 1) cn) (i + 1) (intC ((fs.map Prod.fst).take (i + 1))) := by
        rw [HTK.out]
        have e1 : intC ((fs.map Prod.fst).take i ++ [x]) = intC ((fs.map Prod.fst).take i) ++ [.int .i64 x] := by simp [intC]
        rw [e1]
        exact hown'
      clear hown hX hbr hown' hg' hloc hna e4 el p0
      go_roundw
      case rel => exact ⟨i + 1, by go_num, by omega, how3, hX3, hb3⟩
      case measure => simp [intOf]; omega
    · obtain rfl : i = n := by omega
      have jk : decide ((i : Int) < (i : Int)) = false := by simp
      have hle : (fs.map Prod.fst).length = i := by rw [List.length_map, Hn.out]
      have e : (fs.map Prod.fst).take i = fs.map Prod.fst := List.take_of_length_le (by omega)
      rw [e] at hown
      have hI : Ints W6 (.slice Ao i co) (fs.map Prod.fst) := ints_own (by rw [hle]; exact hown) (fun z hz => by
        rw [List.mem_map] at hz
        obtain ⟨p, hp, rfl⟩ := hz
        exact HI.out p hp)
      have HII := Lib.hid (And.intro hI hbr)
      clear hI hle e hown
      go_wp2
      go_ret
      exact ⟨_, rfl, HII.out.1, HII.out.2⟩

theorem newF_fst (zs : List Int) : (newF zs).map Prod.fst = zs := by
  unfold newF
  rw [List.map_map]
  exact List.map_id zs
/-- What made gives comes out of New again. -/
theorem news_c (n k5 : Int) {K : Bool} (hK : kindOk k5 = K) :
    newOk (if K then k5 else 0) (if K then rnd (n / 8) 20 else 0) (if K then rnd (n / 64) 40 else 0) ((if K then newF (madeW n) else []).map Prod.fst) (if K then madeK n else []) = K := by
  cases K
  · rfl
  · simp only [if_true]
    rw [newF_fst, made_ok, hK]
theorem news_f (n : Int) (K : Bool) : (if K then newF ((if K then newF (madeW n) else []).map Prod.fst) else []) = (if K then newF (madeW n) else []) := by
  cases K
  · rfl
  · simp only [if_true]
    rw [newF_fst]
theorem news_i (n : Int) (K : Bool) : ∀ p ∈ (if K then newF (madeW n) else []), IsInt p.1 := by
  intro p hp
  cases K
  · cases hp
  · simp only [if_true] at hp
    obtain ⟨k, hk⟩ := List.getElem?_of_mem hp
    obtain ⟨x, y⟩ := p
    have := (madeF_f4 n).fl k x y hk
    unfold IsInt
    show _ ≤ x ∧ x ≤ _
    omega
theorem news_l (n : Int) (K : Bool) : (if K then newF (madeW n) else []).length ≤ 1000 ∧ (if K then madeK n else []).length ≤ 1000 := by
  cases K
  · exact ⟨by show 0 ≤ 1000; omega, by show 0 ≤ 1000; omega⟩
  · simp only [if_true]
    rw [newF_len, madeW_len, madeK_len]
    omega
end Go.Proofs.Ytpgjbocjhconoaa
