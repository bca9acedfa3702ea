/- dock.Bunches: what it gives is new. -/
import Derived.Test.YtpgjbocjhconoaaGreatK3
import Derived.Test.YtpgjbocjhconoaaGreatK10
namespace Go.Proofs.YtpgjbocjhconoaaGreat
open Go.RowKit
set_option linter.unusedSimpArgs false

/-- All members lie above base. -/
def AbvM (base : Nat) (L : List BM) : Prop := ∀ x ∈ L, ∀ k, (Value.slice x.b.mA x.b.mL x.b.mC).ownBlock = some k → base ≤ k
theorem AbvM.nil (base : Nat) : AbvM base [] := fun x hx => by cases hx
theorem AbvM.snoc {base : Nat} {L : List BM} {x : BM} (h : AbvM base L) (hx : ∀ k, (Value.slice x.b.mA x.b.mL x.b.mC).ownBlock = some k → base ≤ k) : AbvM base (L ++ [x]) := fun y hy => by
  rw [List.mem_append, List.mem_singleton] at hy
  rcases hy with hy | rfl
  · exact h y hy
  · exact hx
theorem BOwn.bn {w : World} {base : Nat} {v : Value} {L : List BM} (h : BOwn w base v L) (ha : AbvM base L) : BN w base v L where
  bo := ⟨h.own, fun x hx => (h.mem x hx).1, fun x hx _ k hk => by
    obtain ⟨k', _, h3, h4⟩ := (h.mem x hx).2
    rw [h3] at hk
    injection hk with hk
    rw [← hk]; exact h4⟩
  fr := fun j x _ hx _ k hk => ha x (List.mem_of_getElem? hx) k hk

set_option maxRecDepth 100000 in
set_option maxHeartbeats 4000000 in
theorem bunchesN_any (v : Value) (zs : List Int) (w : World) (hz : Ints w v zs) :
    Calls Tryz.prog 7 #[v] w fun e w' => ∃ u L, e = .returned u ∧ BnsOk zs (min zs.length 8) L ∧ BN w' w.heap.size u L ∧ Bel w w' := by
  obtain ⟨i0, hi0, hz0, hz1, hz2⟩ := info_parts Tryz.infoBunch
  obtain ⟨_, A, cp, rfl, hcp, hmx, hr⟩ := hz
  unfold maxLen at hmx
  obtain ⟨n, Hn⟩ : ∃ n, Hid (n = zs.length) := ⟨_, rfl⟩
  have HR : Hid (0 < n → ∃ b o, A = some ⟨b, o, none⟩ ∧ b < w.heap.size ∧ ∀ j z, zs[j]? = some z → w.cell? ⟨b, o + j, none⟩ = some (.int .i64 z)) := by
    intro h
    obtain ⟨b, o, h1, h2, h3⟩ := hr (by have := Hn.out; omega)
    exact ⟨b, o, h1, h2, fun j z hj => by obtain ⟨g1, g2⟩ := List.getElem?_eq_some_iff.1 hj; rw [h3 j g1, g2]⟩
  have HMIN := Lib.hid (show min zs.length 8 = min n 8 by rw [Hn.out])
  rw [HMIN.out]
  rw [← Hn.out] at hcp ⊢
  clear hr
  go_enter Tryz.func7, Tryz.ntmps7
  go_wp2
  go_loopw [3, 4] (fun ov iv wr => ∃ (i : Nat) (L : List BM), iv = .int .i64 i ∧ i ≤ n ∧ i ≤ 8 ∧ Hid (BnsOk zs i L) ∧ BOwn wr w.heap.size ov L ∧ Hid (AbvM w.heap.size L) ∧ Bel w wr) (fun _ iv _ => n - (intOf iv).toNat)
  case atStart => exact ⟨0, [], rfl, by omega, by omega, ⟨rfl, fun k x h => by simp at h⟩, ⟨⟨rfl, Or.inl ⟨rfl, rfl⟩⟩, fun x hx => by cases hx⟩, AbvM.nil _, bI⟩
  case round =>
    obtain ⟨i, L, rfl, p1, p2, HO, hown, HAB, hbr⟩ := hrel
    have hL := HO.out.1
    obtain ⟨Ao, co, rfl⟩ := own_slice hown.own
    by_cases hlt : i < n ∧ i < 8
    · obtain ⟨h1, h2⟩ := hlt
      have i1 : (i : Int) < (n : Int) := by omega
      have i2 : (i : Int) < 8 := by omega
      obtain ⟨b, o, rfl, hlb, hcell⟩ := HR.out (by omega)
      obtain ⟨z, hzi⟩ : ∃ z, zs[i]? = some z := ⟨zs[i]'(by have := Hn.out; omega), List.getElem?_eq_getElem _⟩
      have c0 : wr.cell? ⟨b, o + i, none⟩ = some (.int .i64 z) := by
        rw [hbr.cellAt b _ hlb]; exact hcell i z hzi
      have HZ := Lib.hid hzi
      obtain ⟨m, Hm⟩ : ∃ m, Hid (m = L.length) := ⟨_, rfl⟩
      have hm8 : m < 8 := by rw [Hm.out]; omega
      have hw := hown.own
      have HOW := Lib.hid hown
      rw [← Hm.out] at hw ⊢
      clear hcell hzi hown
      go_wp2_with fail
      refine (bunch_any2 z i _ (by omega)).mono ?_; rintro e w1 ⟨B, A1, rfl, HB, hA1, hM1, hb1⟩
      have hw1 := own_keep hw hb1
      have hbw := hbr.trans hb1
      have hws := hbw.size
      clear hw c0
      go_wp2_with (at_builtin; go_must (refine wpList_append_own_at _ rfl _ _ 38 rfl w.heap.size 44 i0 _ 9 96 Tryz.underlying38 hi0 hz0 hz1 hz2 rfl (by omega) (.slice Ao m co) _ _ rfl (hw1.alloc _) ⟨w1.heap.size, 0, none⟩ 1 1 B.cells rfl rfl (World.news_of_block (cs := #[.int .i64 (B).id, .int .i64 (B).ten, .int .i64 (B).knd, .int .i64 (B).sec, .int .i64 (B).cnt, .string (B).dat, .bool (B).fua, .slice (B).mA (B).mL (B).mC, .int .i64 (B).tim]) (t := 44) (fr := (0, 0)) (heap_alloc_new w1 _)) (bcells_one B) (by unfold maxLen; omega) (by omega) (by simp; omega) ?_); intro v' w3 hown' hg' _ hloc; obtain ⟨gn, cn, hvn, _, _⟩ := hown'.form (by omega); subst hvn)
      have hbw3 : Bel w w3 := bel_own (hbw.alloc _) (hw1.alloc _) hg' (Nat.le_refl _)
      have HO2 := Lib.hid (HO.out.snoc (A := A1) HZ.out)
      rw [← HB.out] at HO2
      have hmm := HB.out
      have hB : (Value.slice B.mA B.mL B.mC).ownBlock = some A1 := by rw [HB.out]; rfl
      have hlt3 : A1 < w1.heap.size := hM1.rd.own_lt (by rw [bnM]; split <;> simp) hB
      rw [Hm.out] at hown' hg' hloc
      have hsn := BOwn.snoc (x := ⟨B, bnM z i⟩) HOW.out hb1 hM1 hB hA1 hlt3 hown' hg' hloc
      have HSN := Lib.hid hsn
      have HAB2 := Lib.hid (HAB.out.snoc (x := ⟨B, bnM z i⟩) (fun k hk => by have e1 : A1 = k := Option.some.inj (hB.symm.trans hk); have e2 := hbr.size; have e3 := hA1; rw [← e1]; exact Nat.le_trans e2 e3))
      clear hmm hB hsn hown' hg' hloc hw1 HOW
      go_roundw
      case rel => exact ⟨i + 1, L ++ [⟨B, bnM z i⟩], by go_num, by omega, by omega, HO2, by rw [Hm.out]; exact HSN.out, HAB2, hbw3⟩
      case measure => simp [intOf]; omega
    · have HF := Lib.hid (show i = min n 8 by omega)
      have HBL := Lib.hid (hown.bn HAB.out)
      have HO2 := HO.out
      rw [HF.out] at HO2
      have HO3 := Lib.hid HO2
      clear HO2 hown hL HAB
      by_cases h1 : i < n
      · obtain rfl : i = 8 := by omega
        go_wp2
        go_ret
        exact ⟨_, L, rfl, HO3.out, HBL.out, bI⟩
      · obtain rfl : i = n := by omega
        have i1 : decide ((i : Int) < (i : Int)) = false := by simp
        go_wp2
        go_ret
        exact ⟨_, L, rfl, HO3.out, HBL.out, bI⟩

end Go.Proofs.YtpgjbocjhconoaaGreat
