/- dock.Bunches; the law's queued. -/
import Derived.Test.YtbijfmpmgmfpgaaBn
import Derived.Test.YtbijfmpmgmfpgaaQ
import Derived.Test.YtbijfmpmgmfpgaaLex
namespace Go.Proofs.Ytbijfmpmgmfpgaa
open Go.RowKit
set_option linter.unusedSimpArgs false

/-- Bunch k of a list is the one that its number chooses. -/
def BnsOk (zs : List Int) (m : Nat) (L : List BM) : Prop := L.length = m ∧ ∀ k x, L[k]? = some x → ∃ z A, zs[k]? = some z ∧ x = BM.mk (bnB z k A) (bnM z k)
theorem BnsOk.snoc {zs : List Int} {m : Nat} {L : List BM} {z : Int} {A : Nat} (h : BnsOk zs m L) (hz : zs[m]? = some z) : BnsOk zs (m + 1) (L ++ [BM.mk (bnB z m A) (bnM z m)]) := by
  refine ⟨by rw [List.length_append, h.1]; rfl, fun k x hk => ?_⟩
  by_cases e : k < L.length
  · rw [List.getElem?_append_left e] at hk
    exact h.2 k x hk
  · rw [List.getElem?_append_right (by omega)] at hk
    have hkm : k - L.length = 0 := by
      have := (List.getElem?_eq_some_iff.1 hk).1
      simp at this; omega
    rw [hkm] at hk
    simp at hk
    subst hk
    have : k = m := by rw [← h.1]; omega
    subst this
    exact ⟨z, A, hz, rfl⟩
/-- A slice of bunches of the call's own. -/
structure BOwn (w : World) (base : Nat) (v : Value) (L : List BM) : Prop where
  own : w.ownsRow base 27 9 v L.length (bmc L)
  mem : ∀ x ∈ L, Mems w x.b x.ms ∧ ∃ k, k < w.heap.size ∧ (Value.slice x.b.mA x.b.mL x.b.mC).ownBlock = some k ∧ v.ownBlock ≠ some k
theorem BOwn.bl {w : World} {base : Nat} {v : Value} {L : List BM} (h : BOwn w base v L) : BL w v L := ⟨Rd.own h.own, fun x hx => (h.mem x hx).1⟩
theorem bmc_snoc (L : List BM) (x : BM) : bmc (L ++ [x]) = bmc L ++ x.b.cells := by simp [bmc]
theorem Try.infoBunch : (Try.prog.info? 27).map (fun i => (i.zero, i.size, i.bytes)) = some (some (.agg #[.int .i64 0, .int .i64 0, .int .i64 0, .int .i64 0, .int .i64 0, .string ⟨#[]⟩, .bool false, .slice none 0 0, .int .i64 0]), 9, 96) := by kernel_rfl
theorem bcells_one (b : Bun) : ∀ u ∈ b.cells, u.oneCell' = true := fun u hu => by
  simp only [Bun.cells, List.mem_cons, List.not_mem_nil, or_false] at hu
  rcases hu with rfl | rfl | rfl | rfl | rfl | rfl | rfl | rfl | rfl <;> rfl

/-- Behind an append of one bunch. -/
theorem BOwn.snoc {w w1 w3 : World} {base : Nat} {v v' : Value} {L : List BM} {x : BM} {k : Nat} (h : BOwn w base v L) (hb : Bel w w1) (hm : Mems w1 x.b x.ms) (hx : (Value.slice x.b.mA x.b.mL x.b.mC).ownBlock = some k) (hk : w.heap.size ≤ k) (hk2 : k < w1.heap.size)
    (hown : w3.ownsRow base 27 9 v' (L.length + 1) (bmc L ++ x.b.cells)) (hg : (w1.alloc (.cells x.b.cells.toArray 27)).grownBy w3 v.ownBlock) (hl : v'.ownBlock = v.ownBlock ∨ v'.ownBlock = some (w1.alloc (.cells x.b.cells.toArray 27)).heap.size) : BOwn w3 base v' (L ++ [x]) := by
  have hvk : v.ownBlock ≠ some k := fun e => by have := h.own.lt k e; omega
  have hsz : w1.heap.size < w3.heap.size := by have := hg.size; simp at this; omega
  have hsw := hb.size
  refine ⟨by rw [List.length_append, bmc_snoc]; exact hown, fun y hy => ?_⟩
  rw [List.mem_append] at hy
  rcases hy with hy | hy
  · obtain ⟨h1, k', h2, h3, h4⟩ := h.mem y hy
    refine ⟨⟨h1.len, ((h1.rd.bel hb).alloc _).grown hg (fun b hb' => by rw [h3] at hb'; cases hb'; exact h4), h1.ids, h1.dl⟩, k', by omega, h3, ?_⟩
    rcases hl with e | e
    · rw [e]; exact h4
    · rw [e]; intro e2; simp at e2; omega
  · rw [List.mem_singleton] at hy
    subst hy
    refine ⟨⟨hm.len, (hm.rd.alloc _).grown hg (fun b hb' => by rw [hx] at hb'; cases hb'; exact hvk), hm.ids, hm.dl⟩, k, by omega, hx, ?_⟩
    rcases hl with e | e
    · rw [e]; exact hvk
    · rw [e]; intro e2; simp at e2; omega
theorem bunch_any2 (n : Int) (id : Nat) (w : World) (hi : id ≤ 1000) :
    Calls Try.prog 56 #[.int .i64 n, .int .i64 (id : Int)] w fun e w' => ∃ (B : Bun) (A : Nat), e = .returned (.agg #[.int .i64 (B).id, .int .i64 (B).ten, .int .i64 (B).knd, .int .i64 (B).sec, .int .i64 (B).cnt, .string (B).dat, .bool (B).fua, .slice (B).mA (B).mL (B).mC, .int .i64 (B).tim]) ∧ Hid (B = bnB n id A) ∧ w.heap.size ≤ A ∧ Mems w' B (bnM n id) ∧ Bel w w' :=
  (bunch_any n id w hi).mono fun _ _ ⟨A, h1, h0, h2, h3⟩ => ⟨bnB n id A, A, h1, rfl, h0, h2, h3⟩

set_option maxRecDepth 100000 in
set_option maxHeartbeats 4000000 in
theorem bunches_any (v : Value) (zs : List Int) (w : World) (hz : Ints w v zs) :
    Calls Try.prog 28 #[v] w fun e w' => ∃ u L, e = .returned u ∧ BnsOk zs (min zs.length 8) L ∧ BL w' u L ∧ Bel w w' := by
  obtain ⟨i0, hi0, hz0, hz1, hz2⟩ := info_parts Try.infoBunch
  obtain ⟨_, A, cp, rfl, hcp, hmx, hr⟩ := hz
  unfold maxLen at hmx
  obtain ⟨n, Hn⟩ : ∃ n, Hid (n = zs.length) := ⟨_, rfl⟩
  have HR : Hid (0 < n → ∃ b o, A = some ⟨b, o, none⟩ ∧ b < w.heap.size ∧ ∀ j z, zs[j]? = some z → w.cell? ⟨b, o + j, none⟩ = some (.int .i64 z)) := by
    intro h
    obtain ⟨b, o, h1, h2, h3⟩ := hr (by have := Hn.out; omega)
    exact ⟨b, o, h1, h2, fun j z hj => by obtain ⟨g1, g2⟩ := List.getElem?_eq_some_iff.1 hj; rw [h3 j g1, g2]⟩
  have HMIN := Lib.hid (show min zs.length 8 = min n 8 by rw [Hn.out])
  rw [HMIN.out]
  rw [← Hn.out] at hcp ⊢
  clear hr
  go_enter Try.func28, Try.ntmps28
  go_wp2
  go_loopw [3, 4] (fun ov iv wr => ∃ (i : Nat) (L : List BM), iv = .int .i64 i ∧ i ≤ n ∧ i ≤ 8 ∧ Hid (BnsOk zs i L) ∧ BOwn wr w.heap.size ov L ∧ Bel w wr) (fun _ iv _ => n - (intOf iv).toNat)
  case atStart => exact ⟨0, [], rfl, by omega, by omega, ⟨rfl, fun k x h => by simp at h⟩, ⟨⟨rfl, Or.inl ⟨rfl, rfl⟩⟩, fun x hx => by cases hx⟩, (by repeat (first | (with_reducible exact Bel.refl _) | (with_reducible assumption) | (with_reducible refine Bel.drewN ?_ _) | (with_reducible refine Bel.drew ?_) | (with_reducible refine Bel.alloc ?_ _) | (with_reducible refine Bel.setNew ?_ ?_ _) | (with_reducible refine Bel.trans ?_ (by assumption)) | (focus (simp; done)) | (focus (simp; omega))))⟩
  case round =>
    obtain ⟨i, L, rfl, p1, p2, HO, hown, hbr⟩ := hrel
    have hL := HO.out.1
    obtain ⟨Ao, co, rfl⟩ := own_slice hown.own
    by_cases hlt : i < n ∧ i < 8
    · obtain ⟨h1, h2⟩ := hlt
      have i1 : (i : Int) < (n : Int) := by omega
      have i2 : (i : Int) < 8 := by omega
      obtain ⟨b, o, rfl, hlb, hcell⟩ := HR.out (by omega)
      obtain ⟨z, hzi⟩ : ∃ z, zs[i]? = some z := ⟨zs[i]'(by have := Hn.out; omega), List.getElem?_eq_getElem _⟩
      have c0 : wr.cell? ⟨b, o + i, none⟩ = some (.int .i64 z) := by
        rw [hbr.cellAt b _ hlb]; exact hcell i z hzi
      have HZ := Lib.hid hzi
      obtain ⟨m, Hm⟩ : ∃ m, Hid (m = L.length) := ⟨_, rfl⟩
      have hm8 : m < 8 := by rw [Hm.out]; omega
      have hw := hown.own
      have HOW := Lib.hid hown
      rw [← Hm.out] at hw ⊢
      clear hcell hzi hown
      go_wp2_with fail
      refine (bunch_any2 z i _ (by omega)).mono ?_; rintro e w1 ⟨B, A1, rfl, HB, hA1, hM1, hb1⟩
      have hw1 := own_keep hw hb1
      have hbw := hbr.trans hb1
      have hws := hbw.size
      clear hw c0
      go_wp2_with (at_builtin; go_must (refine wpList_append_own_at _ rfl _ _ 46 rfl w.heap.size 27 i0 _ 9 96 Try.underlying46 hi0 hz0 hz1 hz2 rfl (by omega) (.slice Ao m co) _ _ rfl (hw1.alloc _) ⟨w1.heap.size, 0, none⟩ 1 1 B.cells rfl rfl (World.news_of_block (cs := #[.int .i64 (B).id, .int .i64 (B).ten, .int .i64 (B).knd, .int .i64 (B).sec, .int .i64 (B).cnt, .string (B).dat, .bool (B).fua, .slice (B).mA (B).mL (B).mC, .int .i64 (B).tim]) (t := 27) (fr := (0, 0)) (heap_alloc_new w1 _)) (bcells_one B) (by unfold maxLen; omega) (by omega) (by simp; omega) ?_); intro v' w3 hown' hg' _ hloc; obtain ⟨gn, cn, hvn, _, _⟩ := hown'.form (by omega); subst hvn)
      have hbw3 : Bel w w3 := bel_own (hbw.alloc _) (hw1.alloc _) hg' (Nat.le_refl _)
      have HO2 := Lib.hid (HO.out.snoc (A := A1) HZ.out)
      rw [← HB.out] at HO2
      have hmm := HB.out
      have hB : (Value.slice B.mA B.mL B.mC).ownBlock = some A1 := by rw [HB.out]; rfl
      have hlt3 : A1 < w1.heap.size := hM1.rd.own_lt (by rw [bnM]; split <;> simp) hB
      rw [Hm.out] at hown' hg' hloc
      have hsn := BOwn.snoc (x := ⟨B, bnM z i⟩) HOW.out hb1 hM1 hB hA1 hlt3 hown' hg' hloc
      have HSN := Lib.hid hsn
      clear hmm hB hsn hown' hg' hloc hw1 HOW
      go_roundw
      case rel => exact ⟨i + 1, L ++ [⟨B, bnM z i⟩], by go_num, by omega, by omega, HO2, by rw [Hm.out]; exact HSN.out, hbw3⟩
      case measure => simp [intOf]; omega
    · have HF := Lib.hid (show i = min n 8 by omega)
      have HBL := Lib.hid hown.bl
      have HO2 := HO.out
      rw [HF.out] at HO2
      have HO3 := Lib.hid HO2
      clear HO2 hown hL
      by_cases h1 : i < n
      · obtain rfl : i = 8 := by omega
        go_wp2
        go_ret
        exact ⟨_, L, rfl, HO3.out, HBL.out, (by repeat (first | (with_reducible exact Bel.refl _) | (with_reducible assumption) | (with_reducible refine Bel.drewN ?_ _) | (with_reducible refine Bel.drew ?_) | (with_reducible refine Bel.alloc ?_ _) | (with_reducible refine Bel.setNew ?_ ?_ _) | (with_reducible refine Bel.trans ?_ (by assumption)) | (focus (simp; done)) | (focus (simp; omega))))⟩
      · obtain rfl : i = n := by omega
        have i1 : decide ((i : Int) < (i : Int)) = false := by simp
        go_wp2
        go_ret
        exact ⟨_, L, rfl, HO3.out, HBL.out, (by repeat (first | (with_reducible exact Bel.refl _) | (with_reducible assumption) | (with_reducible refine Bel.drewN ?_ _) | (with_reducible refine Bel.drew ?_) | (with_reducible refine Bel.alloc ?_ _) | (with_reducible refine Bel.setNew ?_ ?_ _) | (with_reducible refine Bel.trans ?_ (by assumption)) | (focus (simp; done)) | (focus (simp; omega))))⟩
end Go.Proofs.Ytbijfmpmgmfpgaa
