/- The walk of TokenSplits. -/
import Derived.Test.YtchimkjbpmcpbaaTokZ
namespace Go.Proofs.Ytchimkjbpmcpbaa
open Go.RowKit
attribute [local go_sem] bkG eq_bk eq_bk_self

set_option maxHeartbeats 1000000 in
theorem tokenSplits_walk (n t0 a b : Int) (w : World) (_ : IsInt n) (_ : IsInt t0) (_ : IsInt a) (_ : IsInt b) :
    Calls Try.prog 12 #[.int .i64 n, .int .i64 t0, .int .i64 a, .int .i64 b] w fun e w' => e = .returned (.bool true) ∧ Bel w w' := by
  have hok := madeB_ok n
  obtain ⟨m, Hm⟩ : ∃ m, Hid (m = madeB n) := ⟨_, rfl⟩
  rw [← Hm.out] at hok
  obtain ⟨r, u, l, t⟩ := m
  have s1 := rnd_lo t0 60
  have s2 := rnd_hi t0 60 (by omega)
  have s3 := rnd_lo a 5
  have s4 := rnd_hi a 5 (by omega)
  have s5 := rnd_lo b 5
  have s6 := rnd_hi b 5 (by omega)
  obtain ⟨now, Hn⟩ : ∃ now, Hid (now = rnd t0 60) := ⟨_, rfl⟩
  obtain ⟨p, Hp⟩ : ∃ p, Hid (p = rnd a 5) := ⟨_, rfl⟩
  obtain ⟨q, Hq⟩ : ∃ q, Hid (q = rnd b 5) := ⟨_, rfl⟩
  rw [← Hn.out] at s1 s2
  rw [← Hp.out] at s3 s4
  rw [← Hq.out] at s5 s6
  have hs := take_split (p := p) (q := q) hok (tickB_iff.2 ⟨by omega, by omega⟩ : tickB now = true) s3 (by omega) s5 (by omega)
  have hn1 := take_no (r := r) (u := u) (l := l) (t := t) (now := now) (c := p)
  have hn2 := take_no (r := r) (u := u) (l := l) (t := t) (now := now) (c := p + q)
  obtain ⟨y, Hy⟩ : ∃ y, Hid (y = takeB ⟨r, u, l, t⟩ now p) := ⟨_, rfl⟩
  obtain ⟨v, Hv⟩ : ∃ v, Hid (v = takeB ⟨r, u, l, t⟩ now (p + q)) := ⟨_, rfl⟩
  rw [← Hy.out] at hs hn1
  rw [← Hv.out] at hs hn2
  obtain ⟨⟨y0, y1, y2, y3⟩, y4⟩ := y
  obtain ⟨⟨v0, v1, v2, v3⟩, v4⟩ := v
  simp only at hs hn1 hn2
  obtain ⟨z, Hz⟩ : ∃ z, Hid (z = takeB ⟨y0, y1, y2, y3⟩ now q) := ⟨_, rfl⟩
  rw [← Hz.out] at hs
  obtain ⟨⟨z0, z1, z2, z3⟩, z4⟩ := z
  simp only at hs
  obtain ⟨hs1, hs2⟩ := hs
  subst hs1
  have HN1 := Lib.hid hn1
  have HN2 := Lib.hid hn2
  have HS2 := Lib.hid hs2
  clear hs2 hn1 hn2
  cases y4 <;> cases z4
  all_goals
    simp only [Bool.and_true, Bool.and_false] at Hv HN2 HS2
  · have e1 := (HN1.out (by simp)).symm
    have e2 := (HN2.out (by simp)).symm
    simp only [Bk.mk.injEq] at e1 e2
    obtain ⟨rfl, rfl, rfl, rfl⟩ := e1
    obtain ⟨rfl, rfl, rfl, rfl⟩ := e2
    go_enter Try.func12, Try.ntmps12
    go_wp2_with fail
    refine (madeTok_any n _).mono ?_; rw [← Hm.out]; unfold bv; rintro e w0 ⟨rfl, hb0⟩
    go_wp2_with fail
    refine (round_any t0 60 _ (by omega)).mono ?_; rw [← Hn.out]; rintro e w1 ⟨rfl, rfl⟩
    go_wp2_with fail
    refine (round_any a 5 _ (by omega)).mono ?_; rw [← Hp.out]; rintro e w1 ⟨rfl, rfl⟩
    go_wp2_with fail
    refine (round_any b 5 _ (by omega)).mono ?_; rw [← Hq.out]; rintro e w1 ⟨rfl, rfl⟩
    go_wp2_with fail
    refine (tokTake_any r u l t now p _).mono ?_; rw [← Hy.out]; unfold bv; rintro e w1 ⟨rfl, hb1⟩
    have hA := (At.new w0 37 [.int .i64 r, .int .i64 u, .int .i64 l, .int .i64 t]).bel hb1
    have a0 := hA.2 0 _ rfl
    have a1 := hA.2 1 _ rfl
    have a2 := hA.2 2 _ rfl
    have a3 := hA.2 3 _ rfl
    have al := hA.1
    go_wp2_with fail
    refine (tokTake_any r u l t now q _).mono ?_; rw [← Hz.out]; unfold bv; rintro e w2 ⟨rfl, hb2⟩
    have hA2 := (hA.bel ((Bel.refl _).alloc _)).bel hb2
    have hB2 := (At.new w1 37 [.int .i64 r, .int .i64 u, .int .i64 l, .int .i64 t]).bel hb2
    clear a0 a1 a2 a3 al hA
    have a0 := hA2.2 0 _ rfl
    have a1 := hA2.2 1 _ rfl
    have a2 := hA2.2 2 _ rfl
    have a3 := hA2.2 3 _ rfl
    have al := hA2.1
    go_wp2_with fail
    refine (tokTake_any r u l t now (p + q) _).mono ?_; rw [← Hv.out]; unfold bv; rintro e w3 ⟨rfl, hb3⟩
    have hA3 := (hA2.bel ((Bel.refl _).alloc _)).bel hb3
    have hB3 := (hB2.bel ((Bel.refl _).alloc _)).bel hb3
    have hC3 := (At.new w2 37 [.int .i64 z0, .int .i64 z1, .int .i64 z2, .int .i64 z3]).bel hb3
    clear a0 a1 a2 a3 al hA2 hB2
    have a0 := hA3.2 0 _ rfl
    have a1 := hA3.2 1 _ rfl
    have a2 := hA3.2 2 _ rfl
    have a3 := hA3.2 3 _ rfl
    have al := hA3.1
    have b0 := hB3.2 0 _ rfl
    have b1 := hB3.2 1 _ rfl
    have b2 := hB3.2 2 _ rfl
    have b3 := hB3.2 3 _ rfl
    have bl := hB3.1
    have c0 := hC3.2 0 _ rfl
    have c1 := hC3.2 1 _ rfl
    have c2 := hC3.2 2 _ rfl
    have c3 := hC3.2 3 _ rfl
    have cl := hC3.1
    go_wp2_with fail
    refine (awakeTok_any _).mono ?_; rintro e w4 ⟨rfl, hb4⟩
    go_wp2
    go_ret
    exact ⟨rfl, (by repeat (first | (with_reducible exact Bel.refl _) | (with_reducible assumption) | (with_reducible refine Bel.drewN ?_ _) | (with_reducible refine Bel.drew ?_) | (with_reducible refine Bel.alloc ?_ _) | (with_reducible refine Bel.setNew ?_ ?_ _) | (with_reducible refine Bel.trans ?_ (by assumption)) | (focus (simp; done)) | (focus (simp; omega))))⟩
  · have e1 := (HN1.out (by simp)).symm
    have e2 := (HN2.out (by simp)).symm
    simp only [Bk.mk.injEq] at e1 e2
    obtain ⟨rfl, rfl, rfl, rfl⟩ := e1
    obtain ⟨rfl, rfl, rfl, rfl⟩ := e2
    go_enter Try.func12, Try.ntmps12
    go_wp2_with fail
    refine (madeTok_any n _).mono ?_; rw [← Hm.out]; unfold bv; rintro e w0 ⟨rfl, hb0⟩
    go_wp2_with fail
    refine (round_any t0 60 _ (by omega)).mono ?_; rw [← Hn.out]; rintro e w1 ⟨rfl, rfl⟩
    go_wp2_with fail
    refine (round_any a 5 _ (by omega)).mono ?_; rw [← Hp.out]; rintro e w1 ⟨rfl, rfl⟩
    go_wp2_with fail
    refine (round_any b 5 _ (by omega)).mono ?_; rw [← Hq.out]; rintro e w1 ⟨rfl, rfl⟩
    go_wp2_with fail
    refine (tokTake_any r u l t now p _).mono ?_; rw [← Hy.out]; unfold bv; rintro e w1 ⟨rfl, hb1⟩
    have hA := (At.new w0 37 [.int .i64 r, .int .i64 u, .int .i64 l, .int .i64 t]).bel hb1
    have a0 := hA.2 0 _ rfl
    have a1 := hA.2 1 _ rfl
    have a2 := hA.2 2 _ rfl
    have a3 := hA.2 3 _ rfl
    have al := hA.1
    go_wp2_with fail
    refine (tokTake_any r u l t now q _).mono ?_; rw [← Hz.out]; unfold bv; rintro e w2 ⟨rfl, hb2⟩
    have hA2 := (hA.bel ((Bel.refl _).alloc _)).bel hb2
    have hB2 := (At.new w1 37 [.int .i64 r, .int .i64 u, .int .i64 l, .int .i64 t]).bel hb2
    clear a0 a1 a2 a3 al hA
    have a0 := hA2.2 0 _ rfl
    have a1 := hA2.2 1 _ rfl
    have a2 := hA2.2 2 _ rfl
    have a3 := hA2.2 3 _ rfl
    have al := hA2.1
    go_wp2_with fail
    refine (tokTake_any r u l t now (p + q) _).mono ?_; rw [← Hv.out]; unfold bv; rintro e w3 ⟨rfl, hb3⟩
    have hA3 := (hA2.bel ((Bel.refl _).alloc _)).bel hb3
    have hB3 := (hB2.bel ((Bel.refl _).alloc _)).bel hb3
    have hC3 := (At.new w2 37 [.int .i64 z0, .int .i64 z1, .int .i64 z2, .int .i64 z3]).bel hb3
    clear a0 a1 a2 a3 al hA2 hB2
    have a0 := hA3.2 0 _ rfl
    have a1 := hA3.2 1 _ rfl
    have a2 := hA3.2 2 _ rfl
    have a3 := hA3.2 3 _ rfl
    have al := hA3.1
    have b0 := hB3.2 0 _ rfl
    have b1 := hB3.2 1 _ rfl
    have b2 := hB3.2 2 _ rfl
    have b3 := hB3.2 3 _ rfl
    have bl := hB3.1
    have c0 := hC3.2 0 _ rfl
    have c1 := hC3.2 1 _ rfl
    have c2 := hC3.2 2 _ rfl
    have c3 := hC3.2 3 _ rfl
    have cl := hC3.1
    go_wp2_with fail
    refine (awakeTok_any _).mono ?_; rintro e w4 ⟨rfl, hb4⟩
    go_wp2
    go_ret
    exact ⟨rfl, (by repeat (first | (with_reducible exact Bel.refl _) | (with_reducible assumption) | (with_reducible refine Bel.drewN ?_ _) | (with_reducible refine Bel.drew ?_) | (with_reducible refine Bel.alloc ?_ _) | (with_reducible refine Bel.setNew ?_ ?_ _) | (with_reducible refine Bel.trans ?_ (by assumption)) | (focus (simp; done)) | (focus (simp; omega))))⟩
  · have e2 := (HN2.out (by simp)).symm
    simp only [Bk.mk.injEq] at e2
    obtain ⟨rfl, rfl, rfl, rfl⟩ := e2
    go_enter Try.func12, Try.ntmps12
    go_wp2_with fail
    refine (madeTok_any n _).mono ?_; rw [← Hm.out]; unfold bv; rintro e w0 ⟨rfl, hb0⟩
    go_wp2_with fail
    refine (round_any t0 60 _ (by omega)).mono ?_; rw [← Hn.out]; rintro e w1 ⟨rfl, rfl⟩
    go_wp2_with fail
    refine (round_any a 5 _ (by omega)).mono ?_; rw [← Hp.out]; rintro e w1 ⟨rfl, rfl⟩
    go_wp2_with fail
    refine (round_any b 5 _ (by omega)).mono ?_; rw [← Hq.out]; rintro e w1 ⟨rfl, rfl⟩
    go_wp2_with fail
    refine (tokTake_any r u l t now p _).mono ?_; rw [← Hy.out]; unfold bv; rintro e w1 ⟨rfl, hb1⟩
    have hA := (At.new w0 37 [.int .i64 r, .int .i64 u, .int .i64 l, .int .i64 t]).bel hb1
    have a0 := hA.2 0 _ rfl
    have a1 := hA.2 1 _ rfl
    have a2 := hA.2 2 _ rfl
    have a3 := hA.2 3 _ rfl
    have al := hA.1
    go_wp2_with fail
    refine (tokTake_any y0 y1 y2 y3 now q _).mono ?_; rw [← Hz.out]; unfold bv; rintro e w2 ⟨rfl, hb2⟩
    have hA2 := (hA.bel ((Bel.refl _).alloc _)).bel hb2
    have hB2 := (At.new w1 37 [.int .i64 y0, .int .i64 y1, .int .i64 y2, .int .i64 y3]).bel hb2
    clear a0 a1 a2 a3 al hA
    have a0 := hA2.2 0 _ rfl
    have a1 := hA2.2 1 _ rfl
    have a2 := hA2.2 2 _ rfl
    have a3 := hA2.2 3 _ rfl
    have al := hA2.1
    go_wp2_with fail
    refine (tokTake_any r u l t now (p + q) _).mono ?_; rw [← Hv.out]; unfold bv; rintro e w3 ⟨rfl, hb3⟩
    have hA3 := (hA2.bel ((Bel.refl _).alloc _)).bel hb3
    have hB3 := (hB2.bel ((Bel.refl _).alloc _)).bel hb3
    have hC3 := (At.new w2 37 [.int .i64 z0, .int .i64 z1, .int .i64 z2, .int .i64 z3]).bel hb3
    clear a0 a1 a2 a3 al hA2 hB2
    have a0 := hA3.2 0 _ rfl
    have a1 := hA3.2 1 _ rfl
    have a2 := hA3.2 2 _ rfl
    have a3 := hA3.2 3 _ rfl
    have al := hA3.1
    have b0 := hB3.2 0 _ rfl
    have b1 := hB3.2 1 _ rfl
    have b2 := hB3.2 2 _ rfl
    have b3 := hB3.2 3 _ rfl
    have bl := hB3.1
    have c0 := hC3.2 0 _ rfl
    have c1 := hC3.2 1 _ rfl
    have c2 := hC3.2 2 _ rfl
    have c3 := hC3.2 3 _ rfl
    have cl := hC3.1
    go_wp2_with fail
    refine (awakeTok_any _).mono ?_; rintro e w4 ⟨rfl, hb4⟩
    go_wp2
    go_ret
    exact ⟨rfl, (by repeat (first | (with_reducible exact Bel.refl _) | (with_reducible assumption) | (with_reducible refine Bel.drewN ?_ _) | (with_reducible refine Bel.drew ?_) | (with_reducible refine Bel.alloc ?_ _) | (with_reducible refine Bel.setNew ?_ ?_ _) | (with_reducible refine Bel.trans ?_ (by assumption)) | (focus (simp; done)) | (focus (simp; omega))))⟩
  · have e2 := HS2.out (by simp)
    subst e2
    go_enter Try.func12, Try.ntmps12
    go_wp2_with fail
    refine (madeTok_any n _).mono ?_; rw [← Hm.out]; unfold bv; rintro e w0 ⟨rfl, hb0⟩
    go_wp2_with fail
    refine (round_any t0 60 _ (by omega)).mono ?_; rw [← Hn.out]; rintro e w1 ⟨rfl, rfl⟩
    go_wp2_with fail
    refine (round_any a 5 _ (by omega)).mono ?_; rw [← Hp.out]; rintro e w1 ⟨rfl, rfl⟩
    go_wp2_with fail
    refine (round_any b 5 _ (by omega)).mono ?_; rw [← Hq.out]; rintro e w1 ⟨rfl, rfl⟩
    go_wp2_with fail
    refine (tokTake_any r u l t now p _).mono ?_; rw [← Hy.out]; unfold bv; rintro e w1 ⟨rfl, hb1⟩
    have hA := (At.new w0 37 [.int .i64 r, .int .i64 u, .int .i64 l, .int .i64 t]).bel hb1
    have a0 := hA.2 0 _ rfl
    have a1 := hA.2 1 _ rfl
    have a2 := hA.2 2 _ rfl
    have a3 := hA.2 3 _ rfl
    have al := hA.1
    go_wp2_with fail
    refine (tokTake_any y0 y1 y2 y3 now q _).mono ?_; rw [← Hz.out]; unfold bv; rintro e w2 ⟨rfl, hb2⟩
    have hA2 := (hA.bel ((Bel.refl _).alloc _)).bel hb2
    have hB2 := (At.new w1 37 [.int .i64 y0, .int .i64 y1, .int .i64 y2, .int .i64 y3]).bel hb2
    clear a0 a1 a2 a3 al hA
    have a0 := hA2.2 0 _ rfl
    have a1 := hA2.2 1 _ rfl
    have a2 := hA2.2 2 _ rfl
    have a3 := hA2.2 3 _ rfl
    have al := hA2.1
    go_wp2_with fail
    refine (tokTake_any r u l t now (p + q) _).mono ?_; rw [← Hv.out]; unfold bv; rintro e w3 ⟨rfl, hb3⟩
    have hA3 := (hA2.bel ((Bel.refl _).alloc _)).bel hb3
    have hB3 := (hB2.bel ((Bel.refl _).alloc _)).bel hb3
    have hC3 := (At.new w2 37 [.int .i64 z0, .int .i64 z1, .int .i64 z2, .int .i64 z3]).bel hb3
    clear a0 a1 a2 a3 al hA2 hB2
    have a0 := hA3.2 0 _ rfl
    have a1 := hA3.2 1 _ rfl
    have a2 := hA3.2 2 _ rfl
    have a3 := hA3.2 3 _ rfl
    have al := hA3.1
    have b0 := hB3.2 0 _ rfl
    have b1 := hB3.2 1 _ rfl
    have b2 := hB3.2 2 _ rfl
    have b3 := hB3.2 3 _ rfl
    have bl := hB3.1
    have c0 := hC3.2 0 _ rfl
    have c1 := hC3.2 1 _ rfl
    have c2 := hC3.2 2 _ rfl
    have c3 := hC3.2 3 _ rfl
    have cl := hC3.1
    go_wp2_with fail
    refine (awakeTok_any _).mono ?_; rintro e w4 ⟨rfl, hb4⟩
    go_wp2
    go_ret
    exact ⟨rfl, (by repeat (first | (with_reducible exact Bel.refl _) | (with_reducible assumption) | (with_reducible refine Bel.drewN ?_ _) | (with_reducible refine Bel.drew ?_) | (with_reducible refine Bel.alloc ?_ _) | (with_reducible refine Bel.setNew ?_ ?_ _) | (with_reducible refine Bel.trans ?_ (by assumption)) | (focus (simp; done)) | (focus (simp; omega))))⟩
end Go.Proofs.Ytchimkjbpmcpbaa
