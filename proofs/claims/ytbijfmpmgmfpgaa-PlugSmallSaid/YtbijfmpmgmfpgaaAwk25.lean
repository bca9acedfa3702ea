/- The awake of the law of merge. -/
import Derived.Test.YtbijfmpmgmfpgaaJoin
import Derived.Test.YtbijfmpmgmfpgaaJoinO
import Derived.Test.YtbijfmpmgmfpgaaMbr
import Derived.Test.YtbijfmpmgmfpgaaData
import Derived.Test.YtbijfmpmgmfpgaaSameB
namespace Go.Proofs.Ytbijfmpmgmfpgaa
open Go.RowKit Go.Maps
set_option linter.unusedSimpArgs false

theorem mb_ok {id ten knd sec : Int} {d : ByteArray} {cnt : Int} (hs : 0 ≤ sec) (h2 : 1 ≤ cnt) (h3 : sec + cnt ≤ 128) (hd : (knd = 1 ∧ d.size = 0) ∨ (knd = 2 ∧ (d.size : Int) = cnt * 8)) : okU (mbU id ten knd sec d cnt) = true := by
  rw [okU_parts]
  refine ⟨decide_eq_true ⟨hs, show sec < 128 by omega, h2, show cnt ≤ 128 - sec by omega⟩, ?_, ?_⟩
  · unfold dataOk
    rcases hd with ⟨rfl, h⟩ | ⟨rfl, h⟩
    · rw [if_pos (show (mbU id ten 1 sec d cnt).bun.knd = 1 from rfl)]; exact decide_eq_true h
    · rw [if_neg (show ¬ (mbU id ten 2 sec d cnt).bun.knd = 1 from by show ¬ (2 : Int) = 1; decide), if_pos (show (mbU id ten 2 sec d cnt).bun.knd = 2 from rfl)]; exact decide_eq_true h
  · show memOk cnt [] 0 [⟨id, 0, cnt⟩] = true
    rw [memOk_iff]
    refine ⟨⟨rfl, trivial⟩, fun m hm => ?_, by simp [msum], by simp, fun m _ => by simp⟩
    rw [List.mem_singleton] at hm
    subst hm; exact h2
theorem mb_str {a b a' b' c' d' : Int} {x y : ByteArray} {p q p' q' : Int} (h : a ≠ b) : strU (mbU a p q p' x a') (mbU b c' d' q' y b') = true := by
  simp [strU, mbU, h]
theorem mb_nb {a b ten knd s c1 c2 : Int} {x y : ByteArray} (hab : a ≠ b) (hs : 0 ≤ s) (h1 : 1 ≤ c1) (h2 : 1 ≤ c2) (h3 : s + c1 + c2 ≤ 128) (hx : (knd = 1 ∧ x.size = 0) ∨ (knd = 2 ∧ (x.size : Int) = c1 * 8)) (hy : (knd = 1 ∧ y.size = 0) ∨ (knd = 2 ∧ (y.size : Int) = c2 * 8)) :
    Nb (mbU a ten knd s x c1) (mbU b ten knd (s + c1) y c2) :=
  ⟨mb_ok hs h1 (by omega) hx, mb_ok (by omega) h2 (by omega) hy, rfl, rfl, rfl, mb_str hab, rfl⟩
theorem joinAt_any (u v : Bu) (A B : Option Addr) (c d : Nat) (how : Int) (w : World) (hx : Mems w (u.at A c) u.ms) (hy : Mems w (v.at B d) v.ms) :
    Calls Try.prog 17 #[.agg #[.int .i64 ((Bu.at u A c)).id, .int .i64 ((Bu.at u A c)).ten, .int .i64 ((Bu.at u A c)).knd, .int .i64 ((Bu.at u A c)).sec, .int .i64 ((Bu.at u A c)).cnt, .string ((Bu.at u A c)).dat, .bool ((Bu.at u A c)).fua, .slice ((Bu.at u A c)).mA ((Bu.at u A c)).mL ((Bu.at u A c)).mC, .int .i64 ((Bu.at u A c)).tim], .agg #[.int .i64 ((Bu.at v B d)).id, .int .i64 ((Bu.at v B d)).ten, .int .i64 ((Bu.at v B d)).knd, .int .i64 ((Bu.at v B d)).sec, .int .i64 ((Bu.at v B d)).cnt, .string ((Bu.at v B d)).dat, .bool ((Bu.at v B d)).fua, .slice ((Bu.at v B d)).mA ((Bu.at v B d)).mL ((Bu.at v B d)).mC, .int .i64 ((Bu.at v B d)).tim], .int .i64 how] w fun e w' => ∃ A' c', e = .returned (.agg #[.int .i64 ((Bu.at (joinU u v how) A' c')).id, .int .i64 ((Bu.at (joinU u v how) A' c')).ten, .int .i64 ((Bu.at (joinU u v how) A' c')).knd, .int .i64 ((Bu.at (joinU u v how) A' c')).sec, .int .i64 ((Bu.at (joinU u v how) A' c')).cnt, .string ((Bu.at (joinU u v how) A' c')).dat, .bool ((Bu.at (joinU u v how) A' c')).fua, .slice ((Bu.at (joinU u v how) A' c')).mA ((Bu.at (joinU u v how) A' c')).mL ((Bu.at (joinU u v how) A' c')).mC, .int .i64 ((Bu.at (joinU u v how) A' c')).tim]) ∧ Zb w' w.heap.size (joinU u v how) A' c' ∧ Bel w w' :=
  join_any ⟨u.at A c, u.ms⟩ ⟨v.at B d, v.ms⟩ how w hx hy
theorem canAt_any (M L : Int) (u v : Bu) (A B : Option Addr) (c d : Nat) (w : World) (hx : Mems w (u.at A c) u.ms) (hy : Mems w (v.at B d) v.ms) :
    Calls Try.prog 23 #[.agg #[.int .i64 M, .int .i64 L], .agg #[.int .i64 ((Bu.at u A c)).id, .int .i64 ((Bu.at u A c)).ten, .int .i64 ((Bu.at u A c)).knd, .int .i64 ((Bu.at u A c)).sec, .int .i64 ((Bu.at u A c)).cnt, .string ((Bu.at u A c)).dat, .bool ((Bu.at u A c)).fua, .slice ((Bu.at u A c)).mA ((Bu.at u A c)).mL ((Bu.at u A c)).mC, .int .i64 ((Bu.at u A c)).tim], .agg #[.int .i64 ((Bu.at v B d)).id, .int .i64 ((Bu.at v B d)).ten, .int .i64 ((Bu.at v B d)).knd, .int .i64 ((Bu.at v B d)).sec, .int .i64 ((Bu.at v B d)).cnt, .string ((Bu.at v B d)).dat, .bool ((Bu.at v B d)).fua, .slice ((Bu.at v B d)).mA ((Bu.at v B d)).mL ((Bu.at v B d)).mC, .int .i64 ((Bu.at v B d)).tim]] w fun e w' => e = .returned (.int .i64 (canU M L u v)) ∧ Bel w w' :=
  can_any M L ⟨u.at A c, u.ms⟩ ⟨v.at B d, v.ms⟩ w hx hy
theorem validAt_any (u : Bu) (A : Option Addr) (c : Nat) (w : World) (hx : Mems w (u.at A c) u.ms) :
    Calls Try.prog 18 #[.agg #[.int .i64 ((Bu.at u A c)).id, .int .i64 ((Bu.at u A c)).ten, .int .i64 ((Bu.at u A c)).knd, .int .i64 ((Bu.at u A c)).sec, .int .i64 ((Bu.at u A c)).cnt, .string ((Bu.at u A c)).dat, .bool ((Bu.at u A c)).fua, .slice ((Bu.at u A c)).mA ((Bu.at u A c)).mL ((Bu.at u A c)).mC, .int .i64 ((Bu.at u A c)).tim]] w fun e w' => e = .returned (.bool (okU u)) ∧ Bel w w' :=
  mergeValid_any (u.at A c) u.ms w hx

set_option maxRecDepth 100000 in
set_option maxHeartbeats 8000000 in
theorem awake25_any (w : World) : Calls Try.prog 20 #[] w fun e w' => e = .returned (.bool true) ∧ Bel w w' := by
  have HD1 := Lib.hid (fun w' => data_any 1 2 w' (by omega) (by omega))
  have HD2 := Lib.hid (fun w' => data_any 5 1 w' (by omega) (by omega))
  have z1 := dataB_size 1 2
  have z2 := dataB_size 5 1
  generalize dataB 1 2 = d1 at *
  generalize dataB 5 1 = d2 at *
  have hnb : Nb (mbU 1 0 2 4 d1 2) (mbU 2 0 2 6 d2 1) := mb_nb (s := 4) (by decide) (by decide) (by decide) (by decide) (by decide) (.inr ⟨rfl, by rw [z1]; rfl⟩) (.inr ⟨rfl, by rw [z2]; rfl⟩)
  obtain ⟨J, HJ⟩ : ∃ J, Hid (J = joinU (mbU 1 0 2 4 d1 2) (mbU 2 0 2 6 d2 1) 1) := ⟨_, rfl⟩
  have HJN := Lib.hid (fun A B w' hx hy => joinAt_any (mbU 1 0 2 4 d1 2) (mbU 2 0 2 6 d2 1) A B 1 1 1 w' hx hy)
  have HC1 := Lib.hid (fun A B w' hx hy => canAt_any 8 0 (mbU 1 0 2 4 d1 2) (mbU 2 0 2 6 d2 1) A B 1 1 w' hx hy)
  have HC2 := Lib.hid (fun A B w' hx hy => canAt_any 8 0 (mbU 2 0 2 6 d2 1) (mbU 1 0 2 4 d1 2) A B 1 1 w' hx hy)
  have hj : J = pairU (mbU 1 0 2 4 d1 2) (mbU 2 0 2 6 d2 1) (mbU 1 0 2 4 d1 2) (mbU 2 0 2 6 d2 1) := by rw [HJ.out, hnb.join]
  have HJO := Lib.hid (show okU J = true from by rw [hj]; exact hnb.ok)
  have HJL := Lib.hid (show J.ms.length = 2 from by rw [hj]; rfl)
  have hjc : J.cnt = 3 := by rw [hj]; rfl
  have e1 : canU 8 0 (mbU 1 0 2 4 d1 2) (mbU 2 0 2 6 d2 1) = 1 := by
    unfold canU
    rw [if_pos hnb.alike, if_pos ⟨rfl, (by decide : fits 8 0 4 (2 + 1) = true)⟩]
  have e2 : canU 8 0 (mbU 2 0 2 6 d2 1) (mbU 1 0 2 4 d1 2) = 2 := by
    unfold canU
    rw [if_pos hnb.alike', if_neg (fun e => by have : (4 : Int) = 6 + 1 := e.1; omega), if_pos ⟨rfl, (by decide : fits 8 0 4 (1 + 2) = true)⟩]
  rw [e1] at HC1
  rw [e2] at HC2
  rw [← HJ.out] at HJN
  have HVJ := Lib.hid (fun A c w' hx => validAt_any J A c w' hx)
  rw [HJO.out] at HVJ
  obtain ⟨ji, jt, jk, js, jn, jd, jf, jms, jm⟩ := J
  simp only at hjc HJL
  subst hjc
  clear hj hnb e1 e2 HJ HJO
  simp only [Bu.at] at HVJ
  rw [HJL.out] at HVJ
  have s1 : d1.size ≤ maxLen := by unfold maxLen; omega
  have s2 : d2.size ≤ maxLen := by unfold maxLen; omega
  go_enter Try.func20, Try.ntmps20
  go_wp2_with fail
  refine (HD1.out _).mono ?_; rintro e w1 ⟨rfl, hb1⟩
  go_wp2_with fail
  refine (member_any 1 0 2 4 d1 2 _ (by unfold IsInt; omega) s1).mono ?_; rintro e w2 ⟨A1, rfl, hm1, hb2⟩
  go_wp2_with fail
  refine (HD2.out _).mono ?_; rintro e w3 ⟨rfl, hb3⟩
  go_wp2_with fail
  refine (member_any 2 0 2 6 d2 1 _ (by unfold IsInt; omega) s2).mono ?_; rintro e w4 ⟨A2, rfl, hm2, hb4⟩
  have hm1' := (hm1.bel hb3).bel hb4
  have hbw : Bel w w4 := ((hb1.trans hb2).trans hb3).trans hb4
  clear hb1 hb2 hb3 hb4 hm1
  have hP := ((AtF.new_at (w := w4) rfl 27 [.int .i64 1, .int .i64 0, .int .i64 2, .int .i64 4, .int .i64 2, .string d1, .bool false, .slice (some ⟨A1, 0, none⟩) 1 1, .int .i64 0]).alloc (.cells [.int .i64 2, .int .i64 0, .int .i64 2, .int .i64 6, .int .i64 1, .string d2, .bool false, .slice (some ⟨A2, 0, none⟩) 1 1, .int .i64 0].toArray 27)).alloc (.cells [.int .i64 8, .int .i64 0].toArray 38)
  have hQ := (AtF.new_at (w := w4.alloc (.cells [.int .i64 1, .int .i64 0, .int .i64 2, .int .i64 4, .int .i64 2, .string d1, .bool false, .slice (some ⟨A1, 0, none⟩) 1 1, .int .i64 0].toArray 27)) (g := w4.heap.size + 1) (by simp) 27 [.int .i64 2, .int .i64 0, .int .i64 2, .int .i64 6, .int .i64 1, .string d2, .bool false, .slice (some ⟨A2, 0, none⟩) 1 1, .int .i64 0]).alloc (.cells [.int .i64 8, .int .i64 0].toArray 38)
  have hL := AtF.new_at (w := (w4.alloc (.cells [.int .i64 1, .int .i64 0, .int .i64 2, .int .i64 4, .int .i64 2, .string d1, .bool false, .slice (some ⟨A1, 0, none⟩) 1 1, .int .i64 0].toArray 27)).alloc (.cells [.int .i64 2, .int .i64 0, .int .i64 2, .int .i64 6, .int .i64 1, .string d2, .bool false, .slice (some ⟨A2, 0, none⟩) 1 1, .int .i64 0].toArray 27)) (g := w4.heap.size + 1 + 1) (by simp) 38 [.int .i64 8, .int .i64 0]
  have hb5 : Bel w4 (((w4.alloc (.cells [.int .i64 1, .int .i64 0, .int .i64 2, .int .i64 4, .int .i64 2, .string d1, .bool false, .slice (some ⟨A1, 0, none⟩) 1 1, .int .i64 0].toArray 27)).alloc (.cells [.int .i64 2, .int .i64 0, .int .i64 2, .int .i64 6, .int .i64 1, .string d2, .bool false, .slice (some ⟨A2, 0, none⟩) 1 1, .int .i64 0].toArray 27)).alloc (.cells [.int .i64 8, .int .i64 0].toArray 38)) := (by repeat (first | (with_reducible exact Bel.refl _) | (with_reducible assumption) | (with_reducible refine Bel.drewN ?_ _) | (with_reducible refine Bel.drew ?_) | (with_reducible refine Bel.alloc ?_ _) | (with_reducible refine Bel.setNew ?_ ?_ _) | (with_reducible refine Bel.trans ?_ (by assumption)) | (focus (simp; done)) | (focus (simp; omega))))
  simp only [List.toArray] at hP hQ hL hb5
  go_wp2_with fail
  refine (HJN.out _ _ _ (hm1'.bel hb5) (hm2.bel hb5)).mono ?_; rintro e w5 ⟨A, c, rfl, hz, hb6⟩
  simp only [Bu.at]
  rw [HJL.out]
  have hP6 := (hP.bel hb6).alloc (.cells [.int .i64 ji, .int .i64 jt, .int .i64 jk, .int .i64 js, .int .i64 3, .string jd, .bool jf, .slice A 2 c, .int .i64 jm].toArray 27)
  have hQ6 := (hQ.bel hb6).alloc (.cells [.int .i64 ji, .int .i64 jt, .int .i64 jk, .int .i64 js, .int .i64 3, .string jd, .bool jf, .slice A 2 c, .int .i64 jm].toArray 27)
  have hL6 := (hL.bel hb6).alloc (.cells [.int .i64 ji, .int .i64 jt, .int .i64 jk, .int .i64 js, .int .i64 3, .string jd, .bool jf, .slice A 2 c, .int .i64 jm].toArray 27)
  have hJ6 := AtF.new_at (w := w5) rfl 27 [.int .i64 ji, .int .i64 jt, .int .i64 jk, .int .i64 js, .int .i64 3, .string jd, .bool jf, .slice A 2 c, .int .i64 jm]
  have hb7 : Bel w4 (w5.alloc (.cells [.int .i64 ji, .int .i64 jt, .int .i64 jk, .int .i64 js, .int .i64 3, .string jd, .bool jf, .slice A 2 c, .int .i64 jm].toArray 27)) := (hb5.trans hb6).alloc _
  have hb8 : Bel w5 (w5.alloc (.cells [.int .i64 ji, .int .i64 jt, .int .i64 jk, .int .i64 js, .int .i64 3, .string jd, .bool jf, .slice A 2 c, .int .i64 jm].toArray 27)) := (Bel.refl _).alloc _
  have hmJ := hz.1.bel hb8
  simp only [Bu.at] at hmJ
  rw [HJL.out] at hmJ
  simp only [List.toArray] at hP6 hQ6 hL6 hJ6 hb7 hb8 hmJ
  have hP6' := hP.bel hb6
  have hQ6' := hQ.bel hb6
  have hL6' := hL.bel hb6
  clear hP hQ hL hz
  have p0 := (hP6').1.2 0 _ rfl
  have p1 := (hP6').1.2 1 _ rfl
  have p2 := (hP6').1.2 2 _ rfl
  have p3 := (hP6').1.2 3 _ rfl
  have p4 := (hP6').1.2 4 _ rfl
  have p5 := (hP6').1.2 5 _ rfl
  have p6 := (hP6').1.2 6 _ rfl
  have p7 := (hP6').1.2 7 _ rfl
  have p8 := (hP6').1.2 8 _ rfl
  have q0 := (hQ6').1.2 0 _ rfl
  have q1 := (hQ6').1.2 1 _ rfl
  have q2 := (hQ6').1.2 2 _ rfl
  have q3 := (hQ6').1.2 3 _ rfl
  have q4 := (hQ6').1.2 4 _ rfl
  have q5 := (hQ6').1.2 5 _ rfl
  have q6 := (hQ6').1.2 6 _ rfl
  have q7 := (hQ6').1.2 7 _ rfl
  have q8 := (hQ6').1.2 8 _ rfl
  have x0 := hL6'.1.2 0 _ rfl
  have x1 := hL6'.1.2 1 _ rfl
  have pl := hP6'.1.1
  have ql := hQ6'.1.1
  have xl := hL6'.1.1
  go_wp2_with fail
  refine (HC1.out _ _ _ (hm1'.bel hb7) (hm2.bel hb7)).mono ?_; rintro e w6 ⟨rfl, hb9⟩
  clear p0 p1 p2 p3 p4 p5 p6 p7 p8 q0 q1 q2 q3 q4 q5 q6 q7 q8 x0 x1 pl ql xl hP6' hQ6' hL6'
  have hP7 := hP6.bel hb9
  have hQ7 := hQ6.bel hb9
  have hL7 := hL6.bel hb9
  have hJ7 := hJ6.bel hb9
  have hb10 := hb7.trans hb9
  have hmJ7 := hmJ.bel hb9
  clear hP6 hQ6 hL6 hJ6 hmJ hb8
  have p0 := (hP7).1.2 0 _ rfl
  have p1 := (hP7).1.2 1 _ rfl
  have p2 := (hP7).1.2 2 _ rfl
  have p3 := (hP7).1.2 3 _ rfl
  have p4 := (hP7).1.2 4 _ rfl
  have p5 := (hP7).1.2 5 _ rfl
  have p6 := (hP7).1.2 6 _ rfl
  have p7 := (hP7).1.2 7 _ rfl
  have p8 := (hP7).1.2 8 _ rfl
  have q0 := (hQ7).1.2 0 _ rfl
  have q1 := (hQ7).1.2 1 _ rfl
  have q2 := (hQ7).1.2 2 _ rfl
  have q3 := (hQ7).1.2 3 _ rfl
  have q4 := (hQ7).1.2 4 _ rfl
  have q5 := (hQ7).1.2 5 _ rfl
  have q6 := (hQ7).1.2 6 _ rfl
  have q7 := (hQ7).1.2 7 _ rfl
  have q8 := (hQ7).1.2 8 _ rfl
  have x0 := hL7.1.2 0 _ rfl
  have x1 := hL7.1.2 1 _ rfl
  go_wp2_with fail
  refine (HC2.out _ _ _ (hm2.bel hb10) (hm1'.bel hb10)).mono ?_; rintro e w7 ⟨rfl, hb11⟩
  clear p0 p1 p2 p3 p4 p5 p6 p7 p8 q0 q1 q2 q3 q4 q5 q6 q7 q8 x0 x1
  have hJ8 := hJ7.bel hb11
  have hmJ8 := hmJ7.bel hb11
  have hb12 := hbw.trans (hb10.trans hb11)
  have p0 := (hJ8).1.2 0 _ rfl
  have p1 := (hJ8).1.2 1 _ rfl
  have p2 := (hJ8).1.2 2 _ rfl
  have p3 := (hJ8).1.2 3 _ rfl
  have p4 := (hJ8).1.2 4 _ rfl
  have p5 := (hJ8).1.2 5 _ rfl
  have p6 := (hJ8).1.2 6 _ rfl
  have p7 := (hJ8).1.2 7 _ rfl
  have p8 := (hJ8).1.2 8 _ rfl
  go_wp2_with fail
  refine (HVJ.out _ _ _ hmJ8).mono ?_; rintro e w8 ⟨rfl, hb13⟩
  go_wp2
  go_ret
  exact ⟨rfl, hb12.trans hb13⟩
end Go.Proofs.Ytbijfmpmgmfpgaa
