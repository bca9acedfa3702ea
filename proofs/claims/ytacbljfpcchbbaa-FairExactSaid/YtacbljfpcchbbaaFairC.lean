/- The reference's Fair; New of both. -/
import Derived.Test.YtacbljfpcchbbaaFairB
namespace Go.Proofs.Ytacbljfpcchbbaa
open Go.RowKit
set_option linter.unusedSimpArgs false

set_option maxHeartbeats 2000000 in
theorem refFair_any (V : Int) (fs : List (Int × Int)) (v : Value) (w : World) (h : Rd w v 2 fs.length (fcells fs)) :
    Calls Try.prog 29 #[.agg #[.int .i64 V, v]] w fun e w' => e = .returned (.bool (fairOk V fs)) ∧ Bel w w' := by
  obtain ⟨_, A, cp, rfl, hcp, hmx, hr⟩ := h
  unfold maxLen at hmx
  obtain ⟨n, Hn⟩ : ∃ n, Hid (n = fs.length) := ⟨_, rfl⟩
  have hO : Hid (fairOk V fs = (decide (1 ≤ n ∧ n ≤ 4) && timeB V && fs.all flowOk)) := by show _ = _; rw [Hn.out]; rfl
  rw [← Hn.out] at hcp hr ⊢
  have HR := Lib.hid hr
  clear hr
  generalize fairOk V fs = z at hO ⊢
  by_cases h1 : (n : Int) < 1
  · go_enter Try.func29, Try.ntmps29
    go_wp2
    go_ret
    exact ⟨ret_bool (by rw [hO.out]; simp; omega), (by repeat (first | (with_reducible exact Bel.refl _) | (with_reducible assumption) | (with_reducible refine Bel.drewN ?_ _) | (with_reducible refine Bel.drew ?_) | (with_reducible refine Bel.alloc ?_ _) | (with_reducible refine Bel.setNew ?_ ?_ _) | (with_reducible refine Bel.trans ?_ (by assumption)) | (focus (simp; done)) | (focus (simp; omega))))⟩
  · have g1 : decide ((n : Int) < 1) = false := by simp; omega
    by_cases h2 : 4 < (n : Int)
    · go_enter Try.func29, Try.ntmps29
      go_wp2
      go_ret
      exact ⟨ret_bool (by rw [hO.out]; simp; omega), (by repeat (first | (with_reducible exact Bel.refl _) | (with_reducible assumption) | (with_reducible refine Bel.drewN ?_ _) | (with_reducible refine Bel.drew ?_) | (with_reducible refine Bel.alloc ?_ _) | (with_reducible refine Bel.setNew ?_ ?_ _) | (with_reducible refine Bel.trans ?_ (by assumption)) | (focus (simp; done)) | (focus (simp; omega))))⟩
    · have g2 : decide (4 < (n : Int)) = false := by simp; omega
      by_cases h3 : V < 0
      · go_enter Try.func29, Try.ntmps29
        go_wp2
        go_ret
        exact ⟨ret_bool (by rw [hO.out]; simp [timeB]; omega), (by repeat (first | (with_reducible exact Bel.refl _) | (with_reducible assumption) | (with_reducible refine Bel.drewN ?_ _) | (with_reducible refine Bel.drew ?_) | (with_reducible refine Bel.alloc ?_ _) | (with_reducible refine Bel.setNew ?_ ?_ _) | (with_reducible refine Bel.trans ?_ (by assumption)) | (focus (simp; done)) | (focus (simp; omega))))⟩
      · have g3 : decide (V < 0) = false := by simp; omega
        by_cases h4 : 1125899906842624 < V
        · go_enter Try.func29, Try.ntmps29
          go_wp2
          go_ret
          exact ⟨ret_bool (by rw [hO.out]; simp [timeB]; omega), (by repeat (first | (with_reducible exact Bel.refl _) | (with_reducible assumption) | (with_reducible refine Bel.drewN ?_ _) | (with_reducible refine Bel.drew ?_) | (with_reducible refine Bel.alloc ?_ _) | (with_reducible refine Bel.setNew ?_ ?_ _) | (with_reducible refine Bel.trans ?_ (by assumption)) | (focus (simp; done)) | (focus (simp; omega))))⟩
        · have g4 : decide (1125899906842624 < V) = false := by simp; omega
          have hz : Hid (z = fs.all flowOk) := by
            show _ = _
            rw [hO.out, show timeB V = true from timeB_iff.2 ⟨by omega, by omega⟩]
            have : decide (1 ≤ n ∧ n ≤ 4) = true := by simp; omega
            rw [this]; simp
          have hA := AtF.new w 25 [.int .i64 V, .slice A n cp]
          go_enter Try.func29, Try.ntmps29
          go_wp2
          go_loopw [3] (fun iv wr => ∃ i : Nat, iv = .int .i64 i ∧ i ≤ n ∧ Hid (∀ j p, j < i → fs[j]? = some p → flowOk p = true) ∧ AtF wr w.heap.size [.int .i64 V, .slice A n cp] ∧ Bel w wr) (fun iv _ => n - (intOf iv).toNat)
          case atStart => exact ⟨0, rfl, by omega, fun j p hj => absurd hj (by omega), hA, (by repeat (first | (with_reducible exact Bel.refl _) | (with_reducible assumption) | (with_reducible refine Bel.drewN ?_ _) | (with_reducible refine Bel.drew ?_) | (with_reducible refine Bel.alloc ?_ _) | (with_reducible refine Bel.setNew ?_ ?_ _) | (with_reducible refine Bel.trans ?_ (by assumption)) | (focus (simp; done)) | (focus (simp; omega))))⟩
          case round =>
            obtain ⟨i, rfl, p1, HA, hAr, hbr⟩ := hrel
            clear hA
            have a0 := hAr.1.2 0 _ rfl
            have a1 := hAr.1.2 1 _ rfl
            have af := hAr.2
            have al := hAr.1.1
            by_cases hlt : i < n
            · obtain ⟨b, o, rfl, hlb, hcell⟩ := HR.out (by omega)
              obtain ⟨⟨x, y⟩, hx⟩ : ∃ p, fs[i]? = some p := ⟨fs[i]'(by have := Hn.out; omega), List.getElem?_eq_getElem _⟩
              have c0 : wr.cell? ⟨b, o + i * 2, none⟩ = some (.int .i64 x) := by rw [hbr.cellAt _ _ hlb]; exact hcell _ _ (fcells_at0 _ _ _ hx)
              have c1 : wr.cell? ⟨b, o + i * 2 + 1, none⟩ = some (.int .i64 y) := by rw [hbr.cellAt _ _ hlb]; exact hcell _ _ (fcells_at1 _ _ _ hx)
              have HX := Lib.hid hx
              clear hx hcell
              have i1 : (i : Int) < (n : Int) := by omega
              cases hf : flowOk (x, y)
              · have h2 : fs.all flowOk = false := by
                  rw [List.all_eq_false]
                  exact ⟨_, List.mem_of_getElem? HX.out, by rw [hf]; simp⟩
                rw [h2] at hz
                have hf2 : x < 1 ∨ 8 < x ∨ y < 0 ∨ 1125899906842624 < y := by
                  have := mt flowOk_iff.2 (by rw [hf]; simp : ¬ flowOk (x, y) = true)
                  omega
                clear hf h2
                go_wp2
                all_goals
                  first
                  | (exfalso; simp at *; omega)
                  | (go_ret
                     exact ⟨ret_bool hz.out.symm, (by repeat (first | (with_reducible exact Bel.refl _) | (with_reducible assumption) | (with_reducible refine Bel.drewN ?_ _) | (with_reducible refine Bel.drew ?_) | (with_reducible refine Bel.alloc ?_ _) | (with_reducible refine Bel.setNew ?_ ?_ _) | (with_reducible refine Bel.trans ?_ (by assumption)) | (focus (simp; done)) | (focus (simp; omega))))⟩)
              · obtain ⟨⟨f1, f2⟩, f3, f4⟩ := flowOk_iff.1 hf
                have HF := Lib.hid hf
                clear hf
                go_wp2
                go_roundw
                case rel =>
                  refine ⟨i + 1, by go_num, by omega, ?_, hAr.alloc _, (by repeat (first | (with_reducible exact Bel.refl _) | (with_reducible assumption) | (with_reducible refine Bel.drewN ?_ _) | (with_reducible refine Bel.drew ?_) | (with_reducible refine Bel.alloc ?_ _) | (with_reducible refine Bel.setNew ?_ ?_ _) | (with_reducible refine Bel.trans ?_ (by assumption)) | (focus (simp; done)) | (focus (simp; omega))))⟩
                  intro j p hj hp
                  rcases Nat.lt_or_ge j i with h1 | h1
                  · exact HA.out j p h1 hp
                  · obtain rfl : j = i := by omega
                    have := HX.out
                    rw [this] at hp
                    cases hp
                    exact HF.out
                case measure => simp [intOf]; omega
            · have i2 : decide ((i : Int) < (n : Int)) = false := by simp; omega
              have i1 : (n : Int) ≤ (i : Int) := by omega
              go_wp2
              go_ret
              have h2 : fs.all flowOk = true := by
                rw [List.all_eq_true]
                intro p hp
                obtain ⟨j, hj⟩ := List.getElem?_of_mem hp
                exact HA.out j p (by have := (List.getElem?_eq_some_iff.1 hj).1; have := Hn.out; omega) hj
              exact ⟨ret_bool (by rw [hz.out, h2]), (by repeat (first | (with_reducible exact Bel.refl _) | (with_reducible assumption) | (with_reducible refine Bel.drewN ?_ _) | (with_reducible refine Bel.drew ?_) | (with_reducible refine Bel.alloc ?_ _) | (with_reducible refine Bel.setNew ?_ ?_ _) | (with_reducible refine Bel.trans ?_ (by assumption)) | (focus (simp; done)) | (focus (simp; omega))))⟩
end Go.Proofs.Ytacbljfpcchbbaa
