/- deadline.pick, over any two closures. -/
import Derived.Test.YtdffpnogfinehaaUrg
namespace Go.Proofs.Ytdffpnogfinehaa
open Go.RowKit Go.Maps
set_option linter.unusedSimpArgs false

/-- The least key among the first entries for which a condition holds. -/
def pickB (good : Nat → Bool) (key : Nat → Int) : Nat → Option Nat
  | 0 => none
  | k + 1 => if good k = true then (match pickB good key k with
      | none => some k
      | some b => if key k < key b then some k else some b) else pickB good key k
theorem pickB_lt (good : Nat → Bool) (key : Nat → Int) : ∀ k b, pickB good key k = some b → b < k ∧ good b = true
  | 0, b, h => by simp [pickB] at h
  | k + 1, b, h => by
    have ih := pickB_lt good key k
    unfold pickB at h
    split at h
    · rename_i hg
      split at h
      · cases h; exact ⟨by omega, hg⟩
      · rename_i b' hb'
        have := ih b' hb'
        split at h <;> cases h
        · exact ⟨by omega, hg⟩
        · exact ⟨by omega, this.2⟩
    · have := ih b h; exact ⟨by omega, this.2⟩

set_option maxHeartbeats 4000000 in
theorem dlPick_any (A : Option Addr) (n c : Nat) (g g' : Nat) (lb lb' : Array Value) (good : Nat → Bool) (key : Nat → Int) (w : World) (hn : n ≤ 1000)
    (eg : ∀ args w, (callFunc g args).run Try.prog w = .ok (.enter g args) w) (eg' : ∀ args w, (callFunc g' args).run Try.prog w = .ok (.enter g' args) w)
    (hg : ∀ W (i : Nat), Bel w W → i < n → Calls Try.prog g (#[.int .i64 (i : Int)] ++ lb) W fun e w' => e = .returned (.bool (good i)) ∧ Bel W w')
    (hk : ∀ W (i : Nat), Bel w W → i < n → Calls Try.prog g' (#[.int .i64 (i : Int)] ++ lb') W fun e w' => e = .returned (.int .i64 (key i)) ∧ Bel W w') :
    Calls Try.prog 29 #[.slice A n c, .func (.func g) #[] lb, .func (.func g') #[] lb'] w fun e w' =>
      e = .returned (.tuple #[.int .i64 ((pickB good key n).getD 0 : Nat), .bool (pickB good key n).isSome]) ∧ Bel w w' := by
  have HG := Lib.hid hg
  have HK := Lib.hid hk
  clear hg hk
  obtain ⟨R, HR⟩ : ∃ R, Hid (R = pickB good key n) := ⟨_, rfl⟩
  rw [← HR.out]
  go_enter Try.func29, Try.ntmps29
  go_wp2
  go_loopw [8, 9, 10, 15] (fun bv lv fv iv wr => ∃ (i : Nat) (o : Option Nat) (z : Int), bv = .int .i64 (o.getD 0 : Nat) ∧ lv = .int .i64 z ∧ fv = .bool o.isSome ∧ iv = .int .i64 i ∧ i ≤ n ∧ Hid (∀ b, o = some b → z = key b) ∧ Hid (pickB good key i = o) ∧ Bel w wr) (fun _ _ _ iv _ => n - (intOf iv).toNat)
  case atStart => exact ⟨0, none, 0, rfl, rfl, rfl, rfl, by omega, Lib.hid (fun _ h => by cases h), rfl, (by repeat (first | (with_reducible exact Bel.refl _) | (with_reducible assumption) | (with_reducible refine Bel.drewN ?_ _) | (with_reducible refine Bel.drew ?_) | (with_reducible refine Bel.alloc ?_ _) | (with_reducible refine Bel.setNew ?_ ?_ _) | (with_reducible refine Bel.trans ?_ (by assumption)) | (focus (simp; done)) | (focus (simp; omega))))⟩
  case round =>
    obtain ⟨i, o, z, rfl, rfl, rfl, rfl, p1, HZ, HO, hbr⟩ := hrel
    by_cases hlt : i < n
    · have i1 : (i : Int) < (n : Int) := by omega
      cases hgi : good i
      · have HS : Hid (pickB good key (i + 1) = o) := by show _ = _; rw [pickB, if_neg (by rw [hgi]; simp)]; exact HO.out
        have HGI := Lib.hid hgi
        clear hgi
        go_wp2_with fail
        refine (HG.out _ i (by repeat (first | (with_reducible exact Bel.refl _) | (with_reducible assumption) | (with_reducible refine Bel.drewN ?_ _) | (with_reducible refine Bel.drew ?_) | (with_reducible refine Bel.alloc ?_ _) | (with_reducible refine Bel.setNew ?_ ?_ _) | (with_reducible refine Bel.trans ?_ (by assumption)) | (focus (simp; done)) | (focus (simp; omega)))) hlt).mono ?_; rw [HGI.out]; rintro e w1 ⟨rfl, hb1⟩
        go_wp2
        go_roundw
        case rel => exact ⟨i + 1, o, z, rfl, rfl, rfl, by go_num, by omega, HZ, HS, (by repeat (first | (with_reducible exact Bel.refl _) | (with_reducible assumption) | (with_reducible refine Bel.drewN ?_ _) | (with_reducible refine Bel.drew ?_) | (with_reducible refine Bel.alloc ?_ _) | (with_reducible refine Bel.setNew ?_ ?_ _) | (with_reducible refine Bel.trans ?_ (by assumption)) | (focus (simp; done)) | (focus (simp; omega))))⟩
        case measure => simp [intOf]; omega
      · have HGI := Lib.hid hgi
        obtain ⟨ki, HKI⟩ : ∃ ki, Hid (ki = key i) := ⟨_, rfl⟩
        cases o with
        | none =>
          have HS : Hid (pickB good key (i + 1) = some i) := by show _ = _; rw [pickB, if_pos hgi, HO.out]
          clear hgi
          go_wp2_with fail
          refine (HG.out _ i (by repeat (first | (with_reducible exact Bel.refl _) | (with_reducible assumption) | (with_reducible refine Bel.drewN ?_ _) | (with_reducible refine Bel.drew ?_) | (with_reducible refine Bel.alloc ?_ _) | (with_reducible refine Bel.setNew ?_ ?_ _) | (with_reducible refine Bel.trans ?_ (by assumption)) | (focus (simp; done)) | (focus (simp; omega)))) hlt).mono ?_; rw [HGI.out]; rintro e w1 ⟨rfl, hb1⟩
          go_wp2_with fail
          refine (HK.out _ i (by repeat (first | (with_reducible exact Bel.refl _) | (with_reducible assumption) | (with_reducible refine Bel.drewN ?_ _) | (with_reducible refine Bel.drew ?_) | (with_reducible refine Bel.alloc ?_ _) | (with_reducible refine Bel.setNew ?_ ?_ _) | (with_reducible refine Bel.trans ?_ (by assumption)) | (focus (simp; done)) | (focus (simp; omega)))) hlt).mono ?_; rw [← HKI.out]; rintro e w2 ⟨rfl, hb2⟩
          go_wp2
          go_roundw
          case rel => exact ⟨i + 1, some i, ki, rfl, rfl, rfl, by go_num, by omega, Lib.hid (fun b h => by cases h; exact HKI.out), HS, (by repeat (first | (with_reducible exact Bel.refl _) | (with_reducible assumption) | (with_reducible refine Bel.drewN ?_ _) | (with_reducible refine Bel.drew ?_) | (with_reducible refine Bel.alloc ?_ _) | (with_reducible refine Bel.setNew ?_ ?_ _) | (with_reducible refine Bel.trans ?_ (by assumption)) | (focus (simp; done)) | (focus (simp; omega))))⟩
          case measure => simp [intOf]; omega
        | some b =>
          have hz := HZ.out b rfl
          by_cases hlk : ki < z
          · have HS : Hid (pickB good key (i + 1) = some i) := by show _ = _; rw [pickB, if_pos hgi, HO.out]; simp only; rw [if_pos (by rw [← HKI.out, ← hz]; exact hlk)]
            clear hgi hz
            go_wp2_with fail
            refine (HG.out _ i (by repeat (first | (with_reducible exact Bel.refl _) | (with_reducible assumption) | (with_reducible refine Bel.drewN ?_ _) | (with_reducible refine Bel.drew ?_) | (with_reducible refine Bel.alloc ?_ _) | (with_reducible refine Bel.setNew ?_ ?_ _) | (with_reducible refine Bel.trans ?_ (by assumption)) | (focus (simp; done)) | (focus (simp; omega)))) hlt).mono ?_; rw [HGI.out]; rintro e w1 ⟨rfl, hb1⟩
            go_wp2_with fail
            refine (HK.out _ i (by repeat (first | (with_reducible exact Bel.refl _) | (with_reducible assumption) | (with_reducible refine Bel.drewN ?_ _) | (with_reducible refine Bel.drew ?_) | (with_reducible refine Bel.alloc ?_ _) | (with_reducible refine Bel.setNew ?_ ?_ _) | (with_reducible refine Bel.trans ?_ (by assumption)) | (focus (simp; done)) | (focus (simp; omega)))) hlt).mono ?_; rw [← HKI.out]; rintro e w2 ⟨rfl, hb2⟩
            go_wp2
            go_roundw
            case rel => exact ⟨i + 1, some i, ki, rfl, rfl, rfl, by go_num, by omega, Lib.hid (fun b h => by cases h; exact HKI.out), HS, (by repeat (first | (with_reducible exact Bel.refl _) | (with_reducible assumption) | (with_reducible refine Bel.drewN ?_ _) | (with_reducible refine Bel.drew ?_) | (with_reducible refine Bel.alloc ?_ _) | (with_reducible refine Bel.setNew ?_ ?_ _) | (with_reducible refine Bel.trans ?_ (by assumption)) | (focus (simp; done)) | (focus (simp; omega))))⟩
            case measure => simp [intOf]; omega
          · have HS : Hid (pickB good key (i + 1) = some b) := by show _ = _; rw [pickB, if_pos hgi, HO.out]; simp only; rw [if_neg (by rw [← HKI.out, ← hz]; exact hlk)]
            clear hgi hz
            go_wp2_with fail
            refine (HG.out _ i (by repeat (first | (with_reducible exact Bel.refl _) | (with_reducible assumption) | (with_reducible refine Bel.drewN ?_ _) | (with_reducible refine Bel.drew ?_) | (with_reducible refine Bel.alloc ?_ _) | (with_reducible refine Bel.setNew ?_ ?_ _) | (with_reducible refine Bel.trans ?_ (by assumption)) | (focus (simp; done)) | (focus (simp; omega)))) hlt).mono ?_; rw [HGI.out]; rintro e w1 ⟨rfl, hb1⟩
            go_wp2_with fail
            refine (HK.out _ i (by repeat (first | (with_reducible exact Bel.refl _) | (with_reducible assumption) | (with_reducible refine Bel.drewN ?_ _) | (with_reducible refine Bel.drew ?_) | (with_reducible refine Bel.alloc ?_ _) | (with_reducible refine Bel.setNew ?_ ?_ _) | (with_reducible refine Bel.trans ?_ (by assumption)) | (focus (simp; done)) | (focus (simp; omega)))) hlt).mono ?_; rw [← HKI.out]; rintro e w2 ⟨rfl, hb2⟩
            go_wp2
            go_roundw
            case rel => exact ⟨i + 1, some b, z, rfl, rfl, rfl, by go_num, by omega, HZ, HS, (by repeat (first | (with_reducible exact Bel.refl _) | (with_reducible assumption) | (with_reducible refine Bel.drewN ?_ _) | (with_reducible refine Bel.drew ?_) | (with_reducible refine Bel.alloc ?_ _) | (with_reducible refine Bel.setNew ?_ ?_ _) | (with_reducible refine Bel.trans ?_ (by assumption)) | (focus (simp; done)) | (focus (simp; omega))))⟩
            case measure => simp [intOf]; omega
    · have i2 : decide ((i : Int) < (n : Int)) = false := by simp; omega
      have i1 : (n : Int) ≤ (i : Int) := by omega
      have HE : Hid (R = o) := by show _ = _; rw [HR.out, ← HO.out]; congr 1; omega
      have hE := HE.out
      subst hE
      go_wp2
      go_ret2
      exact ⟨rfl, (by repeat (first | (with_reducible exact Bel.refl _) | (with_reducible assumption) | (with_reducible refine Bel.drewN ?_ _) | (with_reducible refine Bel.drew ?_) | (with_reducible refine Bel.alloc ?_ _) | (with_reducible refine Bel.setNew ?_ ?_ _) | (with_reducible refine Bel.trans ?_ (by assumption)) | (focus (simp; done)) | (focus (simp; omega))))⟩
end Go.Proofs.Ytdffpnogfinehaa
