/-
  Contracts of package bits: Between, Count. Premises in each theorem.
-/
import Derived.Test.YtdfpmgpdkajhkaaDoorBits4
import Derived.LoopTactic
namespace Go.Proofs.YtdfpmgpdkajhkaaDoor
open Go.RowKit
set_option maxHeartbeats 1000000 in
/-- Between. -/
theorem between_any {w : World} {b g n M : Nat} (h : BM w b g n M) (x y : Int) : Calls Tryd.prog 36 #[.pointer (some ⟨b, 0, none⟩), .int .i64 x, .int .i64 y] w fun e w' => e = .returned (.int .i64 (betM n M x y)) ∧ w = w' := by
  have hM := h.lt
  have hle := h.le
  obtain ⟨p0, hb0, hn0⟩ := bet_start hM x y
  have HN := Lib.hid hn0
  have HB := Lib.hid hb0
  have H := Lib.hid h
  have hlt := Lib.hid hM
  clear h hM hn0 hb0
  obtain ⟨z0, hz0⟩ : ∃ z0, z0 = nextM n M x := ⟨_, rfl⟩
  have HZ := Lib.hid hz0
  clear hz0
  go_enter Tryd.func36, Tryd.ntmps36
  go_wp2_with (go_at_call 33; refine (next_any H.out x).mono ?_; rintro e w' ⟨rfl, rfl⟩; rw [← HZ.out])
  go_loop [7, 8] (fun c a => ∃ (p k : Nat) (z : Int), c = .int .i64 (k : Nat) ∧ a = .int .i64 z ∧ Hid (z = nextM n M p) ∧ Hid (BetAt n M x y p k) ∧ k ≤ n) (fun _ a => upm n (intOf a))
  case atStart => exact ⟨p0, 0, z0, rfl, rfl, HZ.out.trans HN.out, HB.out, Nat.zero_le _⟩
  case round =>
    clear HN HB HZ
    obtain ⟨p, k, z, rfl, rfl, HZ, HB, hk⟩ := hrel
    by_cases h0 : z ≥ 0
    · obtain ⟨j, rfl⟩ : ∃ j : Nat, z = j := ⟨z.toNat, by omega⟩
      by_cases hj : (j : Int) < y
      · obtain ⟨b1, b2, b3, _⟩ := bet_next hlt.out HB.out HZ.out.symm hj
        have B1 := Lib.hid b1
        have hk2 : k + 1 ≤ n := by obtain ⟨q1, q2, _⟩ := B1.out; rw [q2]; exact Nat.le_trans (cnt_le _ _) q1
        have MS := Lib.hid (upm_next hlt.out b2)
        clear b1
        obtain ⟨z1, hz1⟩ : ∃ z1, z1 = nextM n M ((j + 1 : Nat) : Int) := ⟨_, rfl⟩
        have HZ1 := Lib.hid hz1
        clear hz1
        go_wp2_with (go_at_call 33; (rw [show ((j : Int) + 1) = ((j + 1 : Nat) : Int) by omega]); refine (next_any H.out _).mono ?_; rintro e w' ⟨rfl, rfl⟩; rw [← HZ1.out])
        go_round
        case rel => exact ⟨j + 1, k + 1, z1, by go_num, rfl, HZ1.out, B1.out, hk2⟩
        case measure => simp only [intOf]; rw [HZ1.out]; exact MS.out
      · have HE := Lib.hid (bet_end2 hlt.out HB.out HZ.out.symm hj)
        go_wp2
        go_ret
        exact ⟨by rw [← HE.out]; rfl, rfl⟩
    · have HE := Lib.hid (bet_end1 hlt.out HB.out (by rw [← HZ.out]; omega))
      go_wp2
      go_ret
      exact ⟨by rw [← HE.out]; rfl, rfl⟩
set_option maxHeartbeats 400000 in
/-- Count. -/
theorem count_any {w : World} {b g n M : Nat} (h : BM w b g n M) : Calls Tryd.prog 35 #[.pointer (some ⟨b, 0, none⟩)] w fun e w' => e = .returned (.int .i64 (popM n M)) ∧ w = w' := by
  have H := Lib.hid h
  have HE := Lib.hid (betM_all n M n (Int.le_refl _))
  clear h
  go_enter Tryd.func35, Tryd.ntmps35
  go_wp2_with (first | (go_at_call 37; refine (len_any H.out).mono ?_; rintro e w' ⟨rfl, rfl⟩) | (go_at_call 36; refine (between_any H.out 0 n).mono ?_; rintro e w' ⟨rfl, rfl⟩; rw [HE.out]))
  go_ret
  exact ⟨rfl, rfl⟩
end Go.Proofs.YtdfpmgpdkajhkaaDoor
