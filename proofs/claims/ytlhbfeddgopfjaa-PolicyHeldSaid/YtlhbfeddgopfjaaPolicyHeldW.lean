/-
  The walk of the law PolicyHeld: for all int arguments it returns true and leaves the world as it was. No condition.
-/
import Derived.Test.YtlhbfeddgopfjaaPol
namespace Go.Proofs.Ytlhbfeddgopfjaa
open Go.RowKit

theorem sn_hd (a b : Int) : sn (hd a) (hd b) = sn a b := by unfold sn; rw [hd_hd, hd_hd]
theorem kp_hd (a b c d : Int) : kp (hd a) (hd b) (hd c) (hd d) = kp a b c d := by unfold kp; rw [sn_hd, ml_hd]
theorem ml_zero_right (a : Int) : ml a 0 = 0 := by
  have h0 : hd 0 = 0 := hd_same (by decide) (by decide)
  unfold ml; rw [h0, Int.mul_zero]; omega
theorem ml_one_right (a : Int) : ml a 1 = hd a := by
  have ha := hd_range a
  have h1 : hd 1 = 1 := hd_same (by decide) (by decide)
  unfold ml; rw [h1, Int.mul_one]; omega
theorem ad_zero_right (a : Int) : min (hd a + hd 0) 1099511627776 = hd a := by
  have ha := hd_range a
  have h0 : hd 0 = 0 := hd_same (by decide) (by decide)
  rw [h0]; omega
set_option maxHeartbeats 2000000 in
theorem lawheld_any (a b r f : Int) (w : World) :
    Calls Try.prog 6 #[.int .i64 a, .int .i64 b, .int .i64 r, .int .i64 f] w fun e w' => e = .returned (.bool true) ∧ w = w' := by
  have b1 : (min (hd a + hd b) 1099511627776 == min (hd (hd a) + hd (hd b)) 1099511627776) = true := beq_iff_eq.2 (by rw [hd_hd, hd_hd])
  have b2 : (ml a b == ml (hd a) (hd b)) = true := beq_iff_eq.2 (ml_hd a b).symm
  have b3 : (sn a b == sn (hd a) (hd b)) = true := beq_iff_eq.2 (sn_hd a b).symm
  have b4 : (ml r f == ml (hd r) (hd f)) = true := beq_iff_eq.2 (ml_hd r f).symm
  have b5 : (kp a b r f == kp (hd a) (hd b) (hd r) (hd f)) = true := beq_iff_eq.2 (kp_hd a b r f).symm
  have b6 : (ml a 0 == 0) = true := beq_iff_eq.2 (ml_zero_right a)
  have b7 : (ml a 1 == hd a) = true := beq_iff_eq.2 (ml_one_right a)
  have b8 : (min (hd a + hd 0) 1099511627776 == hd a) = true := beq_iff_eq.2 (ad_zero_right a)
  go_enter Try.func6, Try.ntmps6
  go_wp2_with (first | (go_at_call 20; refine (awake_any _).mono ?_; rintro e w' ⟨rfl, rfl⟩) | (go_at_call 21; refine (add_any _ _ _).mono ?_; rintro e w' ⟨rfl, rfl⟩) | (go_at_call 22; refine (radd_any _ _ _).mono ?_; rintro e w' ⟨rfl, rfl⟩) | (go_at_call 23; refine (mul_any _ _ _).mono ?_; rintro e w' ⟨rfl, rfl⟩) | (go_at_call 24; refine (rmul_any _ _ _).mono ?_; rintro e w' ⟨rfl, rfl⟩) | (go_at_call 25; refine (most_any _ _ _).mono ?_; rintro e w' ⟨rfl, rfl⟩) | (go_at_call 26; refine (since_any _ _ _).mono ?_; rintro e w' ⟨rfl, rfl⟩) | (go_at_call 27; refine (rsince_any _ _ _).mono ?_; rintro e w' ⟨rfl, rfl⟩) | (go_at_call 28; refine (keeps_any _ _ _ _ _).mono ?_; rintro e w' ⟨rfl, rfl⟩) | (go_at_call 29; refine (rkeeps_any _ _ _ _ _).mono ?_; rintro e w' ⟨rfl, rfl⟩) | (go_at_call 30; refine (rheld_any _ _).mono ?_; rintro e w' ⟨rfl, rfl⟩))
  go_ret
  exact ⟨rfl, rfl⟩

theorem policyHeld_walk (w : World) (a0 : Int) (_w0 : (Lit.int .i64 a0).wf = true) (a1 : Int) (_w1 : (Lit.int .i64 a1).wf = true) (a2 : Int) (_w2 : (Lit.int .i64 a2).wf = true) (a3 : Int) (_w3 : (Lit.int .i64 a3).wf = true) :
    Calls Try.prog 6 #[.int .i64 a0, .int .i64 a1, .int .i64 a2, .int .i64 a3] w fun e w' => e = .returned (.bool true) ∧ Below w.heap.size w w' :=
  (lawheld_any a0 a1 a2 a3 w).mono fun _ _ h => ⟨h.1, h.2 ▸ Below.refl _ _⟩
end Go.Proofs.Ytlhbfeddgopfjaa
