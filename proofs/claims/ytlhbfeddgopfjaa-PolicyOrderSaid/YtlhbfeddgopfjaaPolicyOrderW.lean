/-
  The walk of the law PolicyOrder: for all int arguments it returns true and leaves the world as it was. No condition.
-/
import Derived.Test.YtlhbfeddgopfjaaPol
namespace Go.Proofs.Ytlhbfeddgopfjaa
open Go.RowKit

/-- A sum that stops at the greatest tick. -/
theorem ad_range (a b : Int) : 0 ≤ min (hd a + hd b) 1099511627776 ∧ min (hd a + hd b) 1099511627776 ≤ 1099511627776 := by
  have ha := hd_range a
  have hb := hd_range b
  omega
set_option maxHeartbeats 1000000 in
theorem order_any (a b c : Int) (w : World) :
    Calls Try.prog 4 #[.int .i64 a, .int .i64 b, .int .i64 c] w fun e w' => e = .returned (.bool true) ∧ w = w' := by
  have ha := hd_range a
  have hb := hd_range b
  have hc := hd_range c
  have e1 : hd (min (hd a + hd b) 1099511627776) = min (hd a + hd b) 1099511627776 := hd_same (by omega) (by omega)
  have e2 : hd (min (hd b + hd c) 1099511627776) = min (hd b + hd c) 1099511627776 := hd_same (by omega) (by omega)
  have b1 : (min (hd a + hd b) 1099511627776 == min (hd b + hd a) 1099511627776) = true := beq_iff_eq.2 (by omega)
  have b2 : (ml a b == ml b a) = true := beq_iff_eq.2 (ml_comm a b)
  have b3 : (min (hd (min (hd a + hd b) 1099511627776) + hd c) 1099511627776 == min (hd a + hd (min (hd b + hd c) 1099511627776)) 1099511627776) = true := beq_iff_eq.2 (by omega)
  clear e1 e2
  have k1 := ml_range a b
  have k2 := ml_range a c
  rcases Int.lt_trichotomy b c with h | h | h
  · have m := ml_mono (Int.le_refl a) (Int.le_of_lt h)
    have n := hd_mono (Int.le_of_lt h)
    have s : sn a c ≤ sn a b := by unfold sn; omega
    go_enter Try.func4, Try.ntmps4
    go_wp2_with (first | (go_at_call 20; refine (awake_any _).mono ?_; rintro e w' ⟨rfl, rfl⟩) | (go_at_call 21; refine (add_any _ _ _).mono ?_; rintro e w' ⟨rfl, rfl⟩) | (go_at_call 22; refine (radd_any _ _ _).mono ?_; rintro e w' ⟨rfl, rfl⟩) | (go_at_call 23; refine (mul_any _ _ _).mono ?_; rintro e w' ⟨rfl, rfl⟩) | (go_at_call 24; refine (rmul_any _ _ _).mono ?_; rintro e w' ⟨rfl, rfl⟩) | (go_at_call 25; refine (most_any _ _ _).mono ?_; rintro e w' ⟨rfl, rfl⟩) | (go_at_call 26; refine (since_any _ _ _).mono ?_; rintro e w' ⟨rfl, rfl⟩) | (go_at_call 27; refine (rsince_any _ _ _).mono ?_; rintro e w' ⟨rfl, rfl⟩) | (go_at_call 28; refine (keeps_any _ _ _ _ _).mono ?_; rintro e w' ⟨rfl, rfl⟩) | (go_at_call 29; refine (rkeeps_any _ _ _ _ _).mono ?_; rintro e w' ⟨rfl, rfl⟩) | (go_at_call 30; refine (rheld_any _ _).mono ?_; rintro e w' ⟨rfl, rfl⟩))
    go_ret
    exact ⟨rfl, rfl⟩
  · subst h
    go_enter Try.func4, Try.ntmps4
    go_wp2_with (first | (go_at_call 20; refine (awake_any _).mono ?_; rintro e w' ⟨rfl, rfl⟩) | (go_at_call 21; refine (add_any _ _ _).mono ?_; rintro e w' ⟨rfl, rfl⟩) | (go_at_call 22; refine (radd_any _ _ _).mono ?_; rintro e w' ⟨rfl, rfl⟩) | (go_at_call 23; refine (mul_any _ _ _).mono ?_; rintro e w' ⟨rfl, rfl⟩) | (go_at_call 24; refine (rmul_any _ _ _).mono ?_; rintro e w' ⟨rfl, rfl⟩) | (go_at_call 25; refine (most_any _ _ _).mono ?_; rintro e w' ⟨rfl, rfl⟩) | (go_at_call 26; refine (since_any _ _ _).mono ?_; rintro e w' ⟨rfl, rfl⟩) | (go_at_call 27; refine (rsince_any _ _ _).mono ?_; rintro e w' ⟨rfl, rfl⟩) | (go_at_call 28; refine (keeps_any _ _ _ _ _).mono ?_; rintro e w' ⟨rfl, rfl⟩) | (go_at_call 29; refine (rkeeps_any _ _ _ _ _).mono ?_; rintro e w' ⟨rfl, rfl⟩) | (go_at_call 30; refine (rheld_any _ _).mono ?_; rintro e w' ⟨rfl, rfl⟩))
    go_ret
    exact ⟨rfl, rfl⟩
  · have m := ml_mono (Int.le_refl a) (Int.le_of_lt h)
    have n := hd_mono (Int.le_of_lt h)
    have s : sn a b ≤ sn a c := by unfold sn; omega
    go_enter Try.func4, Try.ntmps4
    go_wp2_with (first | (go_at_call 20; refine (awake_any _).mono ?_; rintro e w' ⟨rfl, rfl⟩) | (go_at_call 21; refine (add_any _ _ _).mono ?_; rintro e w' ⟨rfl, rfl⟩) | (go_at_call 22; refine (radd_any _ _ _).mono ?_; rintro e w' ⟨rfl, rfl⟩) | (go_at_call 23; refine (mul_any _ _ _).mono ?_; rintro e w' ⟨rfl, rfl⟩) | (go_at_call 24; refine (rmul_any _ _ _).mono ?_; rintro e w' ⟨rfl, rfl⟩) | (go_at_call 25; refine (most_any _ _ _).mono ?_; rintro e w' ⟨rfl, rfl⟩) | (go_at_call 26; refine (since_any _ _ _).mono ?_; rintro e w' ⟨rfl, rfl⟩) | (go_at_call 27; refine (rsince_any _ _ _).mono ?_; rintro e w' ⟨rfl, rfl⟩) | (go_at_call 28; refine (keeps_any _ _ _ _ _).mono ?_; rintro e w' ⟨rfl, rfl⟩) | (go_at_call 29; refine (rkeeps_any _ _ _ _ _).mono ?_; rintro e w' ⟨rfl, rfl⟩) | (go_at_call 30; refine (rheld_any _ _).mono ?_; rintro e w' ⟨rfl, rfl⟩))
    go_ret
    exact ⟨rfl, rfl⟩

theorem policyOrder_walk (w : World) (a0 : Int) (_w0 : (Lit.int .i64 a0).wf = true) (a1 : Int) (_w1 : (Lit.int .i64 a1).wf = true) (a2 : Int) (_w2 : (Lit.int .i64 a2).wf = true) :
    Calls Try.prog 4 #[.int .i64 a0, .int .i64 a1, .int .i64 a2] w fun e w' => e = .returned (.bool true) ∧ Below w.heap.size w w' :=
  (order_any a0 a1 a2 w).mono fun _ _ h => ⟨h.1, h.2 ▸ Below.refl _ _⟩
end Go.Proofs.Ytlhbfeddgopfjaa
