/-
  The walk of the law PolicyKeeps: for all int arguments it returns true and leaves the world as it was. No condition.
-/
import Derived.Test.YtlhbfeddgopfjaaPol
namespace Go.Proofs.Ytlhbfeddgopfjaa
open Go.RowKit

theorem kp_of {n l r f : Int} (h : sn n l ≤ ml r f) : kp n l r f = true := decide_eq_true h
theorem kp_at (n r f : Int) : kp n n r f = true := by
  have := ml_range r f
  apply kp_of
  unfold sn; omega
theorem kp_back {n l r f m s g : Int} (h : kp n l r f = true) (hm : m ≤ n) (hs : r ≤ s) (hg : f ≤ g) : kp m l s g = true := by
  unfold kp at h
  have := of_decide_eq_true h
  have k := hd_mono hm
  have j := ml_mono hs hg
  apply kp_of
  unfold sn at *
  omega
theorem kp_early {n l r f : Int} (h : n ≤ l) : kp n l r f = true := kp_back (kp_at l r f) h (Int.le_refl _) (Int.le_refl _)
set_option maxHeartbeats 2000000 in
theorem lawkeeps_any (n l r f m : Int) (w : World) :
    Calls Try.prog 5 #[.int .i64 n, .int .i64 l, .int .i64 r, .int .i64 f, .int .i64 m] w fun e w' => e = .returned (.bool true) ∧ w = w' := by
  have k1 := kp_at n r f
  have k3 := kp_at l r f
  cases hk : kp n l r f
  · by_cases h4 : l < n
    · go_enter Try.func5, Try.ntmps5
      go_wp2_with (first | (go_at_call 20; refine (awake_any _).mono ?_; rintro e w' ⟨rfl, rfl⟩) | (go_at_call 21; refine (add_any _ _ _).mono ?_; rintro e w' ⟨rfl, rfl⟩) | (go_at_call 22; refine (radd_any _ _ _).mono ?_; rintro e w' ⟨rfl, rfl⟩) | (go_at_call 23; refine (mul_any _ _ _).mono ?_; rintro e w' ⟨rfl, rfl⟩) | (go_at_call 24; refine (rmul_any _ _ _).mono ?_; rintro e w' ⟨rfl, rfl⟩) | (go_at_call 25; refine (most_any _ _ _).mono ?_; rintro e w' ⟨rfl, rfl⟩) | (go_at_call 26; refine (since_any _ _ _).mono ?_; rintro e w' ⟨rfl, rfl⟩) | (go_at_call 27; refine (rsince_any _ _ _).mono ?_; rintro e w' ⟨rfl, rfl⟩) | (go_at_call 28; refine (keeps_any _ _ _ _ _).mono ?_; rintro e w' ⟨rfl, rfl⟩) | (go_at_call 29; refine (rkeeps_any _ _ _ _ _).mono ?_; rintro e w' ⟨rfl, rfl⟩))
      all_goals go_ret
      all_goals exact ⟨rfl, rfl⟩
    · exact absurd (kp_early (n := n) (l := l) (by omega)) (by rw [hk]; exact Bool.noConfusion)
  · by_cases h1 : m < n <;> by_cases h2 : r < m <;> by_cases h3 : f < m <;> by_cases h4 : l < n
    all_goals
      try have kk1 := kp_back hk (Int.le_of_lt h1) (Int.le_refl _) (Int.le_refl _)
      try have kk2 := kp_back hk (Int.le_refl _) (Int.le_of_lt h2) (Int.le_refl _)
      try have kk3 := kp_back hk (Int.le_refl _) (Int.le_refl _) (Int.le_of_lt h3)
      go_enter Try.func5, Try.ntmps5
      go_wp2_with (first | (go_at_call 20; refine (awake_any _).mono ?_; rintro e w' ⟨rfl, rfl⟩) | (go_at_call 21; refine (add_any _ _ _).mono ?_; rintro e w' ⟨rfl, rfl⟩) | (go_at_call 22; refine (radd_any _ _ _).mono ?_; rintro e w' ⟨rfl, rfl⟩) | (go_at_call 23; refine (mul_any _ _ _).mono ?_; rintro e w' ⟨rfl, rfl⟩) | (go_at_call 24; refine (rmul_any _ _ _).mono ?_; rintro e w' ⟨rfl, rfl⟩) | (go_at_call 25; refine (most_any _ _ _).mono ?_; rintro e w' ⟨rfl, rfl⟩) | (go_at_call 26; refine (since_any _ _ _).mono ?_; rintro e w' ⟨rfl, rfl⟩) | (go_at_call 27; refine (rsince_any _ _ _).mono ?_; rintro e w' ⟨rfl, rfl⟩) | (go_at_call 28; refine (keeps_any _ _ _ _ _).mono ?_; rintro e w' ⟨rfl, rfl⟩) | (go_at_call 29; refine (rkeeps_any _ _ _ _ _).mono ?_; rintro e w' ⟨rfl, rfl⟩))
      go_ret
      exact ⟨rfl, rfl⟩


theorem policyKeeps_walk (w : World) (a0 : Int) (_w0 : (Lit.int .i64 a0).wf = true) (a1 : Int) (_w1 : (Lit.int .i64 a1).wf = true) (a2 : Int) (_w2 : (Lit.int .i64 a2).wf = true) (a3 : Int) (_w3 : (Lit.int .i64 a3).wf = true) (a4 : Int) (_w4 : (Lit.int .i64 a4).wf = true) :
    Calls Try.prog 5 #[.int .i64 a0, .int .i64 a1, .int .i64 a2, .int .i64 a3, .int .i64 a4] w fun e w' => e = .returned (.bool true) ∧ Below w.heap.size w w' :=
  (lawkeeps_any a0 a1 a2 a3 a4 w).mono fun _ _ h => ⟨h.1, h.2 ▸ Below.refl _ _⟩
end Go.Proofs.Ytlhbfeddgopfjaa
