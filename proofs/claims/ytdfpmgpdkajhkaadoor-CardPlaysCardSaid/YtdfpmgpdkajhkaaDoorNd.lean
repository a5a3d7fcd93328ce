/-
  Plain laws on bits of natural numbers: all that is set gone through by Next. No condition beyond each theorem's own premises.
-/
import Derived.Test.YtdfpmgpdkajhkaaDoorNc
namespace Go.Proofs.YtdfpmgpdkajhkaaDoor
/-- All below p was gone through: k were set, s of them from a on, below b. -/
def WkAt (n M : Nat) (a b : Int) (p k s : Nat) : Prop :=
  p ≤ n ∧ k = cnt (fun i => M.testBit i) p ∧ s = cnt (fun i => decide (a ≤ (i : Int)) && decide ((i : Int) < b) && M.testBit i) p
theorem wk_start (n M : Nat) (a b : Int) : WkAt n M a b 0 0 0 := ⟨Nat.zero_le _, rfl, rfl⟩
theorem wk_next {n M : Nat} (hM : M < 2 ^ n) {a b : Int} {p k s j : Nat} (h : WkAt n M a b p k s) (hz : nextM n M p = (j : Int)) :
    p ≤ j ∧ j < n ∧ hasB M j = true ∧ k < popM n M ∧ s ≤ k ∧ WkAt n M a b (j + 1) (k + 1) (s + if a ≤ (j : Int) ∧ (j : Int) < b then 1 else 0) := by
  obtain ⟨h1, h2, h3⟩ := h
  rcases nextM_cases hM (p : Int) with ⟨e, _⟩ | ⟨i, e, j1, j2, j3, q⟩
  · omega
  · have : i = j := by omega
    subst this
    have c1 : cnt (fun i => M.testBit i) i = cnt (fun i => M.testBit i) p := cnt_skip (by omega) fun x x1 x2 => q x (by omega) x2
    have c2 : cnt (fun i => decide (a ≤ (i : Int)) && decide ((i : Int) < b) && M.testBit i) i = cnt (fun i => decide (a ≤ (i : Int)) && decide ((i : Int) < b) && M.testBit i) p :=
      cnt_skip (by omega) fun x x1 x2 => by rw [q x (by omega) x2]; simp
    have c3 : cnt (fun i => M.testBit i) (i + 1) = k + 1 := by
      conv => lhs; unfold cnt
      rw [c1, ← h2]; simp [j3]
    refine ⟨by omega, j2, by rw [hasB_nat]; exact j3, ?_, ?_, by omega, c3.symm, ?_⟩
    · have := cnt_mono (fun i => M.testBit i) (show i + 1 ≤ n by omega)
      rw [c3] at this
      exact this
    · rw [h2, h3]
      refine cnt_or p fun x _ hx => ?_
      simp at hx
      exact hx.2
    · conv => rhs; unfold cnt
      rw [c2, ← h3]
      by_cases ha : a ≤ (i : Int) <;> by_cases hb : (i : Int) < b <;> simp [ha, hb, j3]
theorem wk_end {n M : Nat} (hM : M < 2 ^ n) {a b : Int} {p k s : Nat} (h : WkAt n M a b p k s) (hz : nextM n M p < 0) : k = popM n M ∧ s = betM n M a b := by
  obtain ⟨h1, h2, h3⟩ := h
  rcases nextM_cases hM (p : Int) with ⟨_, q⟩ | ⟨j, e, _⟩
  · refine ⟨?_, ?_⟩
    · rw [h2]; exact (cnt_skip h1 fun x x1 x2 => q x (by omega)).symm
    · rw [h3]; exact (cnt_skip h1 fun x x1 x2 => by rw [q x (by omega)]; simp).symm
  · omega
end Go.Proofs.YtdfpmgpdkajhkaaDoor
