/-
  Plain laws on bits of natural numbers: places that are set one after the other. No condition beyond each theorem's own premises.
-/
import Derived.Test.YtdfpmgpdkajhkaaDoorNb
namespace Go.Proofs.YtdfpmgpdkajhkaaDoor
/-- The first k of the numbers zs set, of n places. -/
def adds (n : Nat) (zs : List Int) : Nat → Nat
  | 0 => 0
  | k + 1 => setM n (adds n zs k) (zs.getD k 0)
theorem adds_lt (n : Nat) (zs : List Int) : ∀ k, adds n zs k < 2 ^ n
  | 0 => Nat.pow_pos (by decide)
  | k + 1 => setM_lt (adds_lt n zs k) _
theorem popM_set (n M : Nat) (x : Int) : popM n (setM n M x) = popM n M + if newB n M x = true then 1 else 0 := by
  cases h : newB n M x
  · rw [setM_old h]; rfl
  · rw [popM_new h]; rfl
theorem adds_pop (n : Nat) (zs : List Int) : ∀ k, popM n (adds n zs k) ≤ k
  | 0 => by show popM n 0 ≤ 0; rw [popM_zero]; exact Nat.le_refl _
  | k + 1 => by
    show popM n (setM n (adds n zs k) (zs.getD k 0)) ≤ k + 1
    rw [popM_set]
    have := adds_pop n zs k
    split <;> omega
theorem adds_has (n : Nat) (zs : List Int) : ∀ k j, j < k → 0 ≤ zs.getD j 0 → hasB (adds n zs k) (zs.getD j 0) = decide (zs.getD j 0 < n)
  | 0, j, h, _ => by omega
  | k + 1, j, h, h0 => by
    show hasB (setM n (adds n zs k) (zs.getD k 0)) (zs.getD j 0) = _
    rw [hasB_set]
    by_cases e : j = k
    · subst e
      by_cases hn : zs.getD j 0 < (n : Int)
      · simp only [decide_true, h0, hn, Bool.and_self, Bool.or_true]
      · rw [hasB_out (adds_lt n zs j) (by omega)]
        simp only [hn, decide_false, Bool.and_false, Bool.or_self]
    · rw [adds_has n zs k j (by omega) h0]
      by_cases hn : zs.getD j 0 < (n : Int)
      · simp only [hn, decide_true, Bool.true_or]
      · simp only [hn, decide_false, Bool.and_false, Bool.or_self]
theorem betM_split {n M : Nat} {x y z : Int} (h1 : x ≤ y) (h2 : y ≤ z) : betM n M x z = betM n M x y + betM n M y z := by
  unfold betM
  refine cnt_add n (fun i _ => ?_) fun i _ => ?_
  · by_cases a : x ≤ (i : Int) <;> by_cases b : (i : Int) < y <;> by_cases c : y ≤ (i : Int) <;> by_cases d : (i : Int) < z <;> simp [a, b, c, d] <;> omega
  · by_cases b : (i : Int) < y
    · have c : ¬ y ≤ (i : Int) := by omega
      simp [c]
    · simp [b]
theorem betM_empty {n M : Nat} {x y : Int} (h : y ≤ x) : betM n M x y = 0 := by
  unfold betM
  refine cnt_none fun i _ => ?_
  by_cases b : (i : Int) < y
  · have c : ¬ x ≤ (i : Int) := by omega
    simp [c]
  · simp [b]
theorem betM_first {n M k : Nat} (hM : M < 2 ^ n) (h : nextM n M 0 = (k : Int)) : betM n M 0 k = 0 ∧ hasB M k = true := by
  rcases nextM_cases hM 0 with ⟨e, _⟩ | ⟨j, e, j1, j2, j3, q⟩
  · omega
  · have : j = k := by omega
    subst this
    refine ⟨cnt_none fun i _ => ?_, by rw [hasB_nat]; exact j3⟩
    by_cases b : (i : Int) < (j : Int)
    · rw [q i (by omega) (by omega)]; simp
    · simp [b]
end Go.Proofs.YtdfpmgpdkajhkaaDoor
