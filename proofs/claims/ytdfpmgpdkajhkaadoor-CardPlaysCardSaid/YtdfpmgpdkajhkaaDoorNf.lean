/-
  Plain laws on cards: which card an address has, the list of the places that are set. No condition beyond each theorem's own premises.
-/
import Derived.Test.YtdfpmgpdkajhkaaDoorNe
namespace Go.Proofs.YtdfpmgpdkajhkaaDoor
/-- How many cards. -/
def ncard (fr to : Nat) : Nat := (to - fr + 15) / 16
/-- An address's card; -1: none. -/
def cardI (fr to : Nat) (x : Int) : Int := if (fr : Int) ≤ x ∧ x < to then (x - fr) / 16 else -1
theorem cardI_out {fr to : Nat} {x : Int} (h : ¬ ((fr : Int) ≤ x ∧ x < to)) : cardI fr to x = -1 := by unfold cardI; rw [if_neg h]
theorem cardI_in {fr to : Nat} {x : Int} (h : (fr : Int) ≤ x ∧ x < to) : cardI fr to x = (x - fr) / 16 := by unfold cardI; rw [if_pos h]
theorem cardI_lt {fr to : Nat} {x : Int} (h : (fr : Int) ≤ x ∧ x < to) : 0 ≤ cardI fr to x ∧ cardI fr to x < ncard fr to := by
  rw [cardI_in h]
  unfold ncard
  omega
theorem ncard_le {fr to : Nat} (h : to ≤ 4096) : ncard fr to ≤ 256 := by unfold ncard; omega
theorem newB_neg (n M : Nat) : newB n M (-1) = false := by rw [newB_eq]; simp
theorem setM_neg (n M : Nat) : setM n M (-1) = M := by unfold setM; rw [if_neg (by omega)]
theorem hasB_neg (M : Nat) : hasB M (-1) = false := by unfold hasB; simp
/-- The places that are set, below k. -/
def dl (M : Nat) : Nat → List Nat
  | 0 => []
  | k + 1 => dl M k ++ if M.testBit k = true then [k] else []
theorem dl_len (M : Nat) : ∀ k, (dl M k).length = cnt (fun i => M.testBit i) k
  | 0 => rfl
  | k + 1 => by
    unfold dl cnt
    rw [List.length_append, dl_len M k]
    split <;> rfl
theorem dl_skip {M j k : Nat} (h : j ≤ k) (hf : ∀ i, j ≤ i → i < k → M.testBit i = false) : dl M k = dl M j := by
  induction k with
  | zero => have : j = 0 := by omega
            subst this; rfl
  | succ k ih =>
    by_cases e : j = k + 1
    · subst e; rfl
    · have := ih (by omega) fun i h1 h2 => hf i h1 (by omega)
      conv => lhs; unfold dl
      rw [hf k (by omega) (by omega), this]; simp
theorem dl_next {n M p j : Nat} (hM : M < 2 ^ n) (hz : nextM n M p = (j : Int)) : p ≤ j ∧ j < n ∧ dl M (j + 1) = dl M p ++ [j] := by
  rcases nextM_cases hM (p : Int) with ⟨e, _⟩ | ⟨i, e, j1, j2, j3, q⟩
  · omega
  · have : i = j := by omega
    subst this
    refine ⟨by omega, j2, ?_⟩
    conv => lhs; unfold dl
    rw [dl_skip (j := p) (k := i) (by omega) fun x x1 x2 => q x (by omega) x2, if_pos j3]
theorem dl_end {n M p : Nat} (hp : p ≤ n) (hM : M < 2 ^ n) (hz : nextM n M p < 0) : dl M n = dl M p := by
  rcases nextM_cases hM (p : Int) with ⟨_, q⟩ | ⟨j, e, _⟩
  · exact dl_skip hp fun x x1 x2 => q x (by omega)
  · omega
theorem dl_zero (k : Nat) : dl 0 k = [] := by rw [dl_skip (j := 0) (k := k) (by omega) fun i _ _ => bit_zero i]; rfl
/-- The first addresses of the cards that are set. -/
def allL (fr n M : Nat) : List Int := (dl M n).map fun k : Nat => (fr : Int) + (k : Int) * 16
theorem allL_len (fr n M : Nat) : (allL fr n M).length = popM n M := by unfold allL popM; rw [List.length_map, dl_len]
theorem allL_zero (fr n : Nat) : allL fr n 0 = [] := by unfold allL; rw [dl_zero]; rfl
/-- min(x, 4096), not below f. -/
def plt (f : Nat) (x : Int) : Nat := (if (f : Int) < (if 4096 < x then 4096 else x) then (if 4096 < x then 4096 else x) else (f : Int)).toNat
theorem plt_eq (f : Nat) (x : Int) : (if (f : Int) < (if 4096 < x then 4096 else x) then (if 4096 < x then 4096 else x) else (f : Int)) = (plt f x : Int) := by
  unfold plt
  by_cases h : 4096 < x
  · simp only [if_pos h]; split <;> omega
  · simp only [if_neg h]; split <;> omega
theorem plt_le {f : Nat} (hf : f ≤ 4096) (x : Int) : f ≤ plt f x ∧ plt f x ≤ 4096 := by
  unfold plt
  by_cases h : 4096 < x
  · simp only [if_pos h]; split <;> omega
  · simp only [if_neg h]; split <;> omega
end Go.Proofs.YtdfpmgpdkajhkaaDoor
