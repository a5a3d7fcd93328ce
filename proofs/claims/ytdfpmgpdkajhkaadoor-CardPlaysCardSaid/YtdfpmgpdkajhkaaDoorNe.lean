/-
  Plain laws on bits of natural numbers: places newly set one after the other, and cleared again backwards. No condition beyond each theorem's own premises.
-/
import Derived.Test.YtdfpmgpdkajhkaaDoorNd
namespace Go.Proofs.YtdfpmgpdkajhkaaDoor
/-- From M0 on the places of r, the last one first, were newly set. -/
def ChR (n M0 : Nat) : List Int → Nat → Prop
  | [], M => M = M0
  | y :: r, M => ∃ M', ChR n M0 r M' ∧ newB n M' y = true ∧ M = setM n M' y
theorem chr_pop {n M0 : Nat} : ∀ (r : List Int) (M : Nat), ChR n M0 r M → popM n M = popM n M0 + r.length
  | [], M, h => by rw [show M = M0 from h]; rfl
  | y :: r, M, ⟨M', h1, h2, h3⟩ => by rw [h3, popM_new h2, chr_pop r M' h1]; simp; omega
theorem chr_lt {n M0 : Nat} (h0 : M0 < 2 ^ n) : ∀ (r : List Int) (M : Nat), ChR n M0 r M → M < 2 ^ n
  | [], M, h => by rw [show M = M0 from h]; exact h0
  | y :: r, M, ⟨M', h1, h2, h3⟩ => by rw [h3]; exact setM_lt (chr_lt h0 r M' h1) _
theorem newB_in {n M : Nat} {y : Int} (h : newB n M y = true) : 0 ≤ y ∧ y < n := by
  rw [newB_eq] at h; simp at h; exact h.1
theorem clr_set {n M : Nat} {y : Int} (h : newB n M y = true) : clrM (setM n M y) y = M := by
  apply ext
  intro i
  rw [clrM_bit, setM_bit]
  have h1 := newB_in h
  by_cases e : y = (i : Int)
  · subst e
    unfold newB at h
    simp at h
    simp [h.2]
  · simp [e]
theorem has_set {n M : Nat} {y : Int} (h : newB n M y = true) : hasB (setM n M y) y = true := by
  have h1 := newB_in h
  rw [hasB_set]
  simp [h1]
theorem chr_undo {n M0 : Nat} {y : Int} {r : List Int} {M : Nat} (h : ChR n M0 (y :: r) M) : hasB M y = true ∧ ChR n M0 r (clrM M y) := by
  obtain ⟨M', h1, h2, h3⟩ := h
  subst h3
  exact ⟨has_set h2, by rw [clr_set h2]; exact h1⟩
theorem chr_at {n M0 : Nat} {r : List Int} {M i : Nat} (h : ChR n M0 (r.drop i) M) (hi : i < r.length) : hasB M (r.getD i 0) = true ∧ ChR n M0 (r.drop (i + 1)) (clrM M (r.getD i 0)) := by
  rw [List.drop_eq_getElem_cons hi] at h
  have e : r.getD i 0 = r[i] := by rw [List.getD_eq_getElem?_getD, List.getElem?_eq_getElem hi]; rfl
  rw [e]
  exact chr_undo h
theorem rev_getD {r : List Int} {i : Nat} (hi : i < r.length) : r.reverse.getD (r.length - 1 - i) 0 = r.getD i 0 := by
  rw [List.getD_eq_getElem?_getD, List.getD_eq_getElem?_getD, List.getElem?_reverse (by omega)]
  have e : r.length - 1 - (r.length - 1 - i) = i := by omega
  rw [e]
end Go.Proofs.YtdfpmgpdkajhkaaDoor
