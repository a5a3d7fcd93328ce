/-
  Plain laws on cards: taken one after the other. No condition beyond each theorem's own premises.
-/
import Derived.Test.YtdfpmgpdkajhkaaDoorNg
namespace Go.Proofs.YtdfpmgpdkajhkaaDoor
/-- M's places but the first i. -/
def RgIs (M Mi i : Nat) : Prop := ∀ x, Mi.testBit x = (M.testBit x && decide (i ≤ cnt (fun y => M.testBit y) x))
theorem rg_start (M : Nat) : RgIs M M 0 := fun x => by simp
theorem rg_lt {n M Mi i : Nat} (hM : M < 2 ^ n) (h : RgIs M Mi i) : Mi < 2 ^ n := lt_of_bits fun x hx => by rw [h x, bit_ge hM hx]; rfl
/-- There is one of each rank. -/
theorem rank_ex {M : Nat} : ∀ n i, i < cnt (fun y => M.testBit y) n → ∃ j, j < n ∧ M.testBit j = true ∧ cnt (fun y => M.testBit y) j = i
  | 0, i, h => by simp [cnt] at h
  | n + 1, i, h => by
    by_cases hb : M.testBit n = true
    · by_cases e : i = cnt (fun y => M.testBit y) n
      · exact ⟨n, by omega, hb, e.symm⟩
      · rw [cnt_succ_of (P := fun y => M.testBit y) hb] at h
        obtain ⟨j, h1, h2, h3⟩ := rank_ex (M := M) n i (by omega)
        exact ⟨j, by omega, h2, h3⟩
    · have h' : i < cnt (fun y => M.testBit y) n := by
        unfold cnt at h
        simp [hb] at h
        exact h
      obtain ⟨j, h1, h2, h3⟩ := rank_ex (M := M) n i h'
      exact ⟨j, by omega, h2, h3⟩
/-- The next one is the one of rank i; cleared, one less is left. -/
theorem rg_next {n M Mi i j : Nat} (hM : M < 2 ^ n) (h : RgIs M Mi i) (hj : M.testBit j = true) (hr : cnt (fun y => M.testBit y) j = i) : nextM n Mi 0 = (j : Int) ∧ RgIs M (clrM Mi (j : Int)) (i + 1) ∧ hasB (clrM Mi (j : Int)) j = false := by
  have hb : Mi.testBit j = true := by rw [h j, hj, hr]; simp
  refine ⟨nextM_eq (by omega) (rg_lt hM h) hb fun x _ hx => ?_, fun x => ?_, ?_⟩
  · rw [h x]
    by_cases hbx : M.testBit x = true
    · have h1 := cnt_mono (fun y => M.testBit y) (show x + 1 ≤ j by omega)
      rw [cnt_succ_of (P := fun y => M.testBit y) hbx, hr] at h1
      have h2 : ¬ i ≤ cnt (fun y => M.testBit y) x := by omega
      simp [h2]
    · simp at hbx; simp [hbx]
  · rw [clrM_bit, h x]
    by_cases e : (j : Int) = (x : Int)
    · have e' : j = x := by omega
      subst e'
      have h2 : ¬ i + 1 ≤ cnt (fun y => M.testBit y) j := by omega
      simp [h2]
    · by_cases hbx : M.testBit x = true
      · have hne : cnt (fun y => M.testBit y) x ≠ i := fun q => e (by rw [rank_inj hj hbx (by rw [hr, q])])
        have e3 : (i ≤ cnt (fun y => M.testBit y) x) ↔ (i + 1 ≤ cnt (fun y => M.testBit y) x) := by omega
        simp [e, hbx, e3]
      · simp at hbx; simp [hbx]
  · rw [hasB_clr]; simp
/-- None is left. -/
theorem rg_end {n M Mi : Nat} (hM : M < 2 ^ n) (h : RgIs M Mi (popM n M)) : Mi = 0 := by
  apply ext
  intro x
  rw [h x, bit_zero]
  by_cases hbx : M.testBit x = true
  · have h1 := rank_lt hM hbx
    have h2 : ¬ popM n M ≤ cnt (fun y => M.testBit y) x := by omega
    simp [h2]
  · simp at hbx; simp [hbx]
/-- Ranks rise. -/
theorem rank_lt_lt {M x y : Nat} (h : cnt (fun i => M.testBit i) x < cnt (fun i => M.testBit i) y) : x < y := by
  rcases Nat.lt_or_ge x y with q | q
  · exact q
  · have := cnt_mono (fun i => M.testBit i) q
    omega
theorem allL_rank {fr n M i j : Nat} (hM : M < 2 ^ n) (hj : M.testBit j = true) (hr : cnt (fun y => M.testBit y) j = i) : (allL fr n M).getD i 0 = (fr : Int) + (j : Int) * 16 := by
  have hi : i < popM n M := by rw [← hr]; exact rank_lt hM hj
  obtain ⟨j', h1, h2, _, h4⟩ := allL_get (fr := fr) hi
  rw [h1, rank_inj h2 hj (by rw [h4, hr])]
/-- An array of bools, by a function. -/
theorem in_card {fr to : Nat} {o : Int} (h : (fr : Int) ≤ o ∧ o < to) : ∃ c : Nat, cardI fr to o = (c : Int) ∧ c < ncard fr to ∧ (fr : Int) + (c : Int) * 16 ≤ o ∧ o < (fr : Int) + ((c : Int) + 1) * 16 := by
  obtain ⟨h0, h1⟩ := cardI_lt h
  refine ⟨(cardI fr to o).toNat, by omega, by omega, ?_, ?_⟩
  · have := cardI_in h; omega
  · have := cardI_in h; omega
end Go.Proofs.YtdfpmgpdkajhkaaDoor
