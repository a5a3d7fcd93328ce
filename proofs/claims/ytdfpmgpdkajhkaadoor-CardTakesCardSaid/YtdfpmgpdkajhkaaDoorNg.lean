/-
  Plain laws on cards: touched one after the other, in whatever order; the list of the dirty ones, and touched anew from it. No condition beyond each theorem's own premises.
-/
import Derived.Test.YtdfpmgpdkajhkaaDoorNf
namespace Go.Proofs.YtdfpmgpdkajhkaaDoor
/-- The places f 0, .., f (k - 1) set, of n. -/
def addF (n : Nat) (f : Nat → Int) : Nat → Nat
  | 0 => 0
  | k + 1 => setM n (addF n f k) (f k)
theorem addF_lt (n : Nat) (f : Nat → Int) : ∀ k, addF n f k < 2 ^ n
  | 0 => Nat.pow_pos (by decide)
  | k + 1 => setM_lt (addF_lt n f k) _
theorem addF_bit (n : Nat) (f : Nat → Int) : ∀ k i, (addF n f k).testBit i = true ↔ ∃ j, j < k ∧ f j = (i : Int) ∧ i < n
  | 0, i => by
    show (0 : Nat).testBit i = true ↔ _
    rw [bit_zero]
    exact ⟨fun h => (by cases h), fun ⟨j, h, _⟩ => (by omega)⟩
  | k + 1, i => by
    show (setM n (addF n f k) (f k)).testBit i = true ↔ _
    rw [setM_bit]
    simp only [Bool.or_eq_true, Bool.and_eq_true, decide_eq_true_eq]
    rw [addF_bit n f k i]
    constructor
    · rintro (⟨j, h1, h2, h3⟩ | ⟨h1, h2⟩)
      · exact ⟨j, by omega, h2, h3⟩
      · exact ⟨k, by omega, h1, h2⟩
    · rintro ⟨j, h1, h2, h3⟩
      by_cases e : j = k
      · subst e; exact .inr ⟨h2, h3⟩
      · exact .inl ⟨j, by omega, h2, h3⟩
theorem addF_rev (n : Nat) (f : Nat → Int) (k : Nat) : addF n (fun j => f (k - 1 - j)) k = addF n f k := by
  apply ext
  intro i
  rw [Bool.eq_iff_iff, addF_bit, addF_bit]
  constructor
  · rintro ⟨j, h1, h2, h3⟩
    exact ⟨k - 1 - j, by omega, h2, h3⟩
  · rintro ⟨j, h1, h2, h3⟩
    exact ⟨k - 1 - j, by omega, by rw [show k - 1 - (k - 1 - j) = j by omega]; exact h2, h3⟩
theorem cnt_succ_of {P : Nat → Bool} {x : Nat} (h : P x = true) : cnt P (x + 1) = cnt P x + 1 := by
  conv => lhs; unfold cnt
  simp [h]
/-- Two that are set, of one rank, are one. -/
theorem rank_inj {M x y : Nat} (hx : M.testBit x = true) (hy : M.testBit y = true) (h : cnt (fun i => M.testBit i) x = cnt (fun i => M.testBit i) y) : x = y := by
  rcases Nat.lt_trichotomy x y with q | q | q
  · have h1 := cnt_mono (fun i => M.testBit i) (show x + 1 ≤ y by omega)
    rw [cnt_succ_of (P := fun i => M.testBit i) hx] at h1
    omega
  · exact q
  · have h1 := cnt_mono (fun i => M.testBit i) (show y + 1 ≤ x by omega)
    rw [cnt_succ_of (P := fun i => M.testBit i) hy] at h1
    omega
theorem rank_lt {n M x : Nat} (hM : M < 2 ^ n) (hx : M.testBit x = true) : cnt (fun i => M.testBit i) x < popM n M := by
  have h1 := cnt_mono (fun i => M.testBit i) (show x + 1 ≤ n from bit_lt hM hx)
  rw [cnt_succ_of (P := fun i => M.testBit i) hx] at h1
  exact h1
/-- The list's element i is the one of rank i. -/
theorem dl_get (M : Nat) : ∀ n i, i < (dl M n).length → M.testBit ((dl M n).getD i 0) = true ∧ (dl M n).getD i 0 < n ∧ cnt (fun x => M.testBit x) ((dl M n).getD i 0) = i
  | 0, i, h => by simp [dl] at h
  | n + 1, i, h => by
    unfold dl at h ⊢
    by_cases hb : M.testBit n = true
    · rw [if_pos hb] at h ⊢
      rw [List.length_append] at h
      simp at h
      by_cases e : i < (dl M n).length
      · obtain ⟨h1, h2, h3⟩ := dl_get M n i e
        have e1 : (dl M n ++ [n]).getD i 0 = (dl M n).getD i 0 := by
          rw [List.getD_eq_getElem?_getD, List.getElem?_append_left e, List.getD_eq_getElem?_getD]
        rw [e1]
        exact ⟨h1, by omega, h3⟩
      · have e2 : i = (dl M n).length := by omega
        have e1 : (dl M n ++ [n]).getD i 0 = n := by
          rw [List.getD_eq_getElem?_getD, List.getElem?_append_right (by omega), e2]; simp
        rw [e1]
        exact ⟨hb, by omega, by rw [e2, dl_len]⟩
    · rw [if_neg hb] at h ⊢
      simp only [List.append_nil] at h ⊢
      obtain ⟨h1, h2, h3⟩ := dl_get M n i h
      exact ⟨h1, by omega, h3⟩
theorem allL_get {fr n M i : Nat} (hi : i < popM n M) : ∃ j : Nat, (allL fr n M).getD i 0 = (fr : Int) + (j : Int) * 16 ∧ M.testBit j = true ∧ j < n ∧ cnt (fun x => M.testBit x) j = i := by
  have hl : i < (dl M n).length := by rw [dl_len]; exact hi
  obtain ⟨h1, h2, h3⟩ := dl_get M n i hl
  refine ⟨(dl M n).getD i 0, ?_, h1, h2, h3⟩
  unfold allL
  rw [List.getD_eq_getElem?_getD, List.getElem?_map, List.getElem?_eq_getElem hl, List.getD_eq_getElem?_getD, List.getElem?_eq_getElem hl]
  rfl
theorem card_first {fr to j : Nat} (hj : j < ncard fr to) : cardI fr to ((fr : Int) + (j : Int) * 16) = j := by
  unfold ncard at hj
  rw [cardI_in (by omega)]
  omega
/-- The first i of M's places, and no others. -/
def RkIs (M Mi i : Nat) : Prop := ∀ x, Mi.testBit x = (M.testBit x && decide (cnt (fun y => M.testBit y) x < i))
theorem rk_start (M : Nat) : RkIs M 0 0 := fun x => by simp
theorem rk_step {n M Mi i j : Nat} (h : RkIs M Mi i) (hj : M.testBit j = true) (hn : j < n) (hr : cnt (fun y => M.testBit y) j = i) : newB n Mi j = true ∧ hasB Mi j = false ∧ RkIs M (setM n Mi j) (i + 1) := by
  have hb : Mi.testBit j = false := by rw [h j, hr]; simp
  refine ⟨?_, by rw [hasB_nat]; exact hb, fun x => ?_⟩
  · unfold newB
    simp [hb, hn]
  · rw [setM_bit, h x]
    by_cases e : (j : Int) = (x : Int)
    · have e' : j = x := by omega
      subst e'
      simp [hj, hn, hr]
    · by_cases hx : M.testBit x = true
      · have hne : cnt (fun y => M.testBit y) x ≠ i := fun q => e (by rw [rank_inj hj hx (by rw [hr, q])])
        have e3 : (cnt (fun y => M.testBit y) x < i) ↔ (cnt (fun y => M.testBit y) x < i + 1) := by omega
        simp [e, hx, e3]
      · simp at hx
        simp [e, hx]
theorem rk_end {n M Mi : Nat} (hM : M < 2 ^ n) (h : RkIs M Mi (popM n M)) : Mi = M := by
  apply ext
  intro x
  rw [h x]
  by_cases hx : M.testBit x = true
  · simp [hx, rank_lt hM hx]
  · simp at hx; simp [hx]
end Go.Proofs.YtdfpmgpdkajhkaaDoor
