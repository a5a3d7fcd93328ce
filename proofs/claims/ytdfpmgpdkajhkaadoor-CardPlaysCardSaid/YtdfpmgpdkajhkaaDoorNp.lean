/-
  Plain laws on the list of the places that are set: one more, the first one less. No condition beyond each theorem's own premises.
-/
import Derived.Test.YtdfpmgpdkajhkaaDoorNf
namespace Go.Proofs.YtdfpmgpdkajhkaaDoor
/-- The bits of M from c on, k of them looked at. -/
def ur (M c : Nat) : Nat → List Nat
  | 0 => []
  | k + 1 => ur M c k ++ if M.testBit (c + k) = true then [c + k] else []
theorem dl_ur (M c : Nat) : ∀ k, dl M (c + k) = dl M c ++ ur M c k
  | 0 => by simp [ur]
  | k + 1 => by
    rw [← Nat.add_assoc]
    show dl M (c + k) ++ _ = _
    rw [dl_ur M c k, List.append_assoc]
    rfl
theorem dl_mem {M x : Nat} : ∀ {k}, x ∈ dl M k ↔ x < k ∧ M.testBit x = true
  | 0 => by simp [dl]
  | k + 1 => by
    show x ∈ dl M k ++ _ ↔ _
    rw [List.mem_append, dl_mem]
    by_cases hb : M.testBit k = true
    · rw [if_pos hb, List.mem_singleton]
      constructor
      · rintro (⟨h1, h2⟩ | rfl)
        · exact ⟨by omega, h2⟩
        · exact ⟨by omega, hb⟩
      · rintro ⟨h1, h2⟩
        by_cases e : x = k
        · exact .inr e
        · exact .inl ⟨by omega, h2⟩
    · rw [if_neg hb]
      constructor
      · rintro (⟨h1, h2⟩ | h)
        · exact ⟨by omega, h2⟩
        · cases h
      · rintro ⟨h1, h2⟩
        by_cases e : x = k
        · rw [e] at h2; exact absurd h2 hb
        · exact .inl ⟨by omega, h2⟩
theorem ur_ge {M c x : Nat} : ∀ {k}, x ∈ ur M c k → c ≤ x
  | 0, h => by cases h
  | k + 1, h => by
    have h : x ∈ ur M c k ++ (if M.testBit (c + k) = true then [c + k] else []) := h
    rw [List.mem_append] at h
    rcases h with h | h
    · exact ur_ge h
    · split at h
      · simp at h; omega
      · cases h
theorem dl_congr {M M' : Nat} : ∀ k, (∀ i, i < k → M.testBit i = M'.testBit i) → dl M k = dl M' k
  | 0, _ => rfl
  | k + 1, h => by
    show dl M k ++ _ = dl M' k ++ _
    rw [dl_congr k fun i hi => h i (by omega), h k (by omega)]
theorem ur_congr {M M' c : Nat} : ∀ k, (∀ i, c ≤ i → M.testBit i = M'.testBit i) → ur M c k = ur M' c k
  | 0, _ => rfl
  | k + 1, h => by
    show ur M c k ++ _ = ur M' c k ++ _
    rw [ur_congr k h, h (c + k) (by omega)]
theorem all_mem {fr n M : Nat} {x : Int} : x ∈ allL fr n M ↔ ∃ c : Nat, x = (fr : Int) + (c : Int) * 16 ∧ c < n ∧ M.testBit c = true := by
  unfold allL
  rw [List.mem_map]
  constructor
  · rintro ⟨c, h, rfl⟩
    exact ⟨c, rfl, (dl_mem.1 h).1, (dl_mem.1 h).2⟩
  · rintro ⟨c, rfl, h1, h2⟩
    exact ⟨c, dl_mem.2 ⟨h1, h2⟩, rfl⟩
theorem all_touch {fr n M c : Nat} (hc : c < n) (hb : M.testBit c = false) : ∃ P S : List Int, allL fr n M = P ++ S ∧ allL fr n (sb M c) = P ++ [(fr : Int) + (c : Int) * 16] ++ S ∧ (∀ x ∈ P, x < (fr : Int) + (c : Int) * 16) ∧ (∀ x ∈ S, (fr : Int) + (c : Int) * 16 < x) := by
  obtain ⟨j, rfl⟩ : ∃ j, n = c + 1 + j := ⟨n - (c + 1), by omega⟩
  have hs : (sb M c).testBit c = true := by rw [sb_bit]; simp
  have e1 : dl M (c + 1) = dl M c := by show dl M c ++ _ = _; rw [hb]; simp
  have e2 : dl (sb M c) (c + 1) = dl M c ++ [c] := by
    show dl (sb M c) c ++ _ = _
    rw [hs, if_pos rfl, dl_congr (M' := M) c fun i hi => by rw [sb_bit]; simp; omega]
  have e3 : ur (sb M c) (c + 1) j = ur M (c + 1) j := ur_congr j fun i hi => by rw [sb_bit]; simp; omega
  refine ⟨(dl M c).map fun k : Nat => (fr : Int) + (k : Int) * 16, (ur M (c + 1) j).map fun k : Nat => (fr : Int) + (k : Int) * 16, ?_, ?_, ?_, ?_⟩
  · unfold allL; rw [dl_ur, e1, List.map_append]
  · unfold allL; rw [dl_ur, e2, e3, List.map_append, List.map_append]; rfl
  · intro x hx
    obtain ⟨k, hk, rfl⟩ := List.mem_map.1 hx
    have := (dl_mem.1 hk).1
    omega
  · intro x hx
    obtain ⟨k, hk, rfl⟩ := List.mem_map.1 hx
    have := ur_ge hk
    omega
theorem all_take {fr n M k : Nat} (hM : M < 2 ^ n) (hz : nextM n M 0 = (k : Int)) : ∃ S : List Int, allL fr n M = ((fr : Int) + (k : Int) * 16) :: S ∧ allL fr n (clrM M k) = S := by
  obtain ⟨_, hk, hd⟩ := dl_next hM hz
  obtain ⟨j, rfl⟩ : ∃ j, n = k + 1 + j := ⟨n - (k + 1), by omega⟩
  have e1 : dl M (k + 1) = [k] := by rw [hd]; rfl
  have hb : ∀ i, i < k → M.testBit i = false := fun i hi => by
    cases e : M.testBit i
    · rfl
    · have : i ∈ dl M (k + 1) := dl_mem.2 ⟨by omega, e⟩
      rw [e1] at this
      simp at this
      omega
  have hc : ∀ i, (clrM M (k : Int)).testBit i = (M.testBit i && !decide (i = k)) := fun i => by rw [clrM_bit, show decide ((k : Int) = (i : Int)) = decide (i = k) by rw [decide_eq_decide]; omega]
  have e2 : dl (clrM M (k : Int)) (k + 1) = [] := by
    rw [dl_skip (j := 0) (by omega) fun i _ hi => by
      rw [hc]
      by_cases e : i = k
      · simp [e]
      · rw [hb i (by omega)]; rfl]
    rfl
  have e3 : ur (clrM M (k : Int)) (k + 1) j = ur M (k + 1) j := ur_congr j fun i hi => by
    rw [hc]
    have : i ≠ k := by omega
    simp [this]
  refine ⟨(ur M (k + 1) j).map fun k : Nat => (fr : Int) + (k : Int) * 16, ?_, ?_⟩
  · unfold allL; rw [dl_ur, e1, List.map_append]; rfl
  · unfold allL; rw [dl_ur, e2, e3]; rfl
/-- The address that a list of cards holds for the address x. -/
def qk (fr to : Nat) (x : Int) : Int := if (fr : Int) ≤ x ∧ x < to then x - (x - fr) % 16 else -1
theorem qk_card {fr to : Nat} (x : Int) : (qk fr to x = -1 ∧ cardI fr to x = -1) ∨ ∃ c : Nat, qk fr to x = (fr : Int) + (c : Int) * 16 ∧ cardI fr to x = (c : Int) ∧ c < ncard fr to := by
  by_cases h : (fr : Int) ≤ x ∧ x < to
  · have h1 := cardI_lt h
    right
    rw [cardI_in h] at h1 ⊢
    refine ⟨((x - fr) / 16).toNat, ?_, by omega, by omega⟩
    unfold qk
    rw [if_pos h]
    omega
  · left
    unfold qk
    rw [if_neg h, cardI_out h]
    exact ⟨rfl, rfl⟩
theorem qk_mem {fr to M : Nat} (x : Int) : hasB M (cardI fr to x) = true ∧ (cardI fr to x) < (ncard fr to : Nat) ↔ qk fr to x ∈ allL fr (ncard fr to) M := by
  rw [all_mem]
  rcases qk_card (fr := fr) (to := to) x with ⟨e1, e2⟩ | ⟨c, e1, e2, hc⟩
  · rw [e1, e2, hasB_neg]
    constructor
    · rintro ⟨h, _⟩; cases h
    · rintro ⟨c, h, _⟩; omega
  · rw [e1, e2, hasB_nat]
    constructor
    · rintro ⟨h, _⟩
      exact ⟨c, rfl, hc, h⟩
    · rintro ⟨c', h, h1, h2⟩
      have : c' = c := by omega
      rw [this] at h2
      exact ⟨h2, by omega⟩
end Go.Proofs.YtdfpmgpdkajhkaaDoor
