/-
  The law SpaceSplits: what the two Splits compute, in plain Lean, and what their lists look like in memory. No condition.
-/
import Derived.Test.YtlhbfeddgopfjaaPSpaceSplitsx2
import Derived.Test.YtlhbfeddgopfjaaSpd
namespace Go.Proofs.Ytlhbfeddgopfjaa
open Go.RowKit Go.Proofs.Ytlhbfeddgopfjaa.PSpaceSplits Go.Proofs.YtlhbfeddgopfjaaW.PrintWords Go.Proofs.YtlhbfeddgopfjaaW.PrintLast

theorem spWrap {n : Int} (h0 : -9223372036854775808 ≤ n) (h1 : n ≤ 9223372036854775807) : wrap64 n = n := by
  unfold wrap64; omega
/-- The sum of the first 'i' sizes. -/
def spSum (zs : List Int) : Nat → Int
  | 0 => 0
  | i + 1 => spSum zs i + zs.getD i 0
theorem spSum_succ (zs : List Int) (i : Nat) : spSum zs (i + 1) = spSum zs i + zs.getD i 0 := rfl
/-- The first 'i' spaces. -/
def spP (a : Int) (zs : List Int) : Nat → List S31
  | 0 => []
  | i + 1 => spP a zs i ++ [⟨a + spSum zs i, a + spSum zs i, a + spSum zs (i + 1)⟩]
def spQ (a : Int) (zs : List Int) : Nat → List S58
  | 0 => []
  | i + 1 => spQ a zs i ++ [⟨a + spSum zs i, a + spSum zs i, a + spSum zs (i + 1)⟩]
theorem spP_len (a : Int) (zs : List Int) : ∀ i, (spP a zs i).length = i
  | 0 => rfl
  | i + 1 => by simp [spP, spP_len a zs i]
theorem spQ_len (a : Int) (zs : List Int) : ∀ i, (spQ a zs i).length = i
  | 0 => rfl
  | i + 1 => by simp [spQ, spQ_len a zs i]
theorem spP_at (a : Int) (zs : List Int) : ∀ i j, j < i → (spP a zs i).getD j z31 = ⟨a + spSum zs j, a + spSum zs j, a + spSum zs (j + 1)⟩
  | 0, j, h => by omega
  | i + 1, j, h => by
    have ih := spP_at a zs i j
    have hl := spP_len a zs i
    simp only [spP, List.getD_eq_getElem?_getD] at ih ⊢
    by_cases e : j < i
    · rw [List.getElem?_append_left (by omega)]; exact ih e
    · obtain rfl : j = i := by omega
      rw [List.getElem?_append_right (by omega)]
      simp [hl]
theorem spQ_at (a : Int) (zs : List Int) : ∀ i j, j < i → (spQ a zs i).getD j z58 = ⟨a + spSum zs j, a + spSum zs j, a + spSum zs (j + 1)⟩
  | 0, j, h => by omega
  | i + 1, j, h => by
    have ih := spQ_at a zs i j
    have hl := spQ_len a zs i
    simp only [spQ, List.getD_eq_getElem?_getD] at ih ⊢
    by_cases e : j < i
    · rw [List.getElem?_append_left (by omega)]; exact ih e
    · obtain rfl : j = i := by omega
      rw [List.getElem?_append_right (by omega)]
      simp [hl]
theorem spNew {a z : Int} (a0 : 0 ≤ a) (z0 : 0 ≤ z) (h : a + z ≤ 4096) : space_New.f a z = some (a, a, a + z, 0) ∧ gleaningref02_New.f a z = some (a, a, a + z, 0) := by
  have e1 : wrap64 (4096 - a) = 4096 - a := spWrap (by omega) (by omega)
  have e2 : wrap64 (a + z) = a + z := spWrap (by omega) (by omega)
  unfold space_New.f gleaningref02_New.f
  rw [if_neg (by omega), if_neg (by omega), if_neg (by omega), e1, if_neg (by omega), e2]
  exact ⟨rfl, rfl⟩
theorem spOld {a z : Int} (h : ¬ (0 ≤ a ∧ 0 ≤ z ∧ a + z ≤ 4096)) : space_New.f a z = some (0, 0, 0, 1) ∧ gleaningref02_New.f a z = some (0, 0, 0, 1) := by
  unfold space_New.f gleaningref02_New.f
  by_cases c1 : a < 0
  · rw [if_pos c1]; exact ⟨rfl, rfl⟩
  · rw [if_neg c1]
    by_cases c2 : z < 0
    · rw [if_pos c2]; exact ⟨rfl, rfl⟩
    · rw [if_neg c2]
      by_cases c3 : a > 4096
      · rw [if_pos c3]; exact ⟨rfl, rfl⟩
      · rw [if_neg c3, spWrap (by omega) (by omega), if_pos (by omega)]; exact ⟨rfl, rfl⟩
/-- All 'n' spaces fit. -/
def spFit (a : Int) (zs : List Int) (n : Nat) : Prop := ∀ j, j < n → 0 ≤ a + spSum zs j ∧ 0 ≤ zs.getD j 0 ∧ a + spSum zs (j + 1) ≤ 4096
/-- The two Splits answer alike. -/
theorem spGo {a : Int} {zs : List Int} (hn : zs.length ≤ 200) :
    ∀ d i k, zs.length = i + d → d < k → spFit a zs i →
      (space_Split.l0 k (a + spSum zs i) (spP a zs i) zs zs.length i = some (spP a zs zs.length, 0) ∧ gleaningref02_Split.l0 k (a + spSum zs i) zs (spQ a zs i) zs.length i = some (spQ a zs zs.length, 0) ∧ spFit a zs zs.length) ∨
      (space_Split.l0 k (a + spSum zs i) (spP a zs i) zs zs.length i = some ([], 1) ∧ gleaningref02_Split.l0 k (a + spSum zs i) zs (spQ a zs i) zs.length i = some ([], 1))
  | d, i, 0, _, hk, _ => by omega
  | 0, i, k + 1, h, _, hf => by
    obtain rfl : i = zs.length := by omega
    refine .inl ⟨?_, ?_, hf⟩
    · unfold space_Split.l0
      rw [if_neg (by omega)]
    · unfold gleaningref02_Split.l0
      rw [if_neg (by omega)]
  | d + 1, i, k + 1, h, hk, hf => by
    have e1 : rd zs (i : Int) = zs.getD i 0 := by unfold rd; simp
    have e2 : wrap64 ((i : Int) + 1) = ((i + 1 : Nat) : Int) := by rw [spWrap (by omega) (by omega)]; omega
    have hp := spP_len a zs i
    have hq := spQ_len a zs i
    unfold space_Split.l0 gleaningref02_Split.l0
    rw [if_pos (by omega), if_pos (by omega), if_pos (by omega), if_pos (by omega), if_pos (by omega), if_pos (by omega), e1]
    by_cases c : 0 ≤ a + spSum zs i ∧ 0 ≤ zs.getD i 0 ∧ a + spSum zs i + zs.getD i 0 ≤ 4096
    · have hf' : spFit a zs (i + 1) := by
        intro j hj
        by_cases ej : j < i
        · exact hf j ej
        · obtain rfl : j = i := by omega
          exact ⟨c.1, c.2.1, by rw [spSum_succ, ← Int.add_assoc]; exact c.2.2⟩
      have ih := spGo hn d (i + 1) k (by omega) (by omega) hf'
      obtain ⟨n1, n2⟩ := spNew c.1 c.2.1 c.2.2
      rw [n1, n2]
      simp only [Option.bind_some]
      rw [if_pos trivial, if_pos trivial, if_pos (by omega), if_pos (by omega), e2]
      simp only [spP, spQ, spSum_succ] at ih
      rw [← Int.add_assoc] at ih
      exact ih
    · obtain ⟨n1, n2⟩ := spOld c
      rw [n1, n2]
      exact .inr ⟨rfl, rfl⟩
/-- A list of spaces in memory: block 'g', from its first place. -/
def Row3 (w : World) (g m : Nat) (X : Nat → Int) : Prop := g < w.heap.size ∧ ∀ i, i < m → w.cell? ⟨g, i * 3, none⟩ = some (.int .i64 (X i)) ∧ w.cell? ⟨g, i * 3 + 1, none⟩ = some (.int .i64 (X i)) ∧ w.cell? ⟨g, i * 3 + 2, none⟩ = some (.int .i64 (X (i + 1)))
theorem Row3.below {w w' : World} {g m : Nat} {X : Nat → Int} (h : Row3 w g m X) (hb : Below w.heap.size w w') : Row3 w' g m X :=
  ⟨Nat.lt_of_lt_of_le h.1 hb.size, fun i hi => ⟨(hb.cell (p := ⟨g, i * 3, none⟩) h.1).trans (h.2 i hi).1, (hb.cell (p := ⟨g, i * 3 + 1, none⟩) h.1).trans (h.2 i hi).2.1, (hb.cell (p := ⟨g, i * 3 + 2, none⟩) h.1).trans (h.2 i hi).2.2⟩⟩
theorem row3_P {w : World} {base m n c : Nat} {A : Option Addr} {a : Int} {zs : List Int} (h : Kd.R k31 31 w base (fun _ => True) (.slice A n c) (spP a zs m)) (hm : 0 < m) : n = m ∧ ∃ g, A = some ⟨g, 0, none⟩ ∧ Row3 w g m (fun i => a + spSum zs i) := by
  obtain ⟨e, _, hC⟩ := Kd.R_reads' h
  rw [spP_len] at e hC
  subst e
  obtain ⟨ad, rfl, h0, _⟩ := at_T31 hC 0 (by omega) (by omega)
  obtain ⟨g, rfl⟩ := Kd.R_head h
  refine ⟨rfl, g, rfl, by simpa [Addr.add] using World.block_lt_of_cell? w _ h0, fun i hi => ?_⟩
  obtain ⟨ad, e, h0, h1, h2⟩ := at_T31 hC i (by omega) (by omega)
  obtain rfl := (Option.some.inj e).symm
  have ev : rd_T31 (spP a zs n) (i : Int) = ⟨a + spSum zs i, a + spSum zs i, a + spSum zs (i + 1)⟩ := by unfold rd_T31; rw [Int.toNat_natCast]; exact spP_at a zs n i hi
  rw [ev] at h0 h1 h2
  have ea : Addr.add ⟨g, 0, none⟩ ((i : Int).toNat * 3) = ⟨g, i * 3, none⟩ := by
    rw [Int.toNat_natCast]
    by_cases ei : i * 3 = 0 <;> simp [Addr.add, ei]
  rw [ea] at h0 h1 h2
  exact ⟨h0, h1, h2⟩
theorem row3_Q {w : World} {base m n c : Nat} {A : Option Addr} {a : Int} {zs : List Int} (h : Kd.R k58 58 w base (fun _ => True) (.slice A n c) (spQ a zs m)) (hm : 0 < m) : n = m ∧ ∃ g, A = some ⟨g, 0, none⟩ ∧ Row3 w g m (fun i => a + spSum zs i) := by
  obtain ⟨e, _, hC⟩ := Kd.R_reads' h
  rw [spQ_len] at e hC
  subst e
  obtain ⟨ad, rfl, h0, _⟩ := at_T58 hC 0 (by omega) (by omega)
  obtain ⟨g, rfl⟩ := Kd.R_head h
  refine ⟨rfl, g, rfl, by simpa [Addr.add] using World.block_lt_of_cell? w _ h0, fun i hi => ?_⟩
  obtain ⟨ad, e, h0, h1, h2⟩ := at_T58 hC i (by omega) (by omega)
  obtain rfl := (Option.some.inj e).symm
  have ev : rd_T58 (spQ a zs n) (i : Int) = ⟨a + spSum zs i, a + spSum zs i, a + spSum zs (i + 1)⟩ := by unfold rd_T58; rw [Int.toNat_natCast]; exact spQ_at a zs n i hi
  rw [ev] at h0 h1 h2
  have ea : Addr.add ⟨g, 0, none⟩ ((i : Int).toNat * 3) = ⟨g, i * 3, none⟩ := by
    rw [Int.toNat_natCast]
    by_cases ei : i * 3 = 0 <;> simp [Addr.add, ei]
  rw [ea] at h0 h1 h2
  exact ⟨h0, h1, h2⟩
end Go.Proofs.Ytlhbfeddgopfjaa
