/-
  Plain laws on bits of natural numbers: words of a map of bits, the next bit that is set, how many are set. No condition beyond each theorem's own premises.
-/
namespace Go.Proofs.YtdfpmgpdkajhkaaDoor

/-- Word i of the map M. -/
def wd (M i : Nat) : Nat := M / 2 ^ (64 * i) % 2 ^ 64

theorem wd_lt (M i : Nat) : wd M i < 18446744073709551616 := Nat.mod_lt _ (by decide)
theorem wd_testBit (M i j : Nat) : (wd M i).testBit j = (decide (j < 64) && M.testBit (64 * i + j)) := by
  unfold wd
  rw [Nat.testBit_mod_two_pow, Nat.testBit_div_two_pow, Nat.add_comm]
theorem wd_bit (M k : Nat) : (wd M (k / 64)).testBit (k % 64) = M.testBit k := by
  rw [wd_testBit]
  have h : k % 64 < 64 := Nat.mod_lt _ (by decide)
  have e : 64 * (k / 64) + k % 64 = k := Nat.div_add_mod k 64
  simp [h, e]
theorem testBit_pow (k i : Nat) : (2 ^ k).testBit i = decide (k = i) := Nat.testBit_two_pow
/-- Bit k set. -/
def sb (M k : Nat) : Nat := M ||| 2 ^ k
/-- Bit k cleared. -/
def cb (M k : Nat) : Nat := if M.testBit k then M ^^^ 2 ^ k else M
theorem sb_bit (M k i : Nat) : (sb M k).testBit i = (M.testBit i || decide (k = i)) := by
  unfold sb; rw [Nat.testBit_or, testBit_pow]
theorem cb_bit (M k i : Nat) : (cb M k).testBit i = (M.testBit i && !decide (k = i)) := by
  unfold cb
  by_cases h : M.testBit k = true
  · rw [if_pos h, Nat.testBit_xor, testBit_pow]
    by_cases e : k = i
    · subst e; simp [h]
    · simp [e]
  · rw [if_neg h]
    by_cases e : k = i
    · subst e; simp at h; simp [h]
    · simp [e]
theorem wd_sb_same (M k : Nat) : wd (sb M k) (k / 64) = wd M (k / 64) ||| 2 ^ (k % 64) := by
  apply Nat.eq_of_testBit_eq
  intro j
  rw [wd_testBit, sb_bit, Nat.testBit_or, wd_testBit, testBit_pow]
  by_cases h : j < 64
  · have e : (k = 64 * (k / 64) + j) ↔ (k % 64 = j) := by omega
    simp [h, e]
  · have e : ¬ (k % 64 = j) := by omega
    simp [h, e]
theorem wd_sb_other (M k i : Nat) (hi : i ≠ k / 64) : wd (sb M k) i = wd M i := by
  apply Nat.eq_of_testBit_eq
  intro j
  rw [wd_testBit, sb_bit, wd_testBit]
  by_cases h : j < 64
  · have e : ¬ (k = 64 * i + j) := by omega
    simp [e]
  · simp [h]
theorem wd_cb_same (M k : Nat) : wd (cb M k) (k / 64) = wd M (k / 64) &&& (18446744073709551615 - 2 ^ (k % 64)) := by
  apply Nat.eq_of_testBit_eq
  intro j
  have hp : 2 ^ (k % 64) < 2 ^ 64 := Nat.pow_lt_pow_right (by decide) (Nat.mod_lt _ (by decide))
  have e0 : 18446744073709551615 - 2 ^ (k % 64) = 2 ^ 64 - (2 ^ (k % 64) + 1) := by rw [Nat.sub_add_eq, Nat.sub_right_comm]
  rw [e0, Nat.testBit_and, Nat.testBit_two_pow_sub_succ hp, wd_testBit, cb_bit, wd_testBit, testBit_pow]
  by_cases h : j < 64
  · have e : (k = 64 * (k / 64) + j) ↔ (k % 64 = j) := by omega
    simp [h, e]
  · simp [h]
theorem wd_cb_other (M k i : Nat) (hi : i ≠ k / 64) : wd (cb M k) i = wd M i := by
  apply Nat.eq_of_testBit_eq
  intro j
  rw [wd_testBit, cb_bit, wd_testBit]
  by_cases h : j < 64
  · have e : ¬ (k = 64 * i + j) := by omega
    simp [e]
  · simp [h]
theorem wd_zero (i : Nat) : wd 0 i = 0 := by unfold wd; simp
theorem sb_lt {M k n : Nat} (hM : M < 2 ^ n) (hk : k < n) : sb M k < 2 ^ n := Nat.or_lt_two_pow hM (Nat.pow_lt_pow_right (by decide) hk)
theorem lt_of_bits {M n : Nat} (h : ∀ i, n ≤ i → M.testBit i = false) : M < 2 ^ n := Nat.lt_pow_two_of_testBit M h
theorem bit_ge {M n i : Nat} (h : M < 2 ^ n) (hi : n ≤ i) : M.testBit i = false := Nat.testBit_lt_two_pow (Nat.lt_of_lt_of_le h (Nat.pow_le_pow_right (by decide) hi))
theorem bit_lt {M n i : Nat} (h : M < 2 ^ n) (hi : M.testBit i = true) : i < n := by
  rcases Nat.lt_or_ge i n with h' | h'
  · exact h'
  · rw [bit_ge h h'] at hi; cases hi
theorem cb_lt {M k n : Nat} (hM : M < 2 ^ n) : cb M k < 2 ^ n := lt_of_bits fun i hi => by rw [cb_bit, bit_ge hM hi]; rfl
theorem ext {M N : Nat} (h : ∀ i, M.testBit i = N.testBit i) : M = N := Nat.eq_of_testBit_eq h
theorem bit_zero (i : Nat) : Nat.testBit 0 i = false := Nat.zero_testBit i

/-- Is place x set? -/
def hasB (M : Nat) (x : Int) : Bool := decide (0 ≤ x) && M.testBit x.toNat
/-- Does setting place x change anything, of n places? -/
def newB (n M : Nat) (x : Int) : Bool := decide (0 ≤ x) && decide (x < n) && !M.testBit x.toNat
/-- Place x set. -/
def setM (n M : Nat) (x : Int) : Nat := if 0 ≤ x ∧ x < n then sb M x.toNat else M
def clrM (M : Nat) (x : Int) : Nat := if 0 ≤ x then cb M x.toNat else M
theorem setM_lt {n M : Nat} (h : M < 2 ^ n) (x : Int) : setM n M x < 2 ^ n := by
  unfold setM
  split
  · exact sb_lt h (by omega)
  · exact h
theorem clrM_lt {n M : Nat} (h : M < 2 ^ n) (x : Int) : clrM M x < 2 ^ n := by
  unfold clrM
  split
  · exact cb_lt h
  · exact h
theorem setM_bit (n M : Nat) (x : Int) (i : Nat) : (setM n M x).testBit i = (M.testBit i || (decide (x = i) && decide (i < n))) := by
  unfold setM
  by_cases h : 0 ≤ x ∧ x < n
  · rw [if_pos h, sb_bit]
    have e : (x.toNat = i) ↔ (x = i ∧ i < n) := by omega
    simp [e]
  · rw [if_neg h]
    have e : ¬ (x = i ∧ i < n) := by omega
    have e' : (decide (x = ↑i) && decide (i < n)) = false := by
      rw [Bool.and_eq_false_iff]
      by_cases h1 : x = i
      · right; exact decide_eq_false (fun h2 => e ⟨h1, h2⟩)
      · left; exact decide_eq_false h1
    rw [e']; simp
theorem clrM_bit (M : Nat) (x : Int) (i : Nat) : (clrM M x).testBit i = (M.testBit i && !decide (x = i)) := by
  unfold clrM
  by_cases h : 0 ≤ x
  · rw [if_pos h, cb_bit]
    have e : (x.toNat = i) ↔ (x = i) := by omega
    simp [e]
  · rw [if_neg h]
    have e : ¬ (x = i) := by omega
    simp [e]
theorem setM_old {n M : Nat} {x : Int} (h : newB n M x = false) : setM n M x = M := by
  apply ext
  intro i
  rw [setM_bit]
  by_cases e : x = i ∧ i < n
  · obtain ⟨e1, e2⟩ := e
    subst e1
    have : M.testBit i = true := by
      unfold newB at h
      simp at h
      by_cases q : M.testBit i = true
      · exact q
      · simp at q; exact absurd (h e2) (by simp [q])
    simp [this]
  · by_cases e1 : x = i
    · have : ¬ i < n := fun q => e ⟨e1, q⟩
      simp [this]
    · simp [e1]
theorem clrM_old {M : Nat} {x : Int} (h : hasB M x = false) : clrM M x = M := by
  apply ext
  intro i
  rw [clrM_bit]
  by_cases e1 : x = i
  · subst e1
    have : M.testBit i = false := by unfold hasB at h; simpa using h
    simp [this]
  · simp [e1]
theorem hasB_set {n M : Nat} (x y : Int) : hasB (setM n M x) y = (hasB M y || (decide (x = y) && decide (0 ≤ y) && decide (y < n))) := by
  unfold hasB
  rw [setM_bit]
  by_cases h : 0 ≤ y
  · obtain ⟨j, rfl⟩ : ∃ j : Nat, y = j := ⟨y.toNat, by omega⟩
    simp
  · simp [h]
theorem hasB_clr {M : Nat} (x y : Int) : hasB (clrM M x) y = (hasB M y && !decide (x = y)) := by
  unfold hasB
  rw [clrM_bit]
  by_cases h : 0 ≤ y
  · obtain ⟨j, rfl⟩ : ∃ j : Nat, y = j := ⟨y.toNat, by omega⟩
    simp
  · simp [h]
theorem hasB_nat (M k : Nat) : hasB M k = M.testBit k := by unfold hasB; simp
theorem hasB_lt {n M : Nat} {x : Int} (hM : M < 2 ^ n) (h : hasB M x = true) : 0 ≤ x ∧ x < n := by
  unfold hasB at h
  simp at h
  have := bit_lt hM h.2
  omega
theorem hasB_out {n M : Nat} {x : Int} (hM : M < 2 ^ n) (h : ¬ (0 ≤ x ∧ x < n)) : hasB M x = false := by
  cases e : hasB M x
  · rfl
  · exact absurd (hasB_lt hM e) h
theorem hasB_zero (x : Int) : hasB 0 x = false := by unfold hasB; simp
theorem newB_eq (n M : Nat) (x : Int) : newB n M x = (decide (0 ≤ x ∧ x < n) && !hasB M x) := by
  unfold newB hasB
  by_cases h : 0 ≤ x <;> simp [h]

/-- The first place that is set, of f from a on; else -1. -/
def nx (M : Nat) : Nat → Nat → Int
  | 0, _ => -1
  | f + 1, a => if M.testBit a = true then (a : Int) else nx M f (a + 1)
theorem nx_cases (M : Nat) : ∀ f a, (nx M f a = -1 ∧ ∀ i, a ≤ i → i < a + f → M.testBit i = false) ∨ (∃ k : Nat, nx M f a = (k : Int) ∧ a ≤ k ∧ k < a + f ∧ M.testBit k = true ∧ ∀ i, a ≤ i → i < k → M.testBit i = false)
  | 0, a => .inl ⟨rfl, fun i h1 h2 => by omega⟩
  | f + 1, a => by
    unfold nx
    by_cases h : M.testBit a = true
    · rw [if_pos h]
      exact .inr ⟨a, rfl, by omega, by omega, h, fun i h1 h2 => by omega⟩
    · rw [if_neg h]
      have h0 : M.testBit a = false := by simpa using h
      rcases nx_cases M f (a + 1) with ⟨e, q⟩ | ⟨k, e, k1, k2, k3, q⟩
      · refine .inl ⟨e, fun i h1 h2 => ?_⟩
        by_cases ei : i = a
        · subst ei; exact h0
        · exact q i (by omega) (by omega)
      · refine .inr ⟨k, e, by omega, by omega, k3, fun i h1 h2 => ?_⟩
        by_cases ei : i = a
        · subst ei; exact h0
        · exact q i (by omega) (by omega)
/-- The first place that is set, of n, from x on; else -1. -/
def nextM (n M : Nat) (x : Int) : Int := nx M (n - x.toNat) x.toNat
theorem nextM_cases {n M : Nat} (hM : M < 2 ^ n) (x : Int) : (nextM n M x = -1 ∧ ∀ i : Nat, x ≤ i → M.testBit i = false) ∨ (∃ k : Nat, nextM n M x = (k : Int) ∧ x ≤ k ∧ k < n ∧ M.testBit k = true ∧ ∀ i : Nat, x ≤ i → i < k → M.testBit i = false) := by
  rcases nx_cases M (n - x.toNat) x.toNat with ⟨e, q⟩ | ⟨k, e, k1, k2, k3, q⟩
  · refine .inl ⟨e, fun i h1 => ?_⟩
    rcases Nat.lt_or_ge i n with h | h
    · exact q i (by omega) (by omega)
    · exact bit_ge hM h
  · exact .inr ⟨k, e, by omega, by omega, k3, fun i h1 h2 => q i (by omega) h2⟩
theorem nextM_eq {n M : Nat} {x : Int} {k : Nat} (hk : x ≤ k) (hM : M < 2 ^ n) (hb : M.testBit k = true) (hl : ∀ i : Nat, x ≤ i → i < k → M.testBit i = false) : nextM n M x = k := by
  rcases nextM_cases hM x with ⟨_, q⟩ | ⟨j, e, j1, j2, j3, q⟩
  · rw [q k hk] at hb; cases hb
  · rw [e]
    rcases Nat.lt_trichotomy j k with h | h | h
    · rw [hl j j1 h] at j3; cases j3
    · rw [h]
    · rw [q k hk h] at hb; cases hb
theorem nextM_none {n M : Nat} {x : Int} (hM : M < 2 ^ n) (hl : ∀ i : Nat, x ≤ i → M.testBit i = false) : nextM n M x = -1 := by
  rcases nextM_cases hM x with ⟨e, _⟩ | ⟨j, _, j1, _, j3, _⟩
  · exact e
  · rw [hl j j1] at j3; cases j3
theorem nextM_skip {n M : Nat} {x y : Int} (hM : M < 2 ^ n) (hxy : x ≤ y) (hl : ∀ i : Nat, x ≤ i → (i : Int) < y → M.testBit i = false) : nextM n M x = nextM n M y := by
  rcases nextM_cases hM y with ⟨e, q⟩ | ⟨j, e, j1, j2, j3, q⟩
  · rw [e]
    exact nextM_none hM fun i hi => if h : (i : Int) < y then hl i hi h else q i (by omega)
  · rw [e]
    exact nextM_eq (by omega) hM j3 fun i h1 h2 => if h : (i : Int) < y then hl i h1 h else q i (by omega) h2
theorem nextM_neg {n M : Nat} (x : Int) (h : x ≤ 0) : nextM n M x = nextM n M 0 := by
  unfold nextM
  have : x.toNat = 0 := by omega
  rw [this]; rfl
theorem nextM_bd {n M : Nat} (hM : M < 2 ^ n) (x : Int) : -1 ≤ nextM n M x ∧ nextM n M x < n := by
  rcases nextM_cases hM x with ⟨e, _⟩ | ⟨j, e, _, h, _⟩ <;> rw [e] <;> omega

/-- How many i below k are P. -/
def cnt (P : Nat → Bool) : Nat → Nat
  | 0 => 0
  | k + 1 => cnt P k + if P k = true then 1 else 0
theorem cnt_congr {P Q : Nat → Bool} : ∀ k, (∀ i, i < k → P i = Q i) → cnt P k = cnt Q k
  | 0, _ => rfl
  | k + 1, h => by
    unfold cnt
    rw [cnt_congr k fun i hi => h i (by omega), h k (by omega)]
theorem cnt_le (P : Nat → Bool) : ∀ k, cnt P k ≤ k
  | 0 => Nat.le_refl _
  | k + 1 => by
    unfold cnt
    have := cnt_le P k
    split <;> omega
theorem cnt_mono (P : Nat → Bool) {j k : Nat} (h : j ≤ k) : cnt P j ≤ cnt P k := by
  induction k with
  | zero => have : j = 0 := by omega
            subst this; exact Nat.le_refl _
  | succ k ih =>
    by_cases e : j = k + 1
    · subst e; exact Nat.le_refl _
    · have := ih (by omega)
      conv => rhs; unfold cnt
      omega
theorem cnt_skip {P : Nat → Bool} {j k : Nat} (h : j ≤ k) (hf : ∀ i, j ≤ i → i < k → P i = false) : cnt P k = cnt P j := by
  induction k with
  | zero => have : j = 0 := by omega
            subst this; rfl
  | succ k ih =>
    by_cases e : j = k + 1
    · subst e; rfl
    · have := ih (by omega) fun i h1 h2 => hf i h1 (by omega)
      conv => lhs; unfold cnt
      rw [hf k (by omega) (by omega), this]; rfl
theorem cnt_none {P : Nat → Bool} {k : Nat} (hf : ∀ i, i < k → P i = false) : cnt P k = 0 := cnt_skip (j := 0) (Nat.zero_le _) fun i _ h => hf i h
theorem cnt_add {P Q R : Nat → Bool} : ∀ k, (∀ i, i < k → R i = (P i || Q i)) → (∀ i, i < k → (P i && Q i) = false) → cnt R k = cnt P k + cnt Q k
  | 0, _, _ => rfl
  | k + 1, h, hd => by
    unfold cnt
    rw [cnt_add k (fun i hi => h i (by omega)) (fun i hi => hd i (by omega)), h k (by omega)]
    have := hd k (by omega)
    cases hp : P k <;> cases hq : Q k <;> simp [hp, hq] at this ⊢ <;> omega
theorem cnt_or {P R : Nat → Bool} (k : Nat) (h : ∀ i, i < k → P i = true → R i = true) : cnt P k ≤ cnt R k := by
  induction k with
  | zero => exact Nat.le_refl _
  | succ k ih =>
    have := ih fun i hi => h i (by omega)
    unfold cnt
    cases hp : P k
    · simp; omega
    · rw [h k (by omega) hp]; simp; omega
theorem cnt_one {P Q : Nat → Bool} {x : Nat} (n : Nat) (hx : x < n) (hP : P x = false) (hQ : Q x = true) (h : ∀ i, i < n → i ≠ x → Q i = P i) : cnt Q n = cnt P n + 1 := by
  induction n with
  | zero => omega
  | succ n ih =>
    unfold cnt
    by_cases e : x = n
    · subst e
      rw [hP, hQ, cnt_congr x fun i hi => h i (by omega) (by omega)]; simp
    · rw [ih (by omega) fun i h1 h2 => h i (by omega) h2, h n (by omega) (Ne.symm e)]
      omega
/-- How many are set from a on, below b. -/
def betM (n M : Nat) (a b : Int) : Nat := cnt (fun i => decide (a ≤ (i : Int)) && decide ((i : Int) < b) && M.testBit i) n
/-- How many are set. -/
def popM (n M : Nat) : Nat := cnt (fun i => M.testBit i) n
theorem betM_all (n M : Nat) (b : Int) (hb : (n : Int) ≤ b) : betM n M 0 b = popM n M := by
  unfold betM popM
  refine cnt_congr n fun i hi => ?_
  have h1 : (0 : Int) ≤ (i : Int) := by omega
  have h2 : (i : Int) < b := by omega
  simp [h1, h2]
theorem betM_le (n M : Nat) (a b : Int) : betM n M a b ≤ n := cnt_le _ _
theorem popM_le (n M : Nat) : popM n M ≤ n := cnt_le _ _
theorem popM_zero (n : Nat) : popM n 0 = 0 := cnt_none fun i _ => bit_zero i
theorem popM_new {n M : Nat} {x : Int} (h : newB n M x = true) : popM n (setM n M x) = popM n M + 1 := by
  unfold newB at h
  simp at h
  obtain ⟨⟨h0, h1⟩, h2⟩ := h
  refine cnt_one (x := x.toNat) n (by omega) h2 ?_ fun i hi hne => ?_
  · have e : x = (x.toNat : Int) := by omega
    have e' : x.toNat < n := by omega
    rw [setM_bit]; simp [← e, e']
  · have e : ¬ x = (i : Int) := by omega
    simp [setM_bit, e]
theorem popM_clr {n M : Nat} {x : Int} (hM : M < 2 ^ n) (h : hasB M x = true) : popM n M = popM n (clrM M x) + 1 := by
  obtain ⟨h0, h1⟩ := hasB_lt hM h
  unfold hasB at h
  simp at h
  refine cnt_one (x := x.toNat) n (by omega) ?_ h.2 fun i hi hne => ?_
  · have e : x = (x.toNat : Int) := by omega
    rw [clrM_bit]; simp [← e]
  · have e : ¬ x = (i : Int) := by omega
    simp [clrM_bit, e]
/-- Between's loop: all below y is counted. -/
def BetAt (n M : Nat) (a b : Int) (y c : Nat) : Prop :=
  y ≤ n ∧ c = cnt (fun i => decide (a ≤ (i : Int)) && decide ((i : Int) < b) && M.testBit i) y ∧ ∀ i : Nat, y ≤ i → M.testBit i = true → a ≤ i
theorem bet_start {n M : Nat} (hM : M < 2 ^ n) (a b : Int) : ∃ y, BetAt n M a b y 0 ∧ nextM n M a = nextM n M y := by
  by_cases h0 : a ≤ 0
  · exact ⟨0, ⟨Nat.zero_le _, rfl, fun i _ _ => by omega⟩, nextM_neg a h0⟩
  · by_cases hn : a ≤ n
    · refine ⟨a.toNat, ⟨by omega, (cnt_none fun i hi => ?_).symm, fun i hi _ => by omega⟩, by rw [show ((a.toNat : Nat) : Int) = a by omega]⟩
      have : ¬ a ≤ (i : Int) := by omega
      simp [this]
    · refine ⟨n, ⟨Nat.le_refl _, (cnt_none fun i hi => ?_).symm, fun i hi hb => ?_⟩, ?_⟩
      · have : ¬ a ≤ (i : Int) := by omega
        simp [this]
      · rw [bit_ge hM hi] at hb; cases hb
      · rw [nextM_none hM fun i hi => bit_ge hM (by omega), nextM_none hM fun i hi => bit_ge hM (by omega)]
theorem bet_end1 {n M : Nat} (hM : M < 2 ^ n) {a b : Int} {y c : Nat} (h : BetAt n M a b y c) (hz : nextM n M y < 0) : c = betM n M a b := by
  obtain ⟨h1, h2, h3⟩ := h
  rw [h2]
  refine (cnt_skip h1 fun i i1 i2 => ?_).symm
  rcases nextM_cases hM (y : Int) with ⟨_, q⟩ | ⟨k, e, _⟩
  · rw [q i (by omega)]; simp
  · omega
theorem bet_end2 {n M : Nat} (hM : M < 2 ^ n) {a b : Int} {y c k : Nat} (h : BetAt n M a b y c) (hz : nextM n M y = (k : Int)) (hk : ¬ (k : Int) < b) : c = betM n M a b := by
  obtain ⟨h1, h2, h3⟩ := h
  rw [h2]
  refine (cnt_skip h1 fun i i1 i2 => ?_).symm
  rcases nextM_cases hM (y : Int) with ⟨e, _⟩ | ⟨j, e, _, _, _, q⟩
  · omega
  · have : j = k := by omega
    subst this
    by_cases hi : i < j
    · rw [q i (by omega) hi]; simp
    · have : ¬ (i : Int) < b := by omega
      simp [this]
theorem bet_next {n M : Nat} (hM : M < 2 ^ n) {a b : Int} {y c k : Nat} (h : BetAt n M a b y c) (hz : nextM n M y = (k : Int)) (hk : (k : Int) < b) : BetAt n M a b (k + 1) (c + 1) ∧ k < n ∧ y ≤ k ∧ M.testBit k = true := by
  obtain ⟨h1, h2, h3⟩ := h
  rcases nextM_cases hM (y : Int) with ⟨e, _⟩ | ⟨j, e, j1, j2, j3, q⟩
  · omega
  · have : j = k := by omega
    subst this
    refine ⟨⟨by omega, ?_, fun i hi hb => h3 i (by omega) hb⟩, j2, by omega, j3⟩
    have ha := h3 j (by omega) j3
    conv => rhs; unfold cnt
    rw [cnt_skip (j := y) (k := j) (by omega) fun i i1 i2 => by rw [q i (by omega) i2]; simp, ← h2]
    simp [ha, hk, j3]
/-- A measure for a loop over Next. -/
def upm (n : Nat) (z : Int) : Nat := if z < 0 then 0 else n + 1 - z.toNat
theorem upm_nat (n k : Nat) : upm n (k : Int) = n + 1 - k := by unfold upm; rw [if_neg (by omega)]; rfl
theorem upm_next {n M : Nat} (hM : M < 2 ^ n) {k : Nat} (hk : k < n) : upm n (nextM n M ((k + 1 : Nat) : Int)) < upm n (k : Int) := by
  rcases nextM_cases hM (((k + 1 : Nat) : Int)) with ⟨e, _⟩ | ⟨j, e, j1, j2, _, _⟩
  · rw [e, upm_nat]; unfold upm; rw [if_pos (by omega)]; omega
  · rw [e, upm_nat, upm_nat]; omega
end Go.Proofs.YtdfpmgpdkajhkaaDoor
