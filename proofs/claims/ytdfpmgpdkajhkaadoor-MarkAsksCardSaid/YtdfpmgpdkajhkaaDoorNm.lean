/-
  Plain laws on marking: what is reached; a marking that goes on, with little room. No condition beyond each theorem's own premises.
-/
import Derived.Test.YtdfpmgpdkajhkaaDoorNe
namespace Go.Proofs.YtdfpmgpdkajhkaaDoor
/-- Place i is reached, of n places, from the roots by the edges E. -/
def Rch (n : Nat) (E : Nat → List Int) (rts : List Int) (i : Nat) : Prop :=
  ∀ S : Nat → Prop, (∀ y ∈ rts, 0 ≤ y → y < (n : Int) → S y.toNat) → (∀ i, S i → ∀ y ∈ E i, 0 ≤ y → y < (n : Int) → S y.toNat) → S i
theorem rch_root {n : Nat} {E : Nat → List Int} {rts : List Int} {y : Int} (h : y ∈ rts) (h0 : 0 ≤ y) (hn : y < n) : Rch n E rts y.toNat := fun _ a _ => a y h h0 hn
theorem rch_step {n : Nat} {E : Nat → List Int} {rts : List Int} {i : Nat} (hi : Rch n E rts i) {y : Int} (h : y ∈ E i) (h0 : 0 ≤ y) (hn : y < n) : Rch n E rts y.toNat := fun S a b => b i (hi S a b) y h h0 hn
theorem rch_closed (n : Nat) (E : Nat → List Int) (rts : List Int) : ∀ i, Rch n E rts i → ∀ y ∈ E i, 0 ≤ y → y < (n : Int) → Rch n E rts y.toNat := fun _ hi _ hy h0 hn => rch_step hi hy h0 hn
theorem rch_lt {n : Nat} {E : Nat → List Int} {rts : List Int} {i : Nat} (hi : Rch n E rts i) : i < n := hi (· < n) (fun y _ h0 hn => by omega) (fun _ _ y _ h0 hn => by omega)
theorem rch_mono {n : Nat} {E E' : Nat → List Int} {rts rts' : List Int} (hr : ∀ y ∈ rts, y ∈ rts') (hE : ∀ i, i < n → ∀ y ∈ E i, y ∈ E' i) {i : Nat} (h : Rch n E rts i) : Rch n E' rts' i :=
  h _ (fun y hy h0 hn => rch_root (hr y hy) h0 hn) (fun i hi y hy h0 hn => rch_step hi (hE i (rch_lt hi) y hy) h0 hn)
/-- M is just what is reached. -/
def IsR (n : Nat) (E : Nat → List Int) (rts : List Int) (M : Nat) : Prop := ∀ i, M.testBit i = true ↔ Rch n E rts i
theorem IsR.lt {n : Nat} {E : Nat → List Int} {rts : List Int} {M : Nat} (h : IsR n E rts M) : M < 2 ^ n := lt_of_bits fun i hi => by
  cases e : M.testBit i
  · rfl
  · have := rch_lt ((h i).1 e); omega
theorem IsR.eq {n : Nat} {E E' : Nat → List Int} {rts rts' : List Int} {M M' : Nat} (h : IsR n E rts M) (h' : IsR n E' rts' M') (hE : ∀ i, Rch n E rts i ↔ Rch n E' rts' i) : M = M' :=
  ext fun i => by rw [Bool.eq_iff_iff, h i, h' i, hE i]
def comeT (n M : Nat) (T : List Int) (R x : Int) : List Int := if newB n M x = true then (if R ≤ (T.length : Int) then T else T ++ [x]) else T
def comeL (n M : Nat) (T : List Int) (R : Int) (lost : Bool) (x : Int) : Bool := if newB n M x = true then (if R ≤ (T.length : Int) then true else lost) else lost
/-- A marking that goes on: M is marked, D is gone through, T is still to be gone through. G: what must be marked; S: what may be; cu: from here on nothing is promised; ex: just being gone through. -/
structure St (n : Nat) (E : Nat → List Int) (G S : Nat → Prop) (R : Int) (ρ cu : Nat) (ex : Option Nat) (M D : Nat) (T : List Int) (lost : Bool) : Prop where
  lt : M < 2 ^ n
  must : ∀ i, G i → M.testBit i = true
  sub : ∀ i, D.testBit i = true → M.testBit i = true
  done : ∀ i, D.testBit i = true → ∀ y ∈ E i, 0 ≤ y → y < (n : Int) → M.testBit y.toNat = true
  pend : ∀ i, M.testBit i = true → D.testBit i = true ∨ (i : Int) ∈ T ∨ lost = true ∨ cu ≤ i ∨ ex = some i
  todo : ∀ y ∈ T, ∃ i : Nat, y = (i : Int) ∧ M.testBit i = true
  len : T.length ≤ popM n M
  sound : ∀ i, M.testBit i = true → S i
  lostR : lost = true → R < (popM n M : Int)
  rho : ρ ≤ popM n M
  lostρ : lost = true → ρ + 1 ≤ popM n M
  rhoR : 0 < ρ → R < (popM n M : Int)
section
variable {n : Nat} {E : Nat → List Int} {G S : Nat → Prop} {R : Int} {ρ cu : Nat} {ex : Option Nat} {M D : Nat} {T : List Int} {lost : Bool}
theorem setM_mono {x : Int} {i : Nat} (h : M.testBit i = true) : (setM n M x).testBit i = true := by rw [setM_bit, h]; rfl
theorem setM_marks {x : Int} (h0 : 0 ≤ x) (hn : x < n) : (setM n M x).testBit x.toNat = true := by
  rw [setM_bit]
  have h1 : x = (x.toNat : Int) := by omega
  have h2 : x.toNat < n := by omega
  simp [← h1, h2]
/-- Something is come to. -/
theorem St.come (h : St n E G S R ρ cu ex M D T lost) (x : Int) (hx : 0 ≤ x → x < (n : Int) → S x.toNat) : St n E G S R ρ cu ex (setM n M x) D (comeT n M T R x) (comeL n M T R lost x) := by
  unfold comeT comeL
  cases hn : newB n M x
  · rw [setM_old hn]; simpa using h
  · have hin := newB_in hn
    have hp := popM_new hn
    have hs : ∀ i, (setM n M x).testBit i = true → S i := fun i hi => by
      rw [setM_bit] at hi
      simp only [Bool.or_eq_true, Bool.and_eq_true, decide_eq_true_eq] at hi
      rcases hi with hi | ⟨hi, _⟩
      · exact h.sound i hi
      · have := hx hin.1 hin.2
        rwa [hi, Int.toNat_natCast] at this
    have hbit : ∀ i, (setM n M x).testBit i = true → M.testBit i = true ∨ x = (i : Int) := fun i hi => by
      rw [setM_bit] at hi
      simp only [Bool.or_eq_true, Bool.and_eq_true, decide_eq_true_eq] at hi
      rcases hi with hi | ⟨hi, _⟩
      · exact .inl hi
      · exact .inr hi
    by_cases hR : R ≤ (T.length : Int)
    · simp only [if_true, if_pos hR]
      have hl := h.len
      exact ⟨setM_lt h.lt x, fun i hi => setM_mono (h.must i hi), fun i hi => setM_mono (h.sub i hi), fun i hi y hy y0 yn => setM_mono (h.done i hi y hy y0 yn), fun i _ => .inr (.inr (.inl rfl)),
        fun y hy => by obtain ⟨i, e, b⟩ := h.todo y hy; exact ⟨i, e, setM_mono b⟩, by omega, hs, fun _ => by omega, by have := h.rho; omega, fun _ => by have := h.rho; omega, fun q => by have := h.rhoR q; omega⟩
    · simp only [if_true, if_neg hR]
      have hl := h.len
      refine ⟨setM_lt h.lt x, fun i hi => setM_mono (h.must i hi), fun i hi => setM_mono (h.sub i hi), fun i hi y hy y0 yn => setM_mono (h.done i hi y hy y0 yn), fun i hi => ?_,
        fun y hy => ?_, by rw [List.length_append]; simp; omega, hs, fun q => by have := h.lostR q; omega, by have := h.rho; omega, fun q => by have := h.lostρ q; omega, fun q => by have := h.rhoR q; omega⟩
      · rcases hbit i hi with hb | hb
        · rcases h.pend i hb with q | q | q | q | q
          · exact .inl q
          · exact .inr (.inl (by simp [q]))
          · exact .inr (.inr (.inl q))
          · exact .inr (.inr (.inr (.inl q)))
          · exact .inr (.inr (.inr (.inr q)))
        · exact .inr (.inl (by simp [hb]))
      · rw [List.mem_append] at hy
        rcases hy with hy | hy
        · obtain ⟨i, e, b⟩ := h.todo y hy; exact ⟨i, e, setM_mono b⟩
        · simp at hy
          subst hy
          exact ⟨y.toNat, by omega, setM_marks hin.1 hin.2⟩
/-- The last one is taken off. -/
theorem St.pop {y : Int} (h : St n E G S R ρ cu none M D (T ++ [y]) lost) : ∃ i : Nat, y = (i : Int) ∧ M.testBit i = true ∧ i < n ∧ St n E G S R ρ cu (some i) M D T lost := by
  obtain ⟨i, e, b⟩ := h.todo y (by simp)
  refine ⟨i, e, b, bit_lt h.lt b, h.lt, h.must, h.sub, h.done, fun j hj => ?_, fun z hz => h.todo z (by simp [hz]), by have := h.len; rw [List.length_append] at this; omega, h.sound, h.lostR, h.rho, h.lostρ, h.rhoR⟩
  rcases h.pend j hj with q | q | q | q | q
  · exact .inl q
  · rw [List.mem_append] at q
    rcases q with q | q
    · exact .inr (.inl q)
    · simp at q
      exact .inr (.inr (.inr (.inr (by rw [show j = i by omega]))))
  · exact .inr (.inr (.inl q))
  · exact .inr (.inr (.inr (.inl q)))
  · cases q
/-- One is gone through. -/
theorem St.fin {i : Nat} (h : St n E G S R ρ cu (some i) M D T lost) (hi : M.testBit i = true) (hE : ∀ y ∈ E i, 0 ≤ y → y < (n : Int) → M.testBit y.toNat = true) : St n E G S R ρ cu none M (sb D i) T lost := by
  refine ⟨h.lt, h.must, fun j hj => ?_, fun j hj => ?_, fun j hj => ?_, h.todo, h.len, h.sound, h.lostR, h.rho, h.lostρ, h.rhoR⟩
  · rw [sb_bit] at hj
    simp only [Bool.or_eq_true, decide_eq_true_eq] at hj
    rcases hj with hj | rfl
    · exact h.sub j hj
    · exact hi
  · rw [sb_bit] at hj
    simp only [Bool.or_eq_true, decide_eq_true_eq] at hj
    rcases hj with hj | rfl
    · exact h.done j hj
    · exact hE
  · rw [sb_bit]
    simp only [Bool.or_eq_true, decide_eq_true_eq]
    rcases h.pend j hj with q | q | q | q | q
    · exact .inl (.inl q)
    · exact .inr (.inl q)
    · exact .inr (.inr (.inl q))
    · exact .inr (.inr (.inr (.inl q)))
    · exact .inl (.inr (Option.some.inj q))
/-- At the start. -/
theorem St.start (n : Nat) (E : Nat → List Int) (S : Nat → Prop) (R : Int) : St n E (fun _ => False) S R 0 n none 0 0 [] false :=
  ⟨Nat.pow_pos (by decide), fun _ h => h.elim, fun i h => h, fun i h => (by rw [bit_zero] at h; cases h), fun i h => (by rw [bit_zero] at h; cases h), fun y h => (by cases h), Nat.zero_le _, fun i h => (by rw [bit_zero] at h; cases h), fun h => (by cases h), Nat.zero_le _, fun h => (by cases h), fun h => (by omega)⟩
theorem St.need {G' : Nat → Prop} (h : St n E G S R ρ cu ex M D T lost) (hG : ∀ i, G' i → M.testBit i = true) : St n E G' S R ρ cu ex M D T lost :=
  ⟨h.lt, hG, h.sub, h.done, h.pend, h.todo, h.len, h.sound, h.lostR, h.rho, h.lostρ, h.rhoR⟩
/-- A rescan begins. -/
theorem St.again (h : St n E G S R ρ cu none M D [] true) : St n E G S R (ρ + 1) 0 none M D [] false :=
  ⟨h.lt, h.must, h.sub, h.done, fun i _ => .inr (.inr (.inr (.inl (Nat.zero_le _)))), h.todo, h.len, h.sound, fun q => (by cases q), h.lostρ rfl, fun q => (by cases q), fun _ => h.lostR rfl⟩
/-- It comes to place j. -/
theorem St.cursor {j : Nat} (h : St n E G S R ρ cu none M D T lost) (hz : nextM n M cu = (j : Int)) : cu ≤ j ∧ j < n ∧ M.testBit j = true ∧ St n E G S R ρ (j + 1) (some j) M D T lost := by
  rcases nextM_cases h.lt (cu : Int) with ⟨e, _⟩ | ⟨i, e, j1, j2, j3, q⟩
  · omega
  · have : i = j := by omega
    subst this
    refine ⟨by omega, j2, j3, h.lt, h.must, h.sub, h.done, fun x hx => ?_, h.todo, h.len, h.sound, h.lostR, h.rho, h.lostρ, h.rhoR⟩
    rcases h.pend x hx with p | p | p | p | p
    · exact .inl p
    · exact .inr (.inl p)
    · exact .inr (.inr (.inl p))
    · by_cases e : x = i
      · exact .inr (.inr (.inr (.inr (by rw [e]))))
      · by_cases e2 : x < i
        · have := q x (by omega) e2; rw [this] at hx; cases hx
        · exact .inr (.inr (.inr (.inl (by omega))))
    · cases p
/-- The rescan ends. -/
theorem St.over (h : St n E G S R ρ cu none M D T lost) (hz : nextM n M cu < 0) : St n E G S R ρ n none M D T lost := by
  refine ⟨h.lt, h.must, h.sub, h.done, fun x hx => ?_, h.todo, h.len, h.sound, h.lostR, h.rho, h.lostρ, h.rhoR⟩
  rcases h.pend x hx with p | p | p | p | p
  · exact .inl p
  · exact .inr (.inl p)
  · exact .inr (.inr (.inl p))
  · rcases nextM_cases h.lt (cu : Int) with ⟨_, q⟩ | ⟨i, e, _⟩
    · have := q x (by omega); rw [this] at hx; cases hx
    · omega
  · cases p
/-- Where nothing is left and nothing was lost: just what is reached is marked, and each of it was gone through. -/
theorem St.all {rts : List Int} (h : St n E (fun i => ∃ y ∈ rts, 0 ≤ y ∧ y < (n : Int) ∧ y.toNat = i) (Rch n E rts) R ρ n none M D [] false) : IsR n E rts M ∧ D = M := by
  have hD : ∀ i, M.testBit i = true → D.testBit i = true := fun i hi => by
    rcases h.pend i hi with p | p | p | p | p
    · exact p
    · cases p
    · cases p
    · have := bit_lt h.lt hi; omega
    · cases p
  refine ⟨fun i => ⟨h.sound i, fun hr => ?_⟩, ext fun i => ?_⟩
  · exact hr (fun i => M.testBit i = true) (fun y hy h0 hn => h.must _ ⟨y, hy, h0, hn, rfl⟩) (fun i hi y hy h0 hn => h.done i (hD i hi) y hy h0 hn)
  · rw [Bool.eq_iff_iff]
    exact ⟨h.sub i, hD i⟩
/-- A measure of what is still to be done. -/
def stM (n M : Nat) (T : List Int) : Nat := 2 * (n - popM n M) + T.length
theorem stM_come (x : Int) : stM n (setM n M x) (comeT n M T R x) ≤ stM n M T := by
  unfold stM comeT
  cases hn : newB n M x
  · rw [setM_old hn]; simp
  · have hp := popM_new hn
    have hl := popM_le n (setM n M x)
    by_cases hR : R ≤ (T.length : Int)
    · simp only [if_true, if_pos hR]; omega
    · simp only [if_true, if_neg hR, List.length_append, List.length_singleton]; omega
end
end Go.Proofs.YtdfpmgpdkajhkaaDoor
