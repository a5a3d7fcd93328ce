import Derived.Test.YtlhbfeddgopfjaaPSpaceApartx2
namespace Go.Proofs.Ytlhbfeddgopfjaa.Pure
open Go.RowKit Go.Proofs.Ytlhbfeddgopfjaa.PSpaceApart Go.Proofs.YtlhbfeddgopfjaaW.PrintWords Go.Proofs.YtlhbfeddgopfjaaW.PrintLast

theorem apWrap {n : Int} (h0 : -9223372036854775808 ≤ n) (h1 : n ≤ 9223372036854775807) : wrap64 n = n := by
  unfold wrap64; omega
/-- The sum of the first 'i' sizes. -/
def apSum (zs : List Int) : Nat → Int
  | 0 => 0
  | i + 1 => apSum zs i + zs.getD i 0
theorem apSum_succ (zs : List Int) (i : Nat) : apSum zs (i + 1) = apSum zs i + zs.getD i 0 := rfl
theorem apSum_in {zs : List Int} (hz : ∀ i, 0 ≤ zs.getD i 0 ∧ zs.getD i 0 ≤ 255) : ∀ i, 0 ≤ apSum zs i ∧ apSum zs i ≤ 255 * i
  | 0 => by simp [apSum]
  | i + 1 => by have := apSum_in hz i; have := hz i; simp only [apSum_succ]; omega
/-- The first 'i' parts. -/
def apParts (a : Int) (zs : List Int) : Nat → List S31
  | 0 => []
  | i + 1 => apParts a zs i ++ [⟨a + apSum zs i, a + apSum zs i, a + apSum zs (i + 1)⟩]
theorem apParts_len (a : Int) (zs : List Int) : ∀ i, (apParts a zs i).length = i
  | 0 => rfl
  | i + 1 => by simp [apParts, apParts_len a zs i]
theorem apParts_at (a : Int) (zs : List Int) : ∀ i j, j < i → (apParts a zs i).getD j z31 = ⟨a + apSum zs j, a + apSum zs j, a + apSum zs (j + 1)⟩
  | 0, j, h => by omega
  | i + 1, j, h => by
    have ih := apParts_at a zs i j
    have hl := apParts_len a zs i
    simp only [apParts, List.getD_eq_getElem?_getD] at ih ⊢
    by_cases e : j < i
    · rw [List.getElem?_append_left (by omega)]; exact ih e
    · obtain rfl : j = i := by omega
      rw [List.getElem?_append_right (by omega)]
      simp [hl]
theorem apNew {a z : Int} (a0 : 0 ≤ a) (z0 : 0 ≤ z) (h : a + z ≤ 4096) : space_New.f a z = some (a, a, a + z, 0) := by
  have e1 : wrap64 (4096 - a) = 4096 - a := apWrap (by omega) (by omega)
  have e2 : wrap64 (a + z) = a + z := apWrap (by omega) (by omega)
  unfold space_New.f
  rw [if_neg (by omega), if_neg (by omega), if_neg (by omega), e1, if_neg (by omega), e2]
theorem apSplit {a : Int} {zs : List Int} (a0 : 0 ≤ a) (a1 : a ≤ 255) (hn : zs.length ≤ 12) (hz : ∀ i, 0 ≤ zs.getD i 0 ∧ zs.getD i 0 ≤ 255) :
    ∀ d i k, zs.length = i + d → d < k → space_Split.l0 k (a + apSum zs i) (apParts a zs i) zs zs.length i = some (apParts a zs zs.length, 0)
  | d, i, 0, _, hk => by omega
  | 0, i, k + 1, h, _ => by
    obtain rfl : i = zs.length := by omega
    unfold space_Split.l0
    rw [if_neg (by omega)]
  | d + 1, i, k + 1, h, hk => by
    have ih := apSplit a0 a1 hn hz d (i + 1) k (by omega) (by omega)
    have s := apSum_in hz i
    have hzi := hz i
    have e1 : rd zs (i : Int) = zs.getD i 0 := by unfold rd; simp
    have hN := apNew (a := a + apSum zs i) (z := zs.getD i 0) (by omega) (by omega) (by omega)
    have e2 : wrap64 ((i : Int) + 1) = ((i + 1 : Nat) : Int) := by rw [apWrap (by omega) (by omega)]; omega
    have hl := apParts_len a zs i
    unfold space_Split.l0
    rw [if_pos (by omega), if_pos (by omega), if_pos (by omega), e1, hN]
    simp only [Option.bind_some]
    rw [if_pos trivial, if_pos (by omega), e2]
    simp only [apParts, apSum_succ] at ih
    rw [← Int.add_assoc] at ih
    exact ih
theorem apHas {f e x : Int} (f0 : 0 ≤ f) (h : f ≤ e) (h1 : e ≤ 4096) : space_Space_Has.f f e e x = some (decide (f ≤ x ∧ x < e)) := by
  have r : space_Space_Right.f f e e = some true := by
    unfold space_Space_Right.f
    rw [if_pos (by omega), if_pos (by omega), if_pos (by omega)]
    simp [h1]
  unfold space_Space_Has.f
  rw [r]
  simp only [Option.bind_some, if_true]
  by_cases c : x ≥ f
  · rw [if_pos c]
    congr 1
    apply decide_eq_decide.2
    constructor
    · intro h; exact ⟨c, h⟩
    · exact fun h => h.2
  · rw [if_neg c]
    congr 1
    exact (decide_eq_false (by omega)).symm
/-- How many of the parts before 'i' hold x. -/
def apCnt (a : Int) (zs : List Int) (x : Int) (i : Nat) : Int := if a ≤ x ∧ x < a + apSum zs i then 1 else 0
theorem apCount {a x : Int} {zs : List Int} (a0 : 0 ≤ a) (a1 : a ≤ 255) (hn : zs.length ≤ 12) (hz : ∀ i, 0 ≤ zs.getD i 0 ∧ zs.getD i 0 ≤ 255) :
    ∀ d i k, zs.length = i + d → d < k → gleaninglaw02_SpaceApart.l1 k a (apSum zs zs.length) (apParts a zs zs.length) x (apCnt a zs x i) zs.length i = some true
  | d, i, 0, _, hk => by omega
  | 0, i, k + 1, h, _ => by
    obtain rfl : i = zs.length := by omega
    have s := apSum_in hz zs.length
    have e1 : wrap64 a = a := apWrap (by omega) (by omega)
    have e2 : wrap64 (a + apSum zs zs.length) = a + apSum zs zs.length := apWrap (by omega) (by omega)
    unfold gleaninglaw02_SpaceApart.l1 apCnt
    rw [if_neg (by omega), e1, e2]
    by_cases c1 : x ≥ a
    · rw [if_pos c1]
      by_cases c2 : x < a + apSum zs zs.length
      · rw [if_pos c2, if_pos ⟨c1, c2⟩]; rfl
      · rw [if_neg c2, if_neg (by omega)]; rfl
    · rw [if_neg c1, if_neg (by omega)]; rfl
  | d + 1, i, k + 1, h, hk => by
    have ih := apCount (x := x) a0 a1 hn hz d (i + 1) k (by omega) (by omega)
    have s := apSum_in hz i
    have s' := apSum_in hz (i + 1)
    have hzi := hz i
    have hs := apSum_succ zs i
    have hl := apParts_len a zs zs.length
    have e1 : rd_T31 (apParts a zs zs.length) (i : Int) = ⟨a + apSum zs i, a + apSum zs i, a + apSum zs (i + 1)⟩ := by
      unfold rd_T31; rw [Int.toNat_natCast]; exact apParts_at a zs _ i (by omega)
    have e2 : wrap64 ((i : Int) + 1) = ((i + 1 : Nat) : Int) := by rw [apWrap (by omega) (by omega)]; omega
    have hH := apHas (f := a + apSum zs i) (e := a + apSum zs (i + 1)) (x := x) (by omega) (by omega) (by omega)
    unfold gleaninglaw02_SpaceApart.l1
    rw [if_pos (by omega), if_pos (by omega), if_pos (by omega), e1]
    dsimp only
    rw [hH, e2]
    simp only [Option.bind_some]
    by_cases c : a + apSum zs i ≤ x ∧ x < a + apSum zs (i + 1)
    · have q : wrap64 (apCnt a zs x i + 1) = apCnt a zs x (i + 1) := by
        unfold apCnt
        rw [if_neg (by omega), if_pos (by omega)]
        exact apWrap (by omega) (by omega)
      rw [if_pos (decide_eq_true c), q]
      exact ih
    · have q : apCnt a zs x i = apCnt a zs x (i + 1) := by
        unfold apCnt
        by_cases c1 : a ≤ x ∧ x < a + apSum zs i
        · rw [if_pos c1, if_pos (by omega)]
        · rw [if_neg c1, if_neg (by omega)]
      rw [if_neg (by simpa using c), q]
      exact ih
theorem apFill {a x : Int} {zs : List Int} (a0 : 0 ≤ a) (a1 : a ≤ 255) (x0 : 0 ≤ x) (x1 : x ≤ 65535) (hn : zs.length ≤ 12) (hz : ∀ i, 0 ≤ zs.getD i 0 ∧ zs.getD i 0 ≤ 255) :
    ∀ d i k, zs.length = i + d → d + zs.length + 1 < k → gleaninglaw02_SpaceApart.l0 k a zs x (zs.take i) (apSum zs i) zs.length i = some true
  | d, i, 0, _, hk => by omega
  | 0, i, k + 1, h, hk => by
    obtain rfl : i = zs.length := by omega
    have e1 : wrap64 a = a := apWrap (by omega) (by omega)
    have e2 : wrap64 x = x := apWrap (by omega) (by omega)
    have hS := apSplit a0 a1 hn hz zs.length 0 k (by omega) (by omega)
    have hC := apCount (x := x) a0 a1 hn hz zs.length 0 k (by omega) (by omega)
    have hc0 : apCnt a zs x 0 = 0 := by unfold apCnt; rw [if_neg (by simp [apSum])]
    rw [hc0] at hC
    have hS' : space_Split.f k a zs = some (apParts a zs zs.length, 0) := by
      unfold space_Split.f
      have : a + apSum zs 0 = a := by simp [apSum]
      rw [this] at hS
      exact hS
    unfold gleaninglaw02_SpaceApart.l0
    rw [if_neg (by omega), List.take_length, e1, hS']
    simp only [Option.bind_some]
    rw [if_pos trivial, e2, apParts_len]
    exact hC
  | d + 1, i, k + 1, h, hk => by
    have ih := apFill a0 a1 x0 x1 hn hz d (i + 1) k (by omega) (by omega)
    have s := apSum_in hz i
    have hzi := hz i
    have e1 : rd zs (i : Int) = zs.getD i 0 := by unfold rd; simp
    have e2 : wrap64 ((i : Int) + 1) = ((i + 1 : Nat) : Int) := by rw [apWrap (by omega) (by omega)]; omega
    have e3 : wrap64 (zs.getD i 0) = zs.getD i 0 := apWrap (by omega) (by omega)
    have e4 : wrap64 (apSum zs i + zs.getD i 0) = apSum zs (i + 1) := by rw [apWrap (by omega) (by omega), apSum_succ]
    have e5 : zs.take i ++ [zs.getD i 0] = zs.take (i + 1) := by
      rw [List.take_add_one, List.getD_eq_getElem?_getD, List.getElem?_eq_getElem (by omega)]; rfl
    have hl : (zs.take i).length < 17592186044416 := by rw [List.length_take]; omega
    unfold gleaninglaw02_SpaceApart.l0
    rw [if_pos (by omega), if_pos (by omega), if_pos (by omega), if_pos hl, e1, e3, e4, e5, e2]
    exact ih
theorem apAwake (k : Nat) : gleaninglaw02_awake.f (k + 1) = some true := by
  have r1 : space_Space_Right.f 10 10 15 = some true := by decide
  have r2 : space_Space_Right.f 10 13 15 = some true := by decide
  have w1 : wrap64 ((15 : Int) - 10) = 5 := apWrap (by omega) (by omega)
  have w2 : wrap64 ((15 : Int) - 13) = 2 := apWrap (by omega) (by omega)
  have w3 : wrap64 ((10 : Int) + 3) = 13 := apWrap (by omega) (by omega)
  have n : space_New.f 10 5 = some (10, 10, 15, 0) := apNew (by omega) (by omega) (by omega)
  have m1 : space_Space_Room.f 10 10 15 = some 5 := by unfold space_Space_Room.f; rw [r1, Option.bind_some, if_pos rfl, w1]
  have m2 : space_Space_Room.f 10 13 15 = some 2 := by unfold space_Space_Room.f; rw [r2, Option.bind_some, if_pos rfl, w2]
  have t : space_Space_Take.f (k + 1) 10 10 15 3 = some (10, 10, 13, 15, 0) := by
    unfold space_Space_Take.f
    rw [if_neg (by omega), r1]
    simp only [Option.bind_some]
    unfold space_Space_Take.j0
    dsimp only
    rw [if_neg (by decide), m1]
    simp only [Option.bind_some]
    rw [if_neg (by omega), w3]
  have h1 : space_Space_Has.f 10 13 15 12 = some true := by unfold space_Space_Has.f; rw [r2]; rfl
  have h2 : space_Space_Has.f 10 13 15 13 = some false := by unfold space_Space_Has.f; rw [r2]; rfl
  unfold gleaninglaw02_awake.f
  rw [n]
  simp only [Option.bind_some]
  rw [t]
  simp only [Option.bind_some, if_true]
  rw [m2]
  simp only [Option.bind_some, if_true]
  rw [h1]
  simp only [Option.bind_some, if_true]
  rw [h2]
  rfl
theorem apU8 {n : Int} (h : (Lit.int .u8 n).wf = true) : 0 ≤ n ∧ n ≤ 255 := by
  simp [Lit.wf, IntKind.min, IntKind.max, IntKind.signed, IntKind.bits] at h
  omega
theorem apU16 {n : Int} (h : (Lit.int .u16 n).wf = true) : 0 ≤ n ∧ n ≤ 65535 := by
  simp [Lit.wf, IntKind.min, IntKind.max, IntKind.signed, IntKind.bits] at h
  omega

/-- For every from, sizes and item the program's function answers true. -/
theorem SpaceApart : gleaninglaw02_SpaceApart.Pure := by
  intro a zs x ha _ _ hz hx
  obtain ⟨a0, a1⟩ := apU8 ha
  obtain ⟨x0, x1⟩ := apU16 hx
  refine ⟨29, ?_⟩
  unfold gleaninglaw02_SpaceApart.f
  rw [apAwake 28]
  simp only [Option.bind_some, if_true]
  unfold gleaninglaw02_SpaceApart.j0
  dsimp only
  by_cases hn : (zs.length : Int) > 12
  · rw [if_pos (decide_eq_true hn), apAwake 27]; rfl
  · rw [if_neg (show ¬ decide ((zs.length : Int) > 12) = true from fun h => hn (of_decide_eq_true h))]
    have hz' : ∀ i, 0 ≤ zs.getD i 0 ∧ zs.getD i 0 ≤ 255 := by
      intro i
      rw [List.getD_eq_getElem?_getD]
      by_cases hi : i < zs.length
      · rw [List.getElem?_eq_getElem hi]; exact apU8 (hz _ (List.getElem_mem hi))
      · rw [List.getElem?_eq_none (by omega)]; decide
    have := apFill a0 a1 x0 x1 (by omega) hz' zs.length 0 28 (by omega) (by omega)
    simpa [apSum] using this
end Go.Proofs.Ytlhbfeddgopfjaa.Pure
