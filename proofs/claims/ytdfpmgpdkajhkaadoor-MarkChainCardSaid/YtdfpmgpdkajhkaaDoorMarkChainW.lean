/-
  The walk of the law MarkChain: for every three small numbers and every bool it returns true, and memory below the heap's old size is unchanged, where the library's table lies. No other condition.
-/
import Derived.Test.YtdfpmgpdkajhkaaDoorMkg
import Derived.Test.YtdfpmgpdkajhkaaDoorMkh
import Derived.Test.YtdfpmgpdkajhkaaDoorArg
namespace Go.Proofs.YtdfpmgpdkajhkaaDoor
open Go.RowKit
theorem chain_up {n k M : Nat} (hk : k < n) (h : IsR n (chE false) [(k : Int)] M) (i : Nat) : M.testBit i = true ↔ k ≤ i ∧ i < n := by
  constructor
  · intro hi
    refine (h i).1 hi (fun i => k ≤ i ∧ i < n) (fun y hy h0 hn => ?_) (fun j hj y hy h0 hn => ?_)
    · simp at hy; subst hy; simp; omega
    · unfold chE at hy; simp at hy; subst hy; omega
  · rintro ⟨h1, h2⟩
    refine (h i).2 ?_
    induction i with
    | zero => have e : k = 0 := by omega
              subst e
              exact rch_root (y := ((0 : Nat) : Int)) (by simp) (by omega) (by omega)
    | succ i ih =>
      by_cases e : k = i + 1
      · subst e
        have := rch_root (n := n) (E := chE false) (rts := [((i + 1 : Nat) : Int)]) (y := ((i + 1 : Nat) : Int)) (by simp) (by omega) (by omega)
        rwa [Int.toNat_natCast] at this
      · have := rch_step (y := (i : Int) + 1) (ih (by omega) (by omega)) (by unfold chE; simp) (by omega) (by omega)
        rwa [show ((i : Int) + 1).toNat = i + 1 by omega] at this
theorem chain_down {n k M : Nat} (hk : k < n) (h : IsR n (chE true) [(k : Int)] M) (i : Nat) : M.testBit i = true ↔ i ≤ k := by
  constructor
  · intro hi
    refine (h i).1 hi (fun i => i ≤ k) (fun y hy h0 hn => ?_) (fun j hj y hy h0 hn => ?_)
    · simp at hy; subst hy; simp
    · unfold chE at hy; simp at hy; subst hy; omega
  · intro h1
    refine (h i).2 ?_
    obtain ⟨d, hd⟩ : ∃ d, i + d = k := ⟨k - i, by omega⟩
    induction d generalizing i with
    | zero =>
      have e : i = k := by omega
      subst e
      have := rch_root (n := n) (E := chE true) (rts := [(i : Int)]) (y := (i : Int)) (by simp) (by omega) (by omega)
      rwa [Int.toNat_natCast] at this
    | succ d ih =>
      have := rch_step (y := ((i + 1 : Nat) : Int) - 1) (ih (i + 1) (by omega) (by omega)) (by unfold chE; simp) (by omega) (by omega)
      rwa [show (((i + 1 : Nat) : Int) - 1).toNat = i by omega] at this
theorem cnt_from (k : Nat) : ∀ n, k ≤ n → cnt (fun i => decide (k ≤ i)) n = n - k
  | 0, h => by simp [cnt]
  | n + 1, h => by
    unfold cnt
    by_cases e : k = n + 1
    · rw [cnt_none fun i hi => decide_eq_false (by omega)]
      have : ¬ k ≤ n := by omega
      simp [this]; omega
    · rw [cnt_from k n (by omega)]
      have : k ≤ n := by omega
      simp [this]; omega
theorem cnt_upto (k : Nat) : ∀ n, k < n → cnt (fun i => decide (i ≤ k)) n = k + 1
  | 0, h => by omega
  | n + 1, h => by
    unfold cnt
    by_cases e : k = n
    · subst e
      have hall : ∀ m, m ≤ k → cnt (fun i => decide (i ≤ k)) m = m := fun m hm => by
        induction m with
        | zero => rfl
        | succ m ih => unfold cnt; rw [ih (by omega)]; have : m ≤ k := by omega
                       simp [this]
      rw [hall k (Nat.le_refl _)]; simp
    · rw [cnt_upto k n (by omega)]
      have : ¬ n ≤ k := by omega
      simp [this]
theorem chain_pop {n k M : Nat} {down : Bool} (hk : k < n) (h : IsR n (chE down) [(k : Int)] M) : ((popM n M : Nat) : Int) = (if down = true then (k : Int) + 1 else (n : Int) - (k : Int)) ∧ hasB M k = true := by
  cases down
  · have hb := chain_up hk h
    have e : popM n M = n - k := by
      rw [← cnt_from k n (by omega)]
      refine cnt_congr n fun i hi => ?_
      rw [Bool.eq_iff_iff, hb i, decide_eq_true_iff]
      omega
    refine ⟨by rw [e]; simp; omega, by rw [hasB_nat]; exact (hb k).2 ⟨Nat.le_refl _, hk⟩⟩
  · have hb := chain_down hk h
    have e : popM n M = k + 1 := by
      rw [← cnt_upto k n hk]
      refine cnt_congr n fun i hi => ?_
      rw [Bool.eq_iff_iff, hb i, decide_eq_true_iff]
    refine ⟨by rw [e]; simp, by rw [hasB_nat]; exact (hb k).2 (Nat.le_refl _)⟩
set_option maxRecDepth 100000 in
set_option maxHeartbeats 4000000 in
theorem markChain_nat (w : World) (many from' room : Nat) (down : Bool) (h1 : many ≤ 255) (h2 : from' ≤ 255) (h3 : room ≤ 255) (hT : Tab w) :
    Calls Tryd.prog 18 #[.int .u8 many, .int .u8 from', .bool down, .int .u8 room] w fun e w' => e = .returned (.bool true) ∧ Below w.heap.size w w' := by
  have HT := Lib.hid (hT.up ((Below.refl w.heap.size w).alloc (Nat.le_refl _) (.cells #[.bool down] 4)))
  have HC := Lib.hid ((Blk.new w #[.bool down] 4))
  have hHB0 := Lib.hid ((Below.refl w.heap.size w).alloc (Nat.le_refl _) (.cells #[.bool down] 4))
  clear hT
  obtain ⟨n, hn⟩ : ∃ n, n = 1 + many := ⟨_, rfl⟩
  have en : (1 : Int) + (many : Int) = (n : Int) := by omega
  have hn1 : n ≤ 256 := by omega
  have hn0 : 1 ≤ n := by omega
  clear hn
  obtain ⟨k, hk⟩ : ∃ k, k = from' % n := ⟨_, rfl⟩
  have hkn : k < n := by rw [hk]; exact Nat.mod_lt _ (by omega)
  have ek : (from' : Int) % (n : Int) = (k : Int) := by rw [hk]; omega
  clear hk
  have HPN : Hid (plc (n : Int) = n) := Lib.hid (by unfold plc; rw [if_neg (by omega)]; omega)
  go_enter Tryd.func18, Tryd.ntmps18
  go_wp2_with fail
  refine (awake14_any HT.out).mono ?_
  rintro e w1 ⟨rfl, hB⟩
  have HB := Lib.hid (hHB0.out.trans (hB.mono (by simp)))
  have HT1 := Lib.hid (HT.out.up hB)
  have HC1 := Lib.hid (HC.out.below hB (by simp))
  have hlt : w.heap.size < w1.heap.size := HC1.out.lt
  clear hB HC HT hHB0
  go_wp2_with fail
  have hb2 := (Below.refl w1.heap.size w1).alloc (Nat.le_refl _) (.cells #[.int .i64 k] 3)
  have hrd : Rd (w1.alloc (.cells #[.int .i64 k] 3)) (some ⟨w1.heap.size, 0, none⟩) 1 [(k : Int)] := ⟨rfl, fun _ => ⟨_, _, rfl, by simp, fun i hi => by
    obtain rfl : i = 0 := by omega
    exact (Blk.new w1 _ _).cell (i := 0 + 0) rfl⟩⟩
  have hcap : Cap w.heap.size (w1.alloc (.cells #[.int .i64 k] 3)).heap.size (.bool down) 0 (w1.alloc (.cells #[.int .i64 k] 3)) := ⟨(HC1.out.alloc _).cell rfl, by simp; omega⟩
  refine (reach_any (n : Int) (room : Int) (chain_edges (by rw [HPN.out]; omega)) (HT1.out.up hb2) rfl hcap hrd (by omega)).mono ?_
  rintro e w2 ⟨b, g, M, ρ, rfl, _, _, hM, hIs, _, hF, _⟩
  rw [HPN.out] at hM hIs
  obtain ⟨p1, p2⟩ := chain_pop hkn hIs
  have HM := Lib.hid hM
  have HB2 := Lib.hid (HB.out.trans ((hb2.trans ((Fx.below hF).mono (by simp))).mono HB.out.size))
  have HC2 := Lib.hid ((HC1.out.alloc (.cells #[.int .i64 k] 3)).below (Fx.below hF) (by simp; omega))
  have cx : w2.cell? ⟨w.heap.size, 0, none⟩ = some (.bool down) := HC2.out.cell rfl
  have P2 := Lib.hid p2
  clear hM hIs hF hb2 hrd hcap hlt p2
  cases down
  · have P1 : Hid (((popM n M : Nat) : Int) = (n : Int) - (k : Int)) := Lib.hid p1
    clear p1
    go_wp2_with fail
    refine (count_any HM.out).mono ?_
    rintro e w_ ⟨rfl, rfl⟩
    rw [P1.out]
    go_wp2_with fail
    refine (has_any HM.out _).mono ?_
    rintro e w_ ⟨rfl, rfl⟩
    rw [P2.out]
    go_wp2
    go_ret
    exact ⟨rfl, HB2.out⟩
  · have P1 : Hid (((popM n M : Nat) : Int) = (k : Int) + 1) := Lib.hid p1
    clear p1
    go_wp2_with fail
    refine (count_any HM.out).mono ?_
    rintro e w_ ⟨rfl, rfl⟩
    rw [P1.out]
    go_wp2_with fail
    refine (has_any HM.out _).mono ?_
    rintro e w_ ⟨rfl, rfl⟩
    rw [P2.out]
    go_wp2
    go_ret
    exact ⟨rfl, HB2.out⟩
theorem markChain_walk (w : World) (x : Int) (wx : (Lit.int .u8 x).wf = true) (y : Int) (wy : (Lit.int .u8 y).wf = true) (down : Bool) (r : Int) (wr : (Lit.int .u8 r).wf = true) (hT : Tab w) :
    Calls Tryd.prog 18 #[.int .u8 x, .int .u8 y, .bool down, .int .u8 r] w fun e w' => e = .returned (.bool true) ∧ Below w.heap.size w w' := by
  obtain ⟨x0, x1⟩ := wf_u8 wx
  obtain ⟨y0, y1⟩ := wf_u8 wy
  obtain ⟨r0, r1⟩ := wf_u8 wr
  obtain ⟨a, rfl⟩ : ∃ a : Nat, x = a := ⟨x.toNat, by omega⟩
  obtain ⟨n, rfl⟩ : ∃ n : Nat, y = n := ⟨y.toNat, by omega⟩
  obtain ⟨m, rfl⟩ : ∃ m : Nat, r = m := ⟨r.toNat, by omega⟩
  exact markChain_nat w a n m down (by omega) (by omega) (by omega) hT
end Go.Proofs.YtdfpmgpdkajhkaaDoor
