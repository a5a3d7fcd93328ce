/-
  The walk of the law CardWhole: for every two small numbers it returns true, and memory below the heap's old size is unchanged, where the library's table lies. No other condition.
-/
import Derived.Test.YtdfpmgpdkajhkaaDoorCe
import Derived.Test.YtdfpmgpdkajhkaaDoorNg
import Derived.Test.YtdfpmgpdkajhkaaDoorArg
namespace Go.Proofs.YtdfpmgpdkajhkaaDoor
open Go.RowKit
theorem whole_bit (a n j : Nat) : (addF (ncard a (a + n)) (fun i => cardI a (a + n) ((a : Int) + (i : Int))) n).testBit j = decide (j < ncard a (a + n)) := by
  rw [Bool.eq_iff_iff, addF_bit]
  constructor
  · rintro ⟨_, _, _, h⟩; exact decide_eq_true h
  · intro h
    have h := of_decide_eq_true h
    refine ⟨16 * j, by unfold ncard at h; omega, ?_, h⟩
    unfold ncard at h
    rw [cardI_in (by omega)]
    omega
theorem cnt_all {P : Nat → Bool} : ∀ k, (∀ i, i < k → P i = true) → cnt P k = k
  | 0, _ => rfl
  | k + 1, h => by
    unfold cnt
    rw [cnt_all k fun i hi => h i (by omega), h k (by omega)]; simp
theorem whole_pop (a n : Nat) : popM (ncard a (a + n)) (addF (ncard a (a + n)) (fun i => cardI a (a + n) ((a : Int) + (i : Int))) n) = ncard a (a + n) :=
  cnt_all _ fun i hi => by rw [whole_bit]; exact decide_eq_true hi
theorem whole_get (a n i : Nat) (hi : i < ncard a (a + n)) : (allL a (ncard a (a + n)) (addF (ncard a (a + n)) (fun i => cardI a (a + n) ((a : Int) + (i : Int))) n)).getD i 0 = (a : Int) + (i : Int) * 16 := by
  obtain ⟨j, h1, _, h3, h4⟩ := allL_get (fr := a) (n := ncard a (a + n)) (M := addF (ncard a (a + n)) (fun i => cardI a (a + n) ((a : Int) + (i : Int))) n) (i := i) (by rw [whole_pop]; exact hi)
  rw [cnt_all j fun x hx => by rw [whole_bit]; exact decide_eq_true (by omega)] at h4
  rw [h1, h4]
set_option maxRecDepth 100000 in
set_option maxHeartbeats 4000000 in
theorem cardWhole_nat (w : World) (a n : Nat) (ha : a ≤ 255) (hn : n ≤ 255) (hT : Tab w) :
    Calls Tryd.prog 13 #[.int .u8 a, .int .u8 n] w fun e w' => e = .returned (.bool true) ∧ Below w.heap.size w w' := by
  have HT := Lib.hid hT
  clear hT
  have HFR : Hid (plc (a : Int) = a) := Lib.hid (by unfold plc; rw [if_neg (by omega)]; omega)
  have HTO : Hid (plt a ((a : Int) + (n : Int)) = a + n) := Lib.hid (by unfold plt; rw [if_neg (by omega : ¬ (4096 : Int) < (a : Int) + (n : Int))]; split <;> omega)
  have HP := Lib.hid (whole_pop a n)
  have HG := Lib.hid (whole_get a n)
  have ho1 := cardI_out (fr := a) (to := a + n) (x := (a : Int) + (n : Int)) (by omega)
  have ho2 := cardI_out (fr := a) (to := a + n) (x := (a : Int) - 1) (by omega)
  have HO1 := Lib.hid ho1
  have HO2 := Lib.hid ho2
  clear ho1 ho2
  have hnc : ((n : Int) + 16 - 1) / 16 = ((ncard a (a + n) : Nat) : Int) := by unfold ncard; omega
  have hn256 : ncard a (a + n) ≤ 256 := by unfold ncard; omega
  obtain ⟨nc, hnc'⟩ : ∃ nc, nc = ncard a (a + n) := ⟨_, rfl⟩
  have HNC := Lib.hid hnc'
  rw [← hnc'] at hnc hn256 HP HG
  clear hnc'
  go_enter Tryd.func13, Tryd.ntmps13
  go_wp2_with fail
  refine (awake7_any HT.out).mono ?_
  rintro e w1 ⟨rfl, hB⟩
  have HB := Lib.hid hB
  have HT1 := Lib.hid (HT.out.below hB HT.out.2)
  clear hB
  go_wp2_with fail
  refine (tnew_any HT1.out _ _).mono ?_
  rintro e w2 ⟨t, b, g, rfl, _, _, hg, hM, hB⟩
  rw [HFR.out, HTO.out] at hM
  have HA := Lib.hid hM
  have HB2 := Lib.hid (HB.out.trans (hB.mono HB.out.size))
  have HG1 := Lib.hid (Nat.le_trans HB.out.size hg)
  clear hM hB hg HB HT1
  go_wp2
  go_loopw [23] (fun i wr => ∃ k : Nat, k ≤ n ∧ i = .int .i64 k ∧ Hid (TM wr t b g a (a + n) (addF nc (fun i => cardI a (a + n) ((a : Int) + (i : Int))) k)) ∧ Hid (Below w.heap.size w wr)) (fun i _ => n - (intOf i).toNat)
  case atStart => exact ⟨0, Nat.zero_le _, rfl, HA, HB2⟩
  case round =>
    clear HA HB2
    obtain ⟨k, hk, rfl, HA, HB⟩ := hrel
    by_cases hkn : k < n
    · go_wp2_with fail
      refine (touch_any HA.out _).mono ?_
      rintro e w3 ⟨rfl, hM, hG⟩
      rw [← HNC.out] at hM
      have HA1 := Lib.hid hM
      have HB1 := Lib.hid (below_only HB.out hG HB.out.size HG1.out)
      clear hM hG
      go_wp2
      go_roundw
      case rel => exact ⟨k + 1, by omega, by go_num, HA1, HB1⟩
      case measure => simp [intOf]; omega
    · have hke : k = n := by omega
      rw [hke] at HA
      clear hke hk
      go_wp2_with fail
      refine (all_any HA.out).mono ?_
      rintro e w3 ⟨A, c, rfl, hO, hM, hB⟩
      rw [← HNC.out, HP.out] at hO
      rw [← HNC.out, HP.out]
      have HA1 := Lib.hid hM
      have HOW := Lib.hid hO
      have B1 := Lib.hid (HB.out.trans (hB.mono HB.out.size))
      clear hM hO hB HA HB
      go_wp2
      go_loop [36] (fun i => ∃ k : Nat, k ≤ nc ∧ i = .int .i64 k) (fun i => nc - (intOf i).toNat)
      case atStart => exact ⟨0, Nat.zero_le _, rfl⟩
      case round =>
        obtain ⟨i, hi, rfl⟩ := hrel
        by_cases hin : i < nc
        · obtain ⟨ga, rfl, _, hga, hdc, hcell⟩ := HOW.out.at (by omega)
          have hx := hcell i hin
          rw [HG.out i hin] at hx
          clear hcell
          go_wp2
          go_round
          case rel => exact ⟨i + 1, by omega, by go_num⟩
          case measure => simp [intOf]; omega
        · go_wp2_with fail
          refine (dirty_any HA1.out _).mono ?_
          rintro e w_ ⟨rfl, rfl⟩
          rw [HO1.out, hasB_neg]
          go_wp2_with fail
          refine (dirty_any HA1.out _).mono ?_
          rintro e w_ ⟨rfl, rfl⟩
          rw [HO2.out, hasB_neg]
          go_wp2
          go_ret
          exact ⟨rfl, B1.out⟩
theorem cardWhole_walk (w : World) (x : Int) (wx : (Lit.int .u8 x).wf = true) (y : Int) (wy : (Lit.int .u8 y).wf = true) (hT : Tab w) :
    Calls Tryd.prog 13 #[.int .u8 x, .int .u8 y] w fun e w' => e = .returned (.bool true) ∧ Below w.heap.size w w' := by
  obtain ⟨x0, x1⟩ := wf_u8 wx
  obtain ⟨y0, y1⟩ := wf_u8 wy
  obtain ⟨a, rfl⟩ : ∃ a : Nat, x = a := ⟨x.toNat, by omega⟩
  obtain ⟨n, rfl⟩ : ∃ n : Nat, y = n := ⟨y.toNat, by omega⟩
  exact cardWhole_nat w a n (by omega) (by omega) hT
end Go.Proofs.YtdfpmgpdkajhkaaDoor
