/-
  The walk of the law CardNear: for every two bounds and every two addresses it returns true, and memory below the heap's old size is unchanged, where the library's table lies. No other condition.
-/
import Derived.Test.YtdfpmgpdkajhkaaDoorCe
import Derived.Test.YtdfpmgpdkajhkaaDoorArg
namespace Go.Proofs.YtdfpmgpdkajhkaaDoor
open Go.RowKit
theorem near_one {n : Nat} {k : Int} (h0 : 0 ≤ k) (hn : k < n) : newB n 0 k = true ∧ hasB (setM n 0 k) k = true ∧ newB n (setM n 0 k) k = false ∧ setM n (setM n 0 k) k = setM n 0 k ∧ popM n (setM n 0 k) = 1 := by
  have e1 : newB n 0 k = true := by rw [newB_eq, hasB_zero]; simp; omega
  have e2 : hasB (setM n 0 k) k = true := by rw [hasB_set]; simp; omega
  have e3 : newB n (setM n 0 k) k = false := by rw [newB_eq, e2]; simp
  exact ⟨e1, e2, e3, setM_old e3, by rw [popM_new e1, popM_zero]⟩
theorem near_two {n : Nat} {k j : Int} (h : k ≠ j) : hasB (setM n 0 k) j = false := by
  rw [hasB_set, hasB_zero]; simp [h]
set_option maxRecDepth 100000 in
set_option maxHeartbeats 4000000 in
theorem cardNear_a (w : World) (x y a b : Int) (hx : 0 ≤ x ∧ x ≤ 65535) (hy : 0 ≤ y ∧ y ≤ 65535) (ha : 0 ≤ a ∧ a ≤ 65535) (hb : 0 ≤ b ∧ b ≤ 65535) (fr to : Nat) (hfr : fr = plc x) (hto : to = plt fr y) (two : Bool) (hT : Tab w) (E1 : Hid (newB (ncard fr to) 0 (cardI fr to a) = false)) (E2 : Hid (newB (ncard fr to) 0 (cardI fr to b) = two)) (E3 : Hid (hasB (setM (ncard fr to) 0 (cardI fr to a)) (cardI fr to b) = false)) :
    Calls Tryd.prog 12 #[.int .u16 x, .int .u16 y, .int .u16 a, .int .u16 b] w fun e w' => e = .returned (.bool true) ∧ Below w.heap.size w w' := by
  have HT := Lib.hid hT
  have HTO := Lib.hid hto
  have HFR := Lib.hid hfr
  clear hT hto hfr
  obtain ⟨x0, x1⟩ := hx
  obtain ⟨y0, y1⟩ := hy
  obtain ⟨a0, a1⟩ := ha
  obtain ⟨b0, b1⟩ := hb
  have ex : IntKind.i64.wrap x = x := IntWalk.i64_in _ (by omega)
  have ey : IntKind.i64.wrap y = y := IntWalk.i64_in _ (by omega)
  go_enter Tryd.func12, Tryd.ntmps12
  go_wp2_with fail
  refine (awake7_any HT.out).mono ?_
  rintro e w1 ⟨rfl, hB⟩
  have HB := Lib.hid hB
  have HT1 := Lib.hid (HT.out.below hB HT.out.2)
  clear hB
  go_wp2_with fail
  refine (tnew_any HT1.out x y).mono ?_
  rintro e w2 ⟨t1, b1, g1, rfl, _, _, hg, hM, hB⟩
  rw [← HFR.out, ← HTO.out] at hM
  have HA := Lib.hid hM
  have HB2 := Lib.hid (HB.out.trans (hB.mono HB.out.size))
  have HG1 := Lib.hid (Nat.le_trans HB.out.size hg)
  clear hM hB hg HB HT1
  go_wp2_with fail
  refine (tnew_any HA.out.bm.tab x y).mono ?_
  rintro e w3 ⟨t2, b2, g2, rfl, _, _, hg, hM, hB⟩
  rw [← HFR.out, ← HTO.out] at hM
  have HNE : Hid (g1 ≠ g2) := Lib.hid (by have := HA.out.bm.ws.lt; omega)
  have HC := Lib.hid hM
  have HA1 := Lib.hid (HA.out.up hB)
  have HB3 := Lib.hid (HB2.out.trans (hB.mono HB2.out.size))
  have HG2 := Lib.hid (Nat.le_trans HB2.out.size hg)
  clear hM hB hg HA HB2
  clear ex ey
  go_wp2_with fail
  refine (touch_any HA1.out _).mono ?_
  rintro e w4 ⟨rfl, hM, hG⟩
  rw [E1.out]
  have HA := Lib.hid hM
  have HC1 := Lib.hid (HC.out.other HA1.out.bm (Ne.symm HNE.out) hG)
  have B4 := Lib.hid (below_only HB3.out hG HB3.out.size HG1.out)
  clear hM hG HA1 HC HB3
  go_wp2_with fail
  refine (touch_any HC1.out _).mono ?_
  rintro e w5 ⟨rfl, hM, hG⟩
  rw [E2.out]
  have HC := Lib.hid hM
  have HA1 := Lib.hid (HA.out.other HC1.out.bm HNE.out hG)
  have B5 := Lib.hid (below_only B4.out hG B4.out.size HG2.out)
  clear hM hG HC1 HA B4
  go_wp2_with fail
  refine (dirty_any HA1.out _).mono ?_
  rintro e w_ ⟨rfl, rfl⟩
  rw [E3.out]
  go_wp2
  go_ret
  exact ⟨rfl, B5.out⟩
set_option maxRecDepth 100000 in
set_option maxHeartbeats 4000000 in
theorem cardNear_b (w : World) (x y a b : Int) (hx : 0 ≤ x ∧ x ≤ 65535) (hy : 0 ≤ y ∧ y ≤ 65535) (ha : 0 ≤ a ∧ a ≤ 65535) (hb : 0 ≤ b ∧ b ≤ 65535) (fr to : Nat) (hfr : fr = plc x) (hto : to = plt fr y) (hT : Tab w) (E1 : Hid (newB (ncard fr to) 0 (cardI fr to a) = true)) (E2 : Hid (newB (ncard fr to) 0 (cardI fr to b) = false)) (E3 : Hid (hasB (setM (ncard fr to) 0 (cardI fr to a)) (cardI fr to b) = false)) (E5 : Hid (hasB (setM (ncard fr to) 0 (cardI fr to a)) (cardI fr to a) = true)) (E6 : Hid (newB (ncard fr to) (setM (ncard fr to) 0 (cardI fr to a)) (cardI fr to a) = false)) (E7 : Hid (setM (ncard fr to) (setM (ncard fr to) 0 (cardI fr to a)) (cardI fr to a) = (setM (ncard fr to) 0 (cardI fr to a)))) (E8 : Hid (popM (ncard fr to) (setM (ncard fr to) 0 (cardI fr to a)) = 1)) :
    Calls Tryd.prog 12 #[.int .u16 x, .int .u16 y, .int .u16 a, .int .u16 b] w fun e w' => e = .returned (.bool true) ∧ Below w.heap.size w w' := by
  have HT := Lib.hid hT
  have HTO := Lib.hid hto
  have HFR := Lib.hid hfr
  clear hT hto hfr
  obtain ⟨x0, x1⟩ := hx
  obtain ⟨y0, y1⟩ := hy
  obtain ⟨a0, a1⟩ := ha
  obtain ⟨b0, b1⟩ := hb
  have ex : IntKind.i64.wrap x = x := IntWalk.i64_in _ (by omega)
  have ey : IntKind.i64.wrap y = y := IntWalk.i64_in _ (by omega)
  go_enter Tryd.func12, Tryd.ntmps12
  go_wp2_with fail
  refine (awake7_any HT.out).mono ?_
  rintro e w1 ⟨rfl, hB⟩
  have HB := Lib.hid hB
  have HT1 := Lib.hid (HT.out.below hB HT.out.2)
  clear hB
  go_wp2_with fail
  refine (tnew_any HT1.out x y).mono ?_
  rintro e w2 ⟨t1, b1, g1, rfl, _, _, hg, hM, hB⟩
  rw [← HFR.out, ← HTO.out] at hM
  have HA := Lib.hid hM
  have HB2 := Lib.hid (HB.out.trans (hB.mono HB.out.size))
  have HG1 := Lib.hid (Nat.le_trans HB.out.size hg)
  clear hM hB hg HB HT1
  go_wp2_with fail
  refine (tnew_any HA.out.bm.tab x y).mono ?_
  rintro e w3 ⟨t2, b2, g2, rfl, _, _, hg, hM, hB⟩
  rw [← HFR.out, ← HTO.out] at hM
  have HNE : Hid (g1 ≠ g2) := Lib.hid (by have := HA.out.bm.ws.lt; omega)
  have HC := Lib.hid hM
  have HA1 := Lib.hid (HA.out.up hB)
  have HB3 := Lib.hid (HB2.out.trans (hB.mono HB2.out.size))
  have HG2 := Lib.hid (Nat.le_trans HB2.out.size hg)
  clear hM hB hg HA HB2
  clear ex ey
  go_wp2_with fail
  refine (touch_any HA1.out _).mono ?_
  rintro e w4 ⟨rfl, hM, hG⟩
  rw [E1.out]
  have HA := Lib.hid hM
  have HC1 := Lib.hid (HC.out.other HA1.out.bm (Ne.symm HNE.out) hG)
  have B4 := Lib.hid (below_only HB3.out hG HB3.out.size HG1.out)
  clear hM hG HA1 HC HB3
  go_wp2_with fail
  refine (touch_any HC1.out _).mono ?_
  rintro e w5 ⟨rfl, hM, hG⟩
  rw [E2.out]
  have HC := Lib.hid hM
  have HA1 := Lib.hid (HA.out.other HC1.out.bm HNE.out hG)
  have B5 := Lib.hid (below_only B4.out hG B4.out.size HG2.out)
  clear hM hG HC1 HA B4
  go_wp2_with fail
  refine (dirty_any HA1.out _).mono ?_
  rintro e w_ ⟨rfl, rfl⟩
  rw [E3.out]
  go_wp2_with fail
  refine (dirty_any HA1.out _).mono ?_
  rintro e w_ ⟨rfl, rfl⟩
  rw [E5.out]
  go_wp2_with fail
  refine (touch_any HA1.out _).mono ?_
  rintro e w6 ⟨rfl, hM, hG⟩
  rw [E7.out] at hM
  rw [E6.out]
  have HA := Lib.hid hM
  have B6 := Lib.hid (below_only B5.out hG B5.out.size HG1.out)
  clear hM hG HA1 B5
  go_wp2_with fail
  refine (all_any HA.out).mono ?_
  rintro e w7 ⟨A1, c1, rfl, hO, hM, hB⟩
  rw [E8.out]
  have B7 := Lib.hid (B6.out.trans (hB.mono B6.out.size))
  clear hM hO hB
  go_wp2
  go_ret
  exact ⟨rfl, B7.out⟩
set_option maxRecDepth 100000 in
set_option maxHeartbeats 4000000 in
theorem cardNear_c (w : World) (x y a b : Int) (hx : 0 ≤ x ∧ x ≤ 65535) (hy : 0 ≤ y ∧ y ≤ 65535) (ha : 0 ≤ a ∧ a ≤ 65535) (hb : 0 ≤ b ∧ b ≤ 65535) (fr to : Nat) (hfr : fr = plc x) (hto : to = plt fr y) (hT : Tab w) (E1 : Hid (newB (ncard fr to) 0 (cardI fr to a) = true)) (E2 : Hid (newB (ncard fr to) 0 (cardI fr to b) = true)) (E3 : Hid (hasB (setM (ncard fr to) 0 (cardI fr to a)) (cardI fr to b) = false)) (E4 : Hid (hasB (setM (ncard fr to) 0 (cardI fr to b)) (cardI fr to a) = false)) (E5 : Hid (hasB (setM (ncard fr to) 0 (cardI fr to a)) (cardI fr to a) = true)) (E6 : Hid (newB (ncard fr to) (setM (ncard fr to) 0 (cardI fr to a)) (cardI fr to a) = false)) (E7 : Hid (setM (ncard fr to) (setM (ncard fr to) 0 (cardI fr to a)) (cardI fr to a) = (setM (ncard fr to) 0 (cardI fr to a)))) (E8 : Hid (popM (ncard fr to) (setM (ncard fr to) 0 (cardI fr to a)) = 1)) :
    Calls Tryd.prog 12 #[.int .u16 x, .int .u16 y, .int .u16 a, .int .u16 b] w fun e w' => e = .returned (.bool true) ∧ Below w.heap.size w w' := by
  have HT := Lib.hid hT
  have HTO := Lib.hid hto
  have HFR := Lib.hid hfr
  clear hT hto hfr
  obtain ⟨x0, x1⟩ := hx
  obtain ⟨y0, y1⟩ := hy
  obtain ⟨a0, a1⟩ := ha
  obtain ⟨b0, b1⟩ := hb
  have ex : IntKind.i64.wrap x = x := IntWalk.i64_in _ (by omega)
  have ey : IntKind.i64.wrap y = y := IntWalk.i64_in _ (by omega)
  go_enter Tryd.func12, Tryd.ntmps12
  go_wp2_with fail
  refine (awake7_any HT.out).mono ?_
  rintro e w1 ⟨rfl, hB⟩
  have HB := Lib.hid hB
  have HT1 := Lib.hid (HT.out.below hB HT.out.2)
  clear hB
  go_wp2_with fail
  refine (tnew_any HT1.out x y).mono ?_
  rintro e w2 ⟨t1, b1, g1, rfl, _, _, hg, hM, hB⟩
  rw [← HFR.out, ← HTO.out] at hM
  have HA := Lib.hid hM
  have HB2 := Lib.hid (HB.out.trans (hB.mono HB.out.size))
  have HG1 := Lib.hid (Nat.le_trans HB.out.size hg)
  clear hM hB hg HB HT1
  go_wp2_with fail
  refine (tnew_any HA.out.bm.tab x y).mono ?_
  rintro e w3 ⟨t2, b2, g2, rfl, _, _, hg, hM, hB⟩
  rw [← HFR.out, ← HTO.out] at hM
  have HNE : Hid (g1 ≠ g2) := Lib.hid (by have := HA.out.bm.ws.lt; omega)
  have HC := Lib.hid hM
  have HA1 := Lib.hid (HA.out.up hB)
  have HB3 := Lib.hid (HB2.out.trans (hB.mono HB2.out.size))
  have HG2 := Lib.hid (Nat.le_trans HB2.out.size hg)
  clear hM hB hg HA HB2
  clear ex ey
  go_wp2_with fail
  refine (touch_any HA1.out _).mono ?_
  rintro e w4 ⟨rfl, hM, hG⟩
  rw [E1.out]
  have HA := Lib.hid hM
  have HC1 := Lib.hid (HC.out.other HA1.out.bm (Ne.symm HNE.out) hG)
  have B4 := Lib.hid (below_only HB3.out hG HB3.out.size HG1.out)
  clear hM hG HA1 HC HB3
  go_wp2_with fail
  refine (touch_any HC1.out _).mono ?_
  rintro e w5 ⟨rfl, hM, hG⟩
  rw [E2.out]
  have HC := Lib.hid hM
  have HA1 := Lib.hid (HA.out.other HC1.out.bm HNE.out hG)
  have B5 := Lib.hid (below_only B4.out hG B4.out.size HG2.out)
  clear hM hG HC1 HA B4
  go_wp2_with fail
  refine (dirty_any HA1.out _).mono ?_
  rintro e w_ ⟨rfl, rfl⟩
  rw [E3.out]
  go_wp2_with fail
  refine (dirty_any HC.out _).mono ?_
  rintro e w_ ⟨rfl, rfl⟩
  rw [E4.out]
  go_wp2_with fail
  refine (dirty_any HA1.out _).mono ?_
  rintro e w_ ⟨rfl, rfl⟩
  rw [E5.out]
  go_wp2_with fail
  refine (touch_any HA1.out _).mono ?_
  rintro e w6 ⟨rfl, hM, hG⟩
  rw [E7.out] at hM
  rw [E6.out]
  have HA := Lib.hid hM
  have B6 := Lib.hid (below_only B5.out hG B5.out.size HG1.out)
  clear hM hG HA1 B5
  go_wp2_with fail
  refine (all_any HA.out).mono ?_
  rintro e w7 ⟨A1, c1, rfl, hO, hM, hB⟩
  rw [E8.out]
  have B7 := Lib.hid (B6.out.trans (hB.mono B6.out.size))
  clear hM hO hB
  go_wp2
  go_ret
  exact ⟨rfl, B7.out⟩
set_option maxRecDepth 100000 in
set_option maxHeartbeats 4000000 in
theorem cardNear_d (w : World) (x y a b : Int) (hx : 0 ≤ x ∧ x ≤ 65535) (hy : 0 ≤ y ∧ y ≤ 65535) (ha : 0 ≤ a ∧ a ≤ 65535) (hb : 0 ≤ b ∧ b ≤ 65535) (fr to : Nat) (hfr : fr = plc x) (hto : to = plt fr y) (hT : Tab w) (E1 : Hid (newB (ncard fr to) 0 (cardI fr to a) = true)) (E2 : Hid (newB (ncard fr to) 0 (cardI fr to b) = true)) (E3 : Hid (hasB (setM (ncard fr to) 0 (cardI fr to a)) (cardI fr to b) = true)) (E4 : Hid (hasB (setM (ncard fr to) 0 (cardI fr to b)) (cardI fr to a) = true)) (E5 : Hid (hasB (setM (ncard fr to) 0 (cardI fr to a)) (cardI fr to a) = true)) (E6 : Hid (newB (ncard fr to) (setM (ncard fr to) 0 (cardI fr to a)) (cardI fr to a) = false)) (E7 : Hid (setM (ncard fr to) (setM (ncard fr to) 0 (cardI fr to a)) (cardI fr to a) = (setM (ncard fr to) 0 (cardI fr to a)))) (E8 : Hid (popM (ncard fr to) (setM (ncard fr to) 0 (cardI fr to a)) = 1)) (d1 : a - b < 16) (d2 : b - a < 16) :
    Calls Tryd.prog 12 #[.int .u16 x, .int .u16 y, .int .u16 a, .int .u16 b] w fun e w' => e = .returned (.bool true) ∧ Below w.heap.size w w' := by
  have HT := Lib.hid hT
  have HTO := Lib.hid hto
  have HFR := Lib.hid hfr
  clear hT hto hfr
  obtain ⟨x0, x1⟩ := hx
  obtain ⟨y0, y1⟩ := hy
  obtain ⟨a0, a1⟩ := ha
  obtain ⟨b0, b1⟩ := hb
  have ex : IntKind.i64.wrap x = x := IntWalk.i64_in _ (by omega)
  have ey : IntKind.i64.wrap y = y := IntWalk.i64_in _ (by omega)
  go_enter Tryd.func12, Tryd.ntmps12
  go_wp2_with fail
  refine (awake7_any HT.out).mono ?_
  rintro e w1 ⟨rfl, hB⟩
  have HB := Lib.hid hB
  have HT1 := Lib.hid (HT.out.below hB HT.out.2)
  clear hB
  go_wp2_with fail
  refine (tnew_any HT1.out x y).mono ?_
  rintro e w2 ⟨t1, b1, g1, rfl, _, _, hg, hM, hB⟩
  rw [← HFR.out, ← HTO.out] at hM
  have HA := Lib.hid hM
  have HB2 := Lib.hid (HB.out.trans (hB.mono HB.out.size))
  have HG1 := Lib.hid (Nat.le_trans HB.out.size hg)
  clear hM hB hg HB HT1
  go_wp2_with fail
  refine (tnew_any HA.out.bm.tab x y).mono ?_
  rintro e w3 ⟨t2, b2, g2, rfl, _, _, hg, hM, hB⟩
  rw [← HFR.out, ← HTO.out] at hM
  have HNE : Hid (g1 ≠ g2) := Lib.hid (by have := HA.out.bm.ws.lt; omega)
  have HC := Lib.hid hM
  have HA1 := Lib.hid (HA.out.up hB)
  have HB3 := Lib.hid (HB2.out.trans (hB.mono HB2.out.size))
  have HG2 := Lib.hid (Nat.le_trans HB2.out.size hg)
  clear hM hB hg HA HB2
  clear ex ey
  go_wp2_with fail
  refine (touch_any HA1.out _).mono ?_
  rintro e w4 ⟨rfl, hM, hG⟩
  rw [E1.out]
  have HA := Lib.hid hM
  have HC1 := Lib.hid (HC.out.other HA1.out.bm (Ne.symm HNE.out) hG)
  have B4 := Lib.hid (below_only HB3.out hG HB3.out.size HG1.out)
  clear hM hG HA1 HC HB3
  go_wp2_with fail
  refine (touch_any HC1.out _).mono ?_
  rintro e w5 ⟨rfl, hM, hG⟩
  rw [E2.out]
  have HC := Lib.hid hM
  have HA1 := Lib.hid (HA.out.other HC1.out.bm HNE.out hG)
  have B5 := Lib.hid (below_only B4.out hG B4.out.size HG2.out)
  clear hM hG HC1 HA B4
  go_wp2_with fail
  refine (dirty_any HA1.out _).mono ?_
  rintro e w_ ⟨rfl, rfl⟩
  rw [E3.out]
  go_wp2_with fail
  refine (dirty_any HC.out _).mono ?_
  rintro e w_ ⟨rfl, rfl⟩
  rw [E4.out]
  go_wp2_with fail
  refine (dirty_any HA1.out _).mono ?_
  rintro e w_ ⟨rfl, rfl⟩
  rw [E5.out]
  go_wp2_with fail
  refine (touch_any HA1.out _).mono ?_
  rintro e w6 ⟨rfl, hM, hG⟩
  rw [E7.out] at hM
  rw [E6.out]
  have HA := Lib.hid hM
  have B6 := Lib.hid (below_only B5.out hG B5.out.size HG1.out)
  clear hM hG HA1 B5
  go_wp2_with fail
  refine (all_any HA.out).mono ?_
  rintro e w7 ⟨A1, c1, rfl, hO, hM, hB⟩
  rw [E8.out]
  have B7 := Lib.hid (B6.out.trans (hB.mono B6.out.size))
  clear hM hO hB
  go_wp2
  go_ret
  exact ⟨rfl, B7.out⟩
theorem cardNear_walk (w : World) (x : Int) (wx : (Lit.int .u16 x).wf = true) (y : Int) (wy : (Lit.int .u16 y).wf = true) (a : Int) (wa : (Lit.int .u16 a).wf = true) (b : Int) (wb : (Lit.int .u16 b).wf = true) (hT : Tab w) :
    Calls Tryd.prog 12 #[.int .u16 x, .int .u16 y, .int .u16 a, .int .u16 b] w fun e w' => e = .returned (.bool true) ∧ Below w.heap.size w w' := by
  have hx := wf_u16 wx
  have hy := wf_u16 wy
  have ha := wf_u16 wa
  have hb := wf_u16 wb
  obtain ⟨fr, hfr⟩ : ∃ fr, fr = plc x := ⟨_, rfl⟩
  obtain ⟨to, hto⟩ : ∃ to, to = plt fr y := ⟨_, rfl⟩
  by_cases h1 : (fr : Int) ≤ a ∧ a < to
  · obtain ⟨c0, c1⟩ := cardI_lt h1
    obtain ⟨e1, e2, e3, e4, e5⟩ := near_one c0 c1
    by_cases h2 : (fr : Int) ≤ b ∧ b < to
    · obtain ⟨d0, d1⟩ := cardI_lt h2
      obtain ⟨f1, f2, _⟩ := near_one d0 d1
      by_cases he : cardI fr to a = cardI fr to b
      · refine cardNear_d w x y a b hx hy ha hb fr to hfr hto hT e1 f1 ?_ ?_ e2 e3 e4 e5 ?_ ?_
        · show hasB _ _ = true
          rw [← he]; exact e2
        · show hasB _ _ = true
          rw [he]; exact f2
        · rw [cardI_in h1, cardI_in h2] at he; omega
        · rw [cardI_in h1, cardI_in h2] at he; omega
      · exact cardNear_c w x y a b hx hy ha hb fr to hfr hto hT e1 f1 (near_two he) (near_two (Ne.symm he)) e2 e3 e4 e5
    · have hc := cardI_out h2
      refine cardNear_b w x y a b hx hy ha hb fr to hfr hto hT e1 ?_ ?_ e2 e3 e4 e5
      · show newB _ _ _ = false
        rw [hc, newB_neg]
      · show hasB _ _ = false
        rw [hc, hasB_neg]
  · have hc := cardI_out h1
    refine cardNear_a w x y a b hx hy ha hb fr to hfr hto (newB (ncard fr to) 0 (cardI fr to b)) hT ?_ rfl ?_
    · show newB _ _ _ = false
      rw [hc, newB_neg]
    · show hasB _ _ = false
      rw [hc, setM_neg, hasB_zero]
end Go.Proofs.YtdfpmgpdkajhkaaDoor
