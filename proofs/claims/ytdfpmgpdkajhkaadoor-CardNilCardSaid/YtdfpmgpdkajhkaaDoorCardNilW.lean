/-
  The walk of the law CardNil: for every int it returns true, and memory below the heap's old size is unchanged, where the library's table lies. No other condition.
-/
import Derived.Test.YtdfpmgpdkajhkaaDoorCe
import Derived.Test.YtdfpmgpdkajhkaaDoorArg
namespace Go.Proofs.YtdfpmgpdkajhkaaDoor
open Go.RowKit
theorem plt_self (x : Int) : plt (plc x) x = plc x := by
  unfold plt plc
  by_cases h : 4096 < x
  · simp only [if_pos h]; split <;> omega
  · simp only [if_neg h]; split <;> omega
set_option maxRecDepth 100000 in
set_option maxHeartbeats 4000000 in
theorem cardNil_walk (w : World) (a : Int) (_ : (Lit.int .i64 a).wf = true) (hT : Tab w) : Calls Tryd.prog 3 #[.int .i64 a] w fun e w' => e = .returned (.bool true) ∧ Below w.heap.size w w' := by
  have HT := Lib.hid hT
  clear hT
  go_enter Tryd.func3, Tryd.ntmps3
  go_wp2_with fail
  refine (awake7_any HT.out).mono ?_
  rintro e w1 ⟨rfl, hB⟩
  have HB := Lib.hid hB
  have HT1 := Lib.hid (HT.out.below hB HT.out.2)
  clear hB
  go_wp2_with fail
  refine (twipe_nil _).mono ?_
  rintro e w_ ⟨rfl, rfl⟩
  go_wp2_with fail
  refine (take_nil _).mono ?_
  rintro e w_ ⟨rfl, rfl⟩
  go_wp2_with fail
  refine (tnew_any HT1.out a a).mono ?_
  rintro e w2 ⟨t, b, g, rfl, ht, hb, hg, hM, hB⟩
  rw [plt_self] at hM
  have HE : Hid (cardI (plc a) (plc a) a = -1) := Lib.hid (cardI_out (by omega))
  have HN : Hid (popM (ncard (plc a) (plc a)) 0 = 0) := Lib.hid (popM_zero _)
  have HM := Lib.hid hM
  have HB2 := Lib.hid (HB.out.trans (hB.mono HB.out.size))
  have HG := Lib.hid (Nat.le_trans HB.out.size hg)
  clear hM hB hg hb ht HB HT1
  go_wp2_with fail
  refine (touch_nil _ a).mono ?_
  rintro e w_ ⟨rfl, rfl⟩
  go_wp2_with fail
  refine (dirty_nil _ a).mono ?_
  rintro e w_ ⟨rfl, rfl⟩
  go_wp2_with fail
  refine (all_nil _).mono ?_
  rintro e w_ ⟨rfl, rfl⟩
  go_wp2_with fail
  refine (touch_any HM.out a).mono ?_
  rintro e w3 ⟨rfl, hM, hG⟩
  rw [HE.out, setM_neg] at hM
  rw [HE.out, newB_neg]
  have H1 := Lib.hid hM
  have B1 := Lib.hid (below_only HB2.out hG HB2.out.size HG.out)
  clear hM hG HM HB2
  go_wp2_with fail
  refine (all_any H1.out).mono ?_
  rintro e w4 ⟨A, c, rfl, hO, hM, hB⟩
  rw [HN.out]
  have B2 := Lib.hid (B1.out.trans (hB.mono B1.out.size))
  clear hB hM hO
  go_wp2
  go_ret
  exact ⟨rfl, B2.out⟩
end Go.Proofs.YtdfpmgpdkajhkaaDoor
