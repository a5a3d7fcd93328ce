/-
  The walk of the law MarkReaches: for every two ints, every slice of slices and every slice of ints it returns true, and memory below the heap's old size is unchanged, where the library's table lies. No other condition.
-/
import Derived.Test.YtdfpmgpdkajhkaaDoorMki
import Derived.Test.YtdfpmgpdkajhkaaDoorMkf
namespace Go.Proofs.YtdfpmgpdkajhkaaDoor
open Go.RowKit
set_option maxRecDepth 100000 in
set_option maxHeartbeats 4000000 in
theorem markReaches_few (w : World) (p r : Int) (A : Option Addr) (len c : Nat) (rows : List (List Int)) (hG : Grid w w.heap.size A len rows) (Bq : Option Addr) (m d : Nat) (hfew : fewB rows len m = false) (hT : Tab w) :
    Calls Tryd.prog 14 #[.int .i64 p, .int .i64 r, .slice A len c, .slice Bq m d] w fun e w' => e = .returned (.bool true) ∧ Below w.heap.size w w' := by
  have HT := Lib.hid hT
  have HG := Lib.hid hG
  have HF := Lib.hid hfew
  clear hT hG hfew
  go_enter Tryd.func14, Tryd.ntmps14
  go_wp2_with fail
  refine (awake14_any HT.out).mono ?_
  rintro e w1 ⟨rfl, hB⟩
  have HB := Lib.hid hB
  have HT1 := Lib.hid (HT.out.up hB)
  have HG1 := Lib.hid ((HG.out.below hB (Nat.le_refl _)).more hB.size)
  clear hB
  go_wp2_with fail
  refine (few_any HG1.out).mono ?_
  rintro e w_ ⟨rfl, rfl⟩
  rw [HF.out]
  go_wp2_with fail
  refine (awake14_any HT1.out).mono ?_
  rintro e w2 ⟨rfl, hB⟩
  have HB2 := Lib.hid (HB.out.trans (hB.mono HB.out.size))
  clear hB
  go_wp2
  go_ret
  exact ⟨rfl, HB2.out⟩
set_option maxRecDepth 100000 in
set_option maxHeartbeats 4000000 in
theorem markReaches_wide (w : World) (p r : Int) (A : Option Addr) (len c : Nat) (rows : List (List Int)) (hG : Grid w w.heap.size A len rows) (Bq : Option Addr) (m d : Nat) (hfew : fewB rows len m = true) (hp : 300 < p) (hT : Tab w) :
    Calls Tryd.prog 14 #[.int .i64 p, .int .i64 r, .slice A len c, .slice Bq m d] w fun e w' => e = .returned (.bool true) ∧ Below w.heap.size w w' := by
  have HT := Lib.hid hT
  have HG := Lib.hid hG
  have HF := Lib.hid hfew
  have dp : decide (p > 300) = true := decide_eq_true hp
  clear hT hG hfew
  go_enter Tryd.func14, Tryd.ntmps14
  go_wp2_with fail
  refine (awake14_any HT.out).mono ?_
  rintro e w1 ⟨rfl, hB⟩
  have HB := Lib.hid hB
  have HT1 := Lib.hid (HT.out.up hB)
  have HG1 := Lib.hid ((HG.out.below hB (Nat.le_refl _)).more hB.size)
  clear hB
  go_wp2_with fail
  refine (few_any HG1.out).mono ?_
  rintro e w_ ⟨rfl, rfl⟩
  rw [HF.out]
  go_wp2_with fail
  refine (awake14_any HT1.out).mono ?_
  rintro e w2 ⟨rfl, hB⟩
  have HB2 := Lib.hid (HB.out.trans (hB.mono HB.out.size))
  clear hB
  go_wp2
  go_ret
  exact ⟨rfl, HB2.out⟩
set_option maxRecDepth 100000 in
set_option maxHeartbeats 8000000 in
theorem markReaches_main (w : World) (p r : Int) (A : Option Addr) (len c : Nat) (rows : List (List Int)) (hG : Grid w w.heap.size A len rows) (Bq : Option Addr) (m d : Nat) (rts : List Int) (hR : Rd w Bq m rts) (hfew : fewB rows len m = true) (hp : p ≤ 300) (hT : Tab w) :
    Calls Tryd.prog 14 #[.int .i64 p, .int .i64 r, .slice A len c, .slice Bq m d] w fun e w' => e = .returned (.bool true) ∧ Below w.heap.size w w' := by
  have HT := Lib.hid hT
  have HG := Lib.hid hG
  have HR := Lib.hid hR
  have HF := Lib.hid hfew
  obtain ⟨hl1, hl2, hl3⟩ := fewB_rows hfew
  have HLEN := Lib.hid hl3
  have dp : decide (p > 300) = false := decide_eq_false (by omega)
  clear hT hG hR hfew hl3
  go_enter Tryd.func14, Tryd.ntmps14
  go_wp2_with fail
  refine (awake14_any HT.out).mono ?_
  rintro e w1 ⟨rfl, hB⟩
  have HB := Lib.hid hB
  have HT1 := Lib.hid (HT.out.up hB)
  have HG1 := Lib.hid ((HG.out.below hB (Nat.le_refl _)).more hB.size)
  have HR1 := Lib.hid (HR.out.up hB)
  clear hB HT HG HR
  go_wp2_with fail
  refine (few_any HG1.out).mono ?_
  rintro e w_ ⟨rfl, rfl⟩
  rw [HF.out]
  go_wp2_with fail
  refine (by_any _ _ _ _).mono ?_
  rintro e w2 ⟨rfl, rfl⟩
  go_wp2_with fail
  refine (reach_by HT1.out p r HG1.out (Nat.le_refl _) HLEN.out HR1.out (by omega)).mono ?_
  rintro e w3 ⟨b1, g1, M, ρ, rfl, _, _, hM, hI, hB, hρ⟩
  have HM := Lib.hid hM
  have HI := Lib.hid hI
  have HRHO := Lib.hid hρ
  have hpl := popM_le (plc p) M
  have HT3 := Lib.hid (HT1.out.up hB)
  have HG3 := Lib.hid ((HG1.out.below hB (Nat.le_refl _)).more hB.size)
  have HR3 := Lib.hid (HR1.out.up hB)
  have HB3 := Lib.hid (HB.out.trans (hB.mono HB.out.size))
  clear hM hI hρ hB HT1 HG1 HR1 HB
  go_wp2_with fail
  refine (rreach_any p HG3.out HR3.out (by omega) (by omega) HLEN.out).mono ?_
  rintro e w4 ⟨hb, M', rfl, hhb, hH, hI', hB⟩
  have he : M' = M := hI'.uniq HI.out
  rw [he] at hH
  have HM4 := Lib.hid (HM.out.up hB)
  have HH := Lib.hid hH
  have HT4 := Lib.hid (HT3.out.up hB)
  have HG4 := Lib.hid ((HG3.out.below hB (Nat.le_refl _)).more hB.size)
  have HR4 := Lib.hid (HR3.out.up hB)
  have HB4 := Lib.hid (HB3.out.trans (hB.mono HB3.out.size))
  clear he hH hI' hB hhb HM HT3 HG3 HR3 HB3
  go_wp2_with fail
  all_goals
    refine (by_any _ _ _ _).mono ?_
    rintro e w5 ⟨rfl, rfl⟩
    go_wp2_with fail
    refine (reach_by HT4.out p _ HG4.out (Nat.le_refl _) HLEN.out HR4.out (by omega)).mono ?_
    rintro e w6 ⟨b2, g2, M2, ρ2, rfl, _, _, hM, hI, hB, hρ⟩
    have he : M2 = M := hI.uniq HI.out
    rw [he] at hM hρ
    have h0 : ρ2 = 0 := by
      rcases hρ with h | h
      · exact h
      · exfalso
        revert h
        split <;> omega
    subst h0
    have HM2 := Lib.hid hM
    have HM6 := Lib.hid (HM4.out.up hB)
    have HH6 := Lib.hid (HH.out.below hB HH.out.lt)
    have HB6 := Lib.hid (HB4.out.trans (hB.mono HB4.out.size))
    clear he hM hI hB hρ HM4 HH HT4 HG4 HR4 HB4
    go_wp2_with fail
    refine (msame_yes HM6.out HH6.out).mono ?_
    rintro e w7 ⟨rfl, hB⟩
    have HM7 := Lib.hid (HM2.out.up hB)
    have HH7 := Lib.hid (HH6.out.below hB HH6.out.lt)
    have HB7 := Lib.hid (HB6.out.trans (hB.mono HB6.out.size))
    clear hB HM2 HM6 HH6 HB6
    go_wp2_with fail
    refine (msame_yes HM7.out HH7.out).mono ?_
    rintro e w8 ⟨rfl, hB⟩
    have HB8 := Lib.hid (HB7.out.trans (hB.mono HB7.out.size))
    clear hB HM7 HH7 HB7
    by_cases hr0 : ρ = 0
    · subst hr0
      go_wp2
      go_ret
      exact ⟨rfl, HB8.out⟩
    · have d0 : ((ρ : Int) == 0) = false := by simp; omega
      have hrl : r < ((plc p : Nat) : Int) := by
        rcases HRHO.out with h | h
        · exact absurd h hr0
        · revert h
          split <;> omega
      have d1 : decide (r < ((plc p : Nat) : Int)) = true := decide_eq_true hrl
      have d2 : (0 : Int) ≤ (ρ : Int) := by omega
      go_wp2
      go_ret
      exact ⟨rfl, HB8.out⟩
theorem markReaches_walk (w : World) (p : Int) (_ : (Lit.int .i64 p).wf = true) (r : Int) (_ : (Lit.int .i64 r).wf = true) (A : Option Addr) (len c : Nat) (rows : List (List Int)) (hG : Grid w w.heap.size A len rows) (Bq : Option Addr) (m d : Nat) (zs : List Int) (hR : IsRow .i64 w Bq m d zs) (hT : Tab w) :
    Calls Tryd.prog 14 #[.int .i64 p, .int .i64 r, .slice A len c, .slice Bq m d] w fun e w' => e = .returned (.bool true) ∧ Below w.heap.size w w' := by
  cases hf : fewB rows len m
  · exact markReaches_few w p r A len c rows hG Bq m d hf hT
  · by_cases hp : p ≤ 300
    · exact markReaches_main w p r A len c rows hG Bq m d _ hR.rd hf hp hT
    · exact markReaches_wide w p r A len c rows hG Bq m d hf (by omega) hT
end Go.Proofs.YtdfpmgpdkajhkaaDoor
