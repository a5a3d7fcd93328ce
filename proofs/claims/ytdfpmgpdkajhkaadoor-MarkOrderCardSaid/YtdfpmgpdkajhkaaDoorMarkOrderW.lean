/-
  The walk of the law MarkOrder: for every number, every slice of slices, every slice of ints and every two numbers it returns true, and memory below the heap's old size is unchanged, where the library's table lies. No other condition.
-/
import Derived.Test.YtdfpmgpdkajhkaaDoorMkl
namespace Go.Proofs.YtdfpmgpdkajhkaaDoor
open Go.RowKit
set_option maxRecDepth 100000 in
set_option maxHeartbeats 4000000 in
theorem markOrder_few (w : World) (p r s : Int) (A : Option Addr) (len c : Nat) (rows : List (List Int)) (hG : Grid w w.heap.size A len rows) (Bq : Option Addr) (m d : Nat) (hfew : fewB rows len m = false) (hT : Tab w) :
    Calls Tryd.prog 15 #[.int .i64 p, .slice A len c, .slice Bq m d, .int .i64 r, .int .i64 s] w fun e w' => e = .returned (.bool true) ∧ Below w.heap.size w w' := by
  have HT := Lib.hid hT
  have HG := Lib.hid hG
  have HF := Lib.hid hfew
  clear hT hG hfew
  go_enter Tryd.func15, Tryd.ntmps15
  go_wp2_with fail
  generalize hwa : w.alloc (.cells #[.slice A len c] 59) = wa
  generalize heb : w.heap.size = eb
  have HBK : Hid (Blk wa eb #[.slice A len c] 59) := Lib.hid (by rw [← hwa, ← heb]; exact Blk.new _ _ _)
  have HB0 : Hid (Below eb w wa) := Lib.hid (by rw [← hwa, ← heb]; exact (Below.refl w.heap.size w).alloc (Nat.le_refl _) _)
  have HG0 := Lib.hid (HG.out.below (by rw [heb]; exact HB0.out) (Nat.le_refl _))
  have HT0 : Hid (Tab wa) := Lib.hid (HT.out.up (by rw [heb]; exact HB0.out))
  rw [heb] at HG0
  clear hwa
  refine (awake14_any HT0.out).mono ?_
  rintro e w1 ⟨rfl, hB⟩
  have HB := Lib.hid (HB0.out.trans (hB.mono (by have := HB0.out.size; omega)))
  have HT1 := Lib.hid (HT0.out.up hB)
  have HBK1 := Lib.hid (HBK.out.below hB HBK.out.lt)
  have HG1 := Lib.hid (HG0.out.below hB (by have := HB0.out.size; omega))
  have cx := HBK1.out.cell (i := 0) rfl
  clear hB
  go_wp2_with fail
  refine (few_any (HG1.out.more (by have := HB.out.size; omega))).mono ?_
  rintro e w_ ⟨rfl, rfl⟩
  rw [HF.out]
  go_wp2_with fail
  refine (awake14_any HT1.out).mono ?_
  rintro e w2 ⟨rfl, hB⟩
  have HB2 := Lib.hid (HB.out.trans (hB.mono (by have := HB.out.size; omega)))
  clear hB
  go_wp2
  go_ret
  exact ⟨rfl, by rw [heb]; exact HB2.out⟩
set_option maxRecDepth 100000 in
set_option maxHeartbeats 4000000 in
theorem markOrder_wide (w : World) (p r s : Int) (A : Option Addr) (len c : Nat) (rows : List (List Int)) (hG : Grid w w.heap.size A len rows) (Bq : Option Addr) (m d : Nat) (hfew : fewB rows len m = true) (hp : 300 < p) (hT : Tab w) :
    Calls Tryd.prog 15 #[.int .i64 p, .slice A len c, .slice Bq m d, .int .i64 r, .int .i64 s] w fun e w' => e = .returned (.bool true) ∧ Below w.heap.size w w' := by
  have HT := Lib.hid hT
  have HG := Lib.hid hG
  have HF := Lib.hid hfew
  have dp : decide (p > 300) = true := decide_eq_true hp
  clear hT hG hfew
  go_enter Tryd.func15, Tryd.ntmps15
  go_wp2_with fail
  generalize hwa : w.alloc (.cells #[.slice A len c] 59) = wa
  generalize heb : w.heap.size = eb
  have HBK : Hid (Blk wa eb #[.slice A len c] 59) := Lib.hid (by rw [← hwa, ← heb]; exact Blk.new _ _ _)
  have HB0 : Hid (Below eb w wa) := Lib.hid (by rw [← hwa, ← heb]; exact (Below.refl w.heap.size w).alloc (Nat.le_refl _) _)
  have HG0 := Lib.hid (HG.out.below (by rw [heb]; exact HB0.out) (Nat.le_refl _))
  have HT0 : Hid (Tab wa) := Lib.hid (HT.out.up (by rw [heb]; exact HB0.out))
  rw [heb] at HG0
  clear hwa
  refine (awake14_any HT0.out).mono ?_
  rintro e w1 ⟨rfl, hB⟩
  have HB := Lib.hid (HB0.out.trans (hB.mono (by have := HB0.out.size; omega)))
  have HT1 := Lib.hid (HT0.out.up hB)
  have HBK1 := Lib.hid (HBK.out.below hB HBK.out.lt)
  have HG1 := Lib.hid (HG0.out.below hB (by have := HB0.out.size; omega))
  have cx := HBK1.out.cell (i := 0) rfl
  clear hB
  go_wp2_with fail
  refine (few_any (HG1.out.more (by have := HB.out.size; omega))).mono ?_
  rintro e w_ ⟨rfl, rfl⟩
  rw [HF.out]
  go_wp2_with fail
  refine (awake14_any HT1.out).mono ?_
  rintro e w2 ⟨rfl, hB⟩
  have HB2 := Lib.hid (HB.out.trans (hB.mono (by have := HB.out.size; omega)))
  clear hB
  go_wp2
  go_ret
  exact ⟨rfl, by rw [heb]; exact HB2.out⟩
set_option maxRecDepth 100000 in
set_option maxHeartbeats 8000000 in
theorem markOrder_main (w : World) (p r s : Int) (A : Option Addr) (len c : Nat) (rows : List (List Int)) (hG : Grid w w.heap.size A len rows) (Bq : Option Addr) (m d : Nat) (rts : List Int) (hR : Rd w Bq m rts) (hfew : fewB rows len m = true) (hp : p ≤ 300) (hT : Tab w) :
    Calls Tryd.prog 15 #[.int .i64 p, .slice A len c, .slice Bq m d, .int .i64 r, .int .i64 s] w fun e w' => e = .returned (.bool true) ∧ Below w.heap.size w w' := by
  have HT := Lib.hid hT
  have HG := Lib.hid hG
  have HF := Lib.hid hfew
  have HR := Lib.hid hR
  obtain ⟨hl1, hl2, hl3⟩ := fewB_rows hfew
  have HLEN := Lib.hid hl3
  have dp : decide (p > 300) = false := decide_eq_false (by omega)
  have HPL := Lib.hid (plc_le p)
  clear hT hG hR hfew hl3
  go_enter Tryd.func15, Tryd.ntmps15
  go_wp2_with fail
  generalize hwa : w.alloc (.cells #[.slice A len c] 59) = wa
  generalize heb : w.heap.size = eb
  have HBK : Hid (Blk wa eb #[.slice A len c] 59) := Lib.hid (by rw [← hwa, ← heb]; exact Blk.new _ _ _)
  have HB0 : Hid (Below eb w wa) := Lib.hid (by rw [← hwa, ← heb]; exact (Below.refl w.heap.size w).alloc (Nat.le_refl _) _)
  have HG0 := Lib.hid (HG.out.below (by rw [heb]; exact HB0.out) (Nat.le_refl _))
  have HT0 : Hid (Tab wa) := Lib.hid (HT.out.up (by rw [heb]; exact HB0.out))
  rw [heb] at HG0
  clear hwa
  refine (awake14_any HT0.out).mono ?_
  rintro e w1 ⟨rfl, hB⟩
  have HB := Lib.hid (HB0.out.trans (hB.mono (by have := HB0.out.size; omega)))
  have HT1 := Lib.hid (HT0.out.up hB)
  have HBK1 := Lib.hid (HBK.out.below hB HBK.out.lt)
  have HG1 := Lib.hid (HG0.out.below hB (by have := HB0.out.size; omega))
  have cx := HBK1.out.cell (i := 0) rfl
  clear hB
  have HR1 : Hid (Rd w1 Bq m rts) := Lib.hid (HR.out.up (by rw [heb]; exact HB.out))
  clear HT HG HR HB0 HG0 HT0 HBK
  go_wp2_with fail
  refine (few_any (HG1.out.more (by have := HB.out.size; omega))).mono ?_
  rintro e w_ ⟨rfl, rfl⟩
  rw [HF.out]
  go_wp2
  have HX := Lib.hid HR1.out.1
  go_loopw [11, 34] (fun b v wr => ∃ (q c2 : Nat) (A2 : Option Addr), q ≤ m ∧ b = .slice A2 q c2 ∧ v = .int .i64 q ∧ Hid (Own wr w1.heap.size A2 q c2 (rts.reverse.take q)) ∧ Hid (Below w1.heap.size w1 wr)) (fun _ v _ => m - (intOf v).toNat)
  case atStart => exact ⟨0, 0, none, Nat.zero_le _, rfl, rfl, Lib.hid (Own.nil _ _), Lib.hid (Below.refl _ _)⟩
  case round =>
    clear cx
    obtain ⟨q, c2, A2, hq, rfl, rfl, HO, HBL⟩ := hrel
    by_cases hqd : q < m
    · obtain ⟨j, hj⟩ : ∃ j : Nat, j + 1 + q = m := ⟨m - 1 - q, by omega⟩
      obtain ⟨g, off, rfl, hg, hcell⟩ := HR1.out.2 (by omega)
      have hx : wr.cell? ⟨g, off + j, none⟩ = some (.int .i64 (rts.getD j 0)) := (HBL.out.cell (p := ⟨g, off + j, none⟩) hg).trans (hcell j (by omega))
      have ei := rvs_getD (xs := rts) (j := j) (k := q) (by rw [HX.out]; exact hj)
      rw [← ei] at hx
      have HEI : Hid (rts.reverse.take q ++ [rts.reverse.getD q 0] = rts.reverse.take (q + 1)) := Lib.hid (take_more (by rw [List.length_reverse, HX.out]; exact hqd))
      generalize rts.reverse.getD q 0 = y at hx HEI
      have hjj : (m : Int) - 1 - (q : Int) = (j : Int) := by omega
      clear hcell ei
      go_wp2_with (at_builtin; refine app_int rfl _ _ rfl _ w1.heap.size A2 q c2 (rts.reverse.take q) y rfl rfl HO.out (by omega) HBL.out.size ?_; intro A3 c3 w4 hO hg4; have HO4 := Lib.hid hO; have B4 := Lib.hid (below_own HBL.out HO.out (Nat.le_refl _) HBL.out.size hg4); clear hO hg4)
      rw [HEI.out] at HO4
      go_roundw
      case rel => exact ⟨q + 1, c3, A3, by omega, by go_num, by go_num, HO4, B4⟩
      case measure => simp [intOf]; omega
    · have hqe : q = m := by omega
      have hO := HO.out
      rw [hqe, List.take_of_length_le (by rw [List.length_reverse, HX.out]; omega)] at hO
      have HO2 := Lib.hid hO
      have HB2 := Lib.hid (HB.out.trans (HBL.out.mono (by have := HB.out.size; omega)))
      have HBK2 := Lib.hid (HBK1.out.below HBL.out HBK1.out.lt)
      have HG2 := Lib.hid (HG1.out.below HBL.out (by have := HB.out.size; omega))
      have HT2 := Lib.hid (HT1.out.up HBL.out)
      have HR2 := Lib.hid (HR1.out.up HBL.out)
      have cx := HBK2.out.cell (i := 0) rfl
      rw [hqe] 
      clear hqe hO HO HB HBL HBK1 HG1 HT1 HR1 hqd hq
      go_wp2_with fail
      refine (by_any _ _ _ _).mono ?_
      rintro e w3 ⟨rfl, rfl⟩
      go_wp2_with fail
      refine (reach_by HT2.out p r HG2.out (by have := HB2.out.size; omega) HLEN.out HR2.out (by omega)).mono ?_
      rintro e w4 ⟨b1, g1, M, ρ, rfl, _, _, hM, hI, hB, _⟩
      have HM4 := Lib.hid hM
      have HI4 := Lib.hid hI
      have HB4 := Lib.hid (HB2.out.trans (hB.mono (by have := HB2.out.size; omega)))
      have HBK4 := Lib.hid (HBK2.out.below hB HBK2.out.lt)
      have HG4 := Lib.hid (HG2.out.below hB (by have := HB2.out.size; omega))
      have HT4 := Lib.hid (HT2.out.up hB)
      have HO4 := Lib.hid (HO2.out.up hB)
      clear hM hI hB cx HB2 HBK2 HG2 HT2 HO2 HR2
      have cx := HBK4.out.cell (i := 0) rfl
      go_wp2_with fail
      refine (reach_any (w := w4) (base := w4.heap.size) p s (order_edges HPL.out HLEN.out) HT4.out rfl (inv_order HBK4.out HG4.out (by have := HB4.out.size; omega)) HO4.out.rd (by omega)).mono ?_
      rintro e w5 ⟨b2, g2, M2, ρ2, rfl, _, _, hM, hI, _, hF, _⟩
      have he : M2 = M := hI.eq HI4.out fun i => ⟨rch_mono (fun y hy => by simpa using hy) (fun i _ y hy => by simpa using hy), rch_mono (fun y hy => by simpa using hy) (fun i _ y hy => by simpa using hy)⟩
      rw [he] at hM
      have hbf := Fx.below hF
      have HM5 := Lib.hid (HM4.out.up hbf)
      have HN5 := Lib.hid hM
      have HB5 := Lib.hid (HB4.out.trans (hbf.mono (by have := HB4.out.size; omega)))
      clear hM hI hF he hbf cx HB4 HBK4 HG4 HT4 HO4 HI4 HM4
      go_wp2_with fail
      refine (len_any HM5.out).mono ?_
      rintro e w_ ⟨rfl, rfl⟩
      go_wp2_with fail
      refine (len_any HN5.out).mono ?_
      rintro e w_ ⟨rfl, rfl⟩
      go_wp2_with fail
      refine (len_any HM5.out).mono ?_
      rintro e w_ ⟨rfl, rfl⟩
      generalize plc p = N at HM5 HN5 HPL ⊢
      have hNN := HPL.out
      go_wp2
      go_loopw [82] (fun v wr => ∃ k : Nat, k ≤ N ∧ v = .int .i64 k ∧ w5 = wr) (fun v _ => N - (intOf v).toNat)
      case atStart => exact ⟨0, Nat.zero_le _, rfl, rfl⟩
      case round =>
        obtain ⟨k, hk, rfl, rfl⟩ := hrel
        by_cases hkN : k < N
        · go_wp2_with fail
          refine (has_any HM5.out _).mono ?_
          rintro e w_ ⟨rfl, rfl⟩
          go_wp2_with fail
          refine (has_any HN5.out _).mono ?_
          rintro e w_ ⟨rfl, rfl⟩
          have HEQ : Hid ((hasB M (k : Int) != hasB M (k : Int)) = false) := Lib.hid (by simp)
          generalize hasB M (k : Int) = bb at HEQ ⊢
          have hbb := HEQ.out
          go_wp2
          go_roundw
          case rel => exact ⟨k + 1, by omega, by go_num, by trivial⟩
          case measure => simp [intOf]; omega
        · go_wp2
          go_ret
          exact ⟨rfl, by rw [heb]; exact HB5.out⟩
theorem markOrder_walk (w : World) (p : Int) (_ : (Lit.int .i64 p).wf = true) (A : Option Addr) (len c : Nat) (rows : List (List Int)) (hG : Grid w w.heap.size A len rows) (Bq : Option Addr) (m d : Nat) (zs : List Int) (hR : IsRow .i64 w Bq m d zs) (r : Int) (_ : (Lit.int .i64 r).wf = true) (s : Int) (_ : (Lit.int .i64 s).wf = true) (hT : Tab w) :
    Calls Tryd.prog 15 #[.int .i64 p, .slice A len c, .slice Bq m d, .int .i64 r, .int .i64 s] w fun e w' => e = .returned (.bool true) ∧ Below w.heap.size w w' := by
  cases hf : fewB rows len m
  · exact markOrder_few w p r s A len c rows hG Bq m d hf hT
  · by_cases hp : p ≤ 300
    · exact markOrder_main w p r s A len c rows hG Bq m d _ hR.rd hf hp hT
    · exact markOrder_wide w p r s A len c rows hG Bq m d hf (by omega) hT
end Go.Proofs.YtdfpmgpdkajhkaaDoor
