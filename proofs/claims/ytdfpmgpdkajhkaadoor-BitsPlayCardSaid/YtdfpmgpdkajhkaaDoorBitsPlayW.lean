/-
  The walk of the law BitsPlay: for every int and every slice of calls it returns true, and memory below the heap's old size is unchanged, where the library's table lies. No other condition.
-/
import Derived.Test.YtdfpmgpdkajhkaaDoorBits6
import Derived.Test.YtdfpmgpdkajhkaaDoorStr
import Derived.Test.YtdfpmgpdkajhkaaDoorRf3
import Derived.Deep.RegionHeld3
import Derived.Deep.Cut
namespace Go.Proofs.YtdfpmgpdkajhkaaDoor
open Go.RowKit
theorem rcount_any {w : World} {b g n M : Nat} (h : RM w b g n M) : Calls Tryd.prog 43 #[.pointer (some ⟨b, 0, none⟩), .int .i64 0, .int .i64 n] w fun e w' => e = .returned (.int .i64 (popM n M)) ∧ w = w' := by
  have := rbetween_any h 0 n
  rwa [betM_all n M n (Int.le_refl _)] at this
set_option maxRecDepth 100000 in
set_option maxHeartbeats 4000000 in
theorem bitsPlay_main (w : World) (p : Int) (s : Option Addr) (len cap : Nat) (f : Nat → Nat → Int) (ws : IsStr 3 w s len f) (hl : len ≤ 200) (hT : Tab w) :
    Calls Tryd.prog 8 #[.int .i64 p, .slice s len cap] w fun e w' => e = .returned (.bool true) ∧ Below w.heap.size w w' := by
  have HT := Lib.hid hT
  have HW := Lib.hid ws
  clear hT ws
  go_enter Tryd.func8, Tryd.ntmps8
  go_wp2_with fail
  refine (awake3_any HT.out).mono ?_
  rintro e w1 ⟨rfl, hB⟩
  have HB := Lib.hid hB
  have HT1 := Lib.hid (HT.out.below hB HT.out.2)
  clear hB
  go_wp2_with fail
  refine (new_any HT1.out p).mono ?_
  rintro e w2 ⟨m, g, rfl, hb, hg, hM, hB⟩
  have hn4 := plc_le p
  obtain ⟨n, hn⟩ : ∃ n, n = plc p := ⟨_, rfl⟩
  rw [← hn] at hM hn4
  have HN := Lib.hid hn
  have HB2 := Lib.hid (HB.out.trans (hB.mono HB.out.size))
  have HG := Lib.hid (Nat.le_trans HB.out.size hg)
  have H0 := Lib.hid hM
  clear hM hB hg hb HB HT1 hn
  go_wp2_with fail
  refine (rnew_any _ p).mono ?_
  rintro e w3 ⟨rm, rg, rfl, hb, hg, hM, hB⟩
  rw [← HN.out] at hM
  have HB3 := Lib.hid (HB2.out.trans (hB.mono HB2.out.size))
  have HRG := Lib.hid (Nat.le_trans HB2.out.size hg)
  have R0 := Lib.hid hM
  have H1 := Lib.hid (H0.out.up hB)
  have c0 := hM.cell0
  have hq := bw_cell w3
  have hrl := hM.hd.lt
  clear hM hB hg hb H0 HB2
  go_wp2_with fail
  refine wp_region_bw (by kernel_rfl) (by kernel_rfl) ?_
  repeat (first | go_big_quiet_step (first | (go_at_call 37; exact calls_same (len_any (H1.out.up (BW.is _))))) | quiet_step (first | (go_at_call 37; exact calls_same (len_any (H1.out.up (BW.is _))))))
  with_reducible refine wpQuiet_nil ?_
  rintro ⟨w4, hb⟩
  dsimp only
  have H2 := Lib.hid (H1.out.up hb)
  have R2 := Lib.hid (R0.out.up hb)
  have HB4 := Lib.hid (HB3.out.trans (hb.mono HB3.out.size))
  clear hq hrl c0 hb H1 R0 HB3
  go_wp2
  go_loopw [6, 36] (fun v i wr => ∃ (k M rm rg : Nat), k ≤ len ∧ i = .int .i64 k ∧ v = .pointer (some ⟨rm, 0, none⟩) ∧ Hid (w.heap.size ≤ rg) ∧ Hid (BM wr m g n M) ∧ Hid (RM wr rm rg n M) ∧ Hid (Below w.heap.size w wr)) (fun _ i _ => len - (intOf i).toNat)
  case atStart => exact ⟨0, 0, rm, rg, Nat.zero_le _, rfl, rfl, HRG, H2, R2, HB4⟩
  case round =>
    clear H2 R2 HB4 HRG
    obtain ⟨k, M, rm, rg, hk, rfl, rfl, HRG, H0, R0, HB⟩ := hrel
    by_cases hkl : k < len
    · obtain ⟨sb, so, rfl, hsb, hcell⟩ := HW.out (by omega)
      have x0 : wr.cell? ⟨sb, so + k * 3, none⟩ = some (.int .i64 (f k 0)) := (HB.out.cell (p := ⟨sb, so + k * 3, none⟩) hsb).trans (hcell k 0 hkl (by omega)).1
      have x1 : wr.cell? ⟨sb, so + k * 3 + 1, none⟩ = some (.int .i64 (f k 1)) := (HB.out.cell (p := ⟨sb, so + k * 3 + 1, none⟩) hsb).trans (hcell k 1 hkl (by omega)).1
      have x2 : wr.cell? ⟨sb, so + k * 3 + 2, none⟩ = some (.int .i64 (f k 2)) := (HB.out.cell (p := ⟨sb, so + k * 3 + 2, none⟩) hsb).trans (hcell k 2 hkl (by omega)).1
      clear hcell
      generalize f k 0 = a0 at x0
      generalize f k 1 = a1 at x1
      generalize f k 2 = a2 at x2
      by_cases h1 : a0 = 1
      · have d1 : (a0 == 1) = true := by simp [h1]
        clear h1
        go_upto_region 13 with (fail)
        generalize hwa : wr.alloc (Obj.cells #[.int .i64 a0, .int .i64 a1, .int .i64 a2] 49) = wa
        generalize hob : wr.heap.size = ob
        have HO : Hid (Blk wa ob #[.int .i64 a0, .int .i64 a1, .int .i64 a2] 49) := Lib.hid (by rw [← hwa, ← hob]; exact Blk.new _ _ _)
        have HM := Lib.hid (show BM wa m g n M by rw [← hwa]; exact H0.out.alloc _)
        have HR := Lib.hid (show RM wa rm rg n M by rw [← hwa]; exact R0.out.up ((Below.refl _ _).alloc (Nat.le_refl _) _))
        have HBZ := Lib.hid (show Below w.heap.size w wa by rw [← hwa]; exact HB.out.alloc HB.out.size _)
        clear hwa hob x0 x1 x2 H0 R0 HB
        have o1 : wa.cell? ⟨ob, 1, none⟩ = some (.int .i64 a1) := HO.out.cell (i := 1) rfl
        have o2 : wa.cell? ⟨ob, 2, none⟩ = some (.int .i64 a2) := HO.out.cell (i := 2) rfl
        have lo := HO.out.lt
        obtain ⟨v, hv⟩ : ∃ v, v = newB n M a1 := ⟨_, rfl⟩
        have HV := Lib.hid hv
        clear hv
        go_region_held3 (fun w' => w'.cell? ⟨ob, 1, none⟩ = some (.int .i64 a1)) (go_keep)
          (first
            | (go_at_call 32; refine (set_any (BM.drew HM.out) a1).mono ?_; rintro e w5 ⟨rfl, hM5, hG5⟩; rw [← HV.out]; have o5 : w5.cell? ⟨ob, 1, none⟩ = some (.int .i64 a1) := (hG5.cell o1 (fun e => HO.out.ne_ HM.out.ws (by decide) (Option.some.inj e))); have HO5 := Lib.hid (Blk.grown (Blk.drew HO.out) hG5 (fun e => HO.out.ne_ HM.out.ws (by decide) (Option.some.inj e))); have HM5 := Lib.hid hM5; have HR5 := Lib.hid (RM.words (RM.up HR.out ((Below.refl _ _).drew)) (BM.drew HM.out) hG5); have HB5 := Lib.hid (below_only HBZ.out.drew hG5 HBZ.out.size HG.out); clear hM5 hG5)
            | (go_at_call 40; refine (put_true HR5.out a1).mono ?_; rintro e w6 ⟨rfl, hM6, hG6⟩; rw [← HV.out]; have o6 : w6.cell? ⟨ob, 1, none⟩ = some (.int .i64 a1) := (hG6.cell o5 (fun e => HO5.out.ne_ HR5.out.bs (by decide) (Option.some.inj e))); have HM6 := Lib.hid (BM.bools HM5.out HR5.out (Nat.lt_of_lt_of_le HT.out.2 HRG.out) hG6); have HR6 := Lib.hid hM6; have HB6 := Lib.hid (below_only HB5.out hG6 HB5.out.size HRG.out); clear hM6 hG6))
        clear o1 o2 o5 o6 lo HM HR HBZ HM5 HR5 HB5 HO HO5
        have HM := Lib.hid HM6.out
        have HR := Lib.hid HR6.out
        have HBZ := Lib.hid HB6.out
        clear HM6 HR6 HB6
        have HC := Lib.hid (rcount_any HR.out)
        have lrm := HR.out.hd.lt
        have c0 := HR.out.cell0
        have hqz := bw_cell w6
        go_wp2_with fail
        refine wp_region_bw (by kernel_rfl) (by kernel_rfl) ?_
        repeat (first | go_big_quiet_step (first | (go_at_call 35; exact calls_same (count_any (HM.out.up (BW.is _)))) | (go_at_call 43; exact calls_same (rcount_any (HR.out.up (BW.is _))))) | quiet_step (first | (go_at_call 35; exact calls_same (count_any (HM.out.up (BW.is _)))) | (go_at_call 43; exact calls_same (rcount_any (HR.out.up (BW.is _))))))
        with_reducible refine wpQuiet_nil ?_
        rintro ⟨w9, hb⟩
        dsimp only
        have HM9 := Lib.hid (HM.out.up hb)
        have HR9 := Lib.hid (HR.out.up hb)
        have HB9 := Lib.hid (HBZ.out.trans (hb.mono HBZ.out.size))
        clear hqz lrm c0 hb
        go_wp2
        go_roundw
        case rel => exact ⟨k + 1, setM n M a1, rm, rg, by omega, by go_num, rfl, HRG, HM9, HR9, HB9⟩
        case measure => simp [intOf]; omega
      · have d1 : (a0 == 1) = false := by simp [h1]
        clear h1
        by_cases h2 : a0 = 2
        · have d2 : (a0 == 2) = true := by simp [h2]
          clear h2
          go_upto_region 15 with (fail)
          generalize hwa : wr.alloc (Obj.cells #[.int .i64 a0, .int .i64 a1, .int .i64 a2] 49) = wa
          generalize hob : wr.heap.size = ob
          have HO : Hid (Blk wa ob #[.int .i64 a0, .int .i64 a1, .int .i64 a2] 49) := Lib.hid (by rw [← hwa, ← hob]; exact Blk.new _ _ _)
          have HM := Lib.hid (show BM wa m g n M by rw [← hwa]; exact H0.out.alloc _)
          have HR := Lib.hid (show RM wa rm rg n M by rw [← hwa]; exact R0.out.up ((Below.refl _ _).alloc (Nat.le_refl _) _))
          have HBZ := Lib.hid (show Below w.heap.size w wa by rw [← hwa]; exact HB.out.alloc HB.out.size _)
          clear hwa hob x0 x1 x2 H0 R0 HB
          have o1 : wa.cell? ⟨ob, 1, none⟩ = some (.int .i64 a1) := HO.out.cell (i := 1) rfl
          have o2 : wa.cell? ⟨ob, 2, none⟩ = some (.int .i64 a2) := HO.out.cell (i := 2) rfl
          have lo := HO.out.lt
          obtain ⟨v, hv⟩ : ∃ v, v = hasB M a1 := ⟨_, rfl⟩
          have HV := Lib.hid hv
          clear hv
          go_region_held3 (fun w' => w'.cell? ⟨ob, 1, none⟩ = some (.int .i64 a1)) (go_keep)
            (first
              | (go_at_call 38; refine (clear_any (BM.drew HM.out) a1).mono ?_; rintro e w5 ⟨rfl, hM5, hG5⟩; rw [← HV.out]; have o5 : w5.cell? ⟨ob, 1, none⟩ = some (.int .i64 a1) := (hG5.cell o1 (fun e => HO.out.ne_ HM.out.ws (by decide) (Option.some.inj e))); have HO5 := Lib.hid (Blk.grown (Blk.drew HO.out) hG5 (fun e => HO.out.ne_ HM.out.ws (by decide) (Option.some.inj e))); have HM5 := Lib.hid hM5; have HR5 := Lib.hid (RM.words (RM.up HR.out ((Below.refl _ _).drew)) (BM.drew HM.out) hG5); have HB5 := Lib.hid (below_only HBZ.out.drew hG5 HBZ.out.size HG.out); clear hM5 hG5)
              | (go_at_call 40; refine (put_false HR5.out a1).mono ?_; rintro e w6 ⟨rfl, hM6, hG6⟩; rw [← HV.out]; have o6 : w6.cell? ⟨ob, 1, none⟩ = some (.int .i64 a1) := (hG6.cell o5 (fun e => HO5.out.ne_ HR5.out.bs (by decide) (Option.some.inj e))); have HM6 := Lib.hid (BM.bools HM5.out HR5.out (Nat.lt_of_lt_of_le HT.out.2 HRG.out) hG6); have HR6 := Lib.hid hM6; have HB6 := Lib.hid (below_only HB5.out hG6 HB5.out.size HRG.out); clear hM6 hG6))
          clear o1 o2 o5 o6 lo HM HR HBZ HM5 HR5 HB5 HO HO5
          have HM := Lib.hid HM6.out
          have HR := Lib.hid HR6.out
          have HBZ := Lib.hid HB6.out
          clear HM6 HR6 HB6
          have HC := Lib.hid (rcount_any HR.out)
          have lrm := HR.out.hd.lt
          have c0 := HR.out.cell0
          have hqz := bw_cell w6
          go_wp2_with fail
          refine wp_region_bw (by kernel_rfl) (by kernel_rfl) ?_
          repeat (first | go_big_quiet_step (first | (go_at_call 35; exact calls_same (count_any (HM.out.up (BW.is _)))) | (go_at_call 43; exact calls_same (rcount_any (HR.out.up (BW.is _))))) | quiet_step (first | (go_at_call 35; exact calls_same (count_any (HM.out.up (BW.is _)))) | (go_at_call 43; exact calls_same (rcount_any (HR.out.up (BW.is _))))))
          with_reducible refine wpQuiet_nil ?_
          rintro ⟨w9, hb⟩
          dsimp only
          have HM9 := Lib.hid (HM.out.up hb)
          have HR9 := Lib.hid (HR.out.up hb)
          have HB9 := Lib.hid (HBZ.out.trans (hb.mono HBZ.out.size))
          clear hqz lrm c0 hb
          go_wp2
          go_roundw
          case rel => exact ⟨k + 1, clrM M a1, rm, rg, by omega, by go_num, rfl, HRG, HM9, HR9, HB9⟩
          case measure => simp [intOf]; omega
        · have d2 : (a0 == 2) = false := by simp [h2]
          clear h2
          by_cases h3 : a0 = 3
          · have d3 : (a0 == 3) = true := by simp [h3]
            clear h3
            go_upto_region 17 with (fail)
            generalize hwa : wr.alloc (Obj.cells #[.int .i64 a0, .int .i64 a1, .int .i64 a2] 49) = wa
            generalize hob : wr.heap.size = ob
            have HO : Hid (Blk wa ob #[.int .i64 a0, .int .i64 a1, .int .i64 a2] 49) := Lib.hid (by rw [← hwa, ← hob]; exact Blk.new _ _ _)
            have HM := Lib.hid (show BM wa m g n M by rw [← hwa]; exact H0.out.alloc _)
            have HR := Lib.hid (show RM wa rm rg n M by rw [← hwa]; exact R0.out.up ((Below.refl _ _).alloc (Nat.le_refl _) _))
            have HBZ := Lib.hid (show Below w.heap.size w wa by rw [← hwa]; exact HB.out.alloc HB.out.size _)
            clear hwa hob x0 x1 x2 H0 R0 HB
            have o1 : wa.cell? ⟨ob, 1, none⟩ = some (.int .i64 a1) := HO.out.cell (i := 1) rfl
            have o2 : wa.cell? ⟨ob, 2, none⟩ = some (.int .i64 a2) := HO.out.cell (i := 2) rfl
            have lo := HO.out.lt
            have hqa := bw_cell wa
            refine wp_region_bw (by kernel_rfl) (by kernel_rfl) ?_
            repeat (first | go_big_quiet_step (first | (go_at_call 34; exact calls_same (has_any (HM.out.up (BW.is _)) _)) | (go_at_call 41; exact calls_same (rhas_any (HR.out.up (BW.is _)) _))) | quiet_step (first | (go_at_call 34; exact calls_same (has_any (HM.out.up (BW.is _)) _)) | (go_at_call 41; exact calls_same (rhas_any (HR.out.up (BW.is _)) _))))
            with_reducible refine wpQuiet_nil ?_
            rintro ⟨w7, hb⟩
            dsimp only
            have HM7 := Lib.hid (HM.out.up hb)
            have HR7 := Lib.hid (HR.out.up hb)
            have HB7 := Lib.hid (HBZ.out.trans (hb.mono HBZ.out.size))
            clear hqa hb o1 o2 lo HM HR HBZ HO
            have HM := Lib.hid HM7.out
            have HR := Lib.hid HR7.out
            have HBZ := Lib.hid HB7.out
            clear HM7 HR7 HB7
            have HC := Lib.hid (rcount_any HR.out)
            have lrm := HR.out.hd.lt
            have c0 := HR.out.cell0
            have hqz := bw_cell w7
            go_wp2_with fail
            refine wp_region_bw (by kernel_rfl) (by kernel_rfl) ?_
            repeat (first | go_big_quiet_step (first | (go_at_call 35; exact calls_same (count_any (HM.out.up (BW.is _)))) | (go_at_call 43; exact calls_same (rcount_any (HR.out.up (BW.is _))))) | quiet_step (first | (go_at_call 35; exact calls_same (count_any (HM.out.up (BW.is _)))) | (go_at_call 43; exact calls_same (rcount_any (HR.out.up (BW.is _))))))
            with_reducible refine wpQuiet_nil ?_
            rintro ⟨w9, hb⟩
            dsimp only
            have HM9 := Lib.hid (HM.out.up hb)
            have HR9 := Lib.hid (HR.out.up hb)
            have HB9 := Lib.hid (HBZ.out.trans (hb.mono HBZ.out.size))
            clear hqz lrm c0 hb
            go_wp2
            go_roundw
            case rel => exact ⟨k + 1, M, rm, rg, by omega, by go_num, rfl, HRG, HM9, HR9, HB9⟩
            case measure => simp [intOf]; omega
          · have d3 : (a0 == 3) = false := by simp [h3]
            clear h3
            by_cases h4 : a0 = 4
            · have d4 : (a0 == 4) = true := by simp [h4]
              clear h4
              go_upto_region 19 with (fail)
              generalize hwa : wr.alloc (Obj.cells #[.int .i64 a0, .int .i64 a1, .int .i64 a2] 49) = wa
              generalize hob : wr.heap.size = ob
              have HO : Hid (Blk wa ob #[.int .i64 a0, .int .i64 a1, .int .i64 a2] 49) := Lib.hid (by rw [← hwa, ← hob]; exact Blk.new _ _ _)
              have HM := Lib.hid (show BM wa m g n M by rw [← hwa]; exact H0.out.alloc _)
              have HR := Lib.hid (show RM wa rm rg n M by rw [← hwa]; exact R0.out.up ((Below.refl _ _).alloc (Nat.le_refl _) _))
              have HBZ := Lib.hid (show Below w.heap.size w wa by rw [← hwa]; exact HB.out.alloc HB.out.size _)
              clear hwa hob x0 x1 x2 H0 R0 HB
              have o1 : wa.cell? ⟨ob, 1, none⟩ = some (.int .i64 a1) := HO.out.cell (i := 1) rfl
              have o2 : wa.cell? ⟨ob, 2, none⟩ = some (.int .i64 a2) := HO.out.cell (i := 2) rfl
              have lo := HO.out.lt
              have hqa := bw_cell wa
              refine wp_region_bw (by kernel_rfl) (by kernel_rfl) ?_
              repeat (first | go_big_quiet_step (first | (go_at_call 33; exact calls_same (next_any (HM.out.up (BW.is _)) _)) | (go_at_call 42; exact calls_same (rnext_any (HR.out.up (BW.is _)) _))) | quiet_step (first | (go_at_call 33; exact calls_same (next_any (HM.out.up (BW.is _)) _)) | (go_at_call 42; exact calls_same (rnext_any (HR.out.up (BW.is _)) _))))
              with_reducible refine wpQuiet_nil ?_
              rintro ⟨w7, hb⟩
              dsimp only
              have HM7 := Lib.hid (HM.out.up hb)
              have HR7 := Lib.hid (HR.out.up hb)
              have HB7 := Lib.hid (HBZ.out.trans (hb.mono HBZ.out.size))
              clear hqa hb o1 o2 lo HM HR HBZ HO
              have HM := Lib.hid HM7.out
              have HR := Lib.hid HR7.out
              have HBZ := Lib.hid HB7.out
              clear HM7 HR7 HB7
              have HC := Lib.hid (rcount_any HR.out)
              have lrm := HR.out.hd.lt
              have c0 := HR.out.cell0
              have hqz := bw_cell w7
              go_wp2_with fail
              refine wp_region_bw (by kernel_rfl) (by kernel_rfl) ?_
              repeat (first | go_big_quiet_step (first | (go_at_call 35; exact calls_same (count_any (HM.out.up (BW.is _)))) | (go_at_call 43; exact calls_same (rcount_any (HR.out.up (BW.is _))))) | quiet_step (first | (go_at_call 35; exact calls_same (count_any (HM.out.up (BW.is _)))) | (go_at_call 43; exact calls_same (rcount_any (HR.out.up (BW.is _))))))
              with_reducible refine wpQuiet_nil ?_
              rintro ⟨w9, hb⟩
              dsimp only
              have HM9 := Lib.hid (HM.out.up hb)
              have HR9 := Lib.hid (HR.out.up hb)
              have HB9 := Lib.hid (HBZ.out.trans (hb.mono HBZ.out.size))
              clear hqz lrm c0 hb
              go_wp2
              go_roundw
              case rel => exact ⟨k + 1, M, rm, rg, by omega, by go_num, rfl, HRG, HM9, HR9, HB9⟩
              case measure => simp [intOf]; omega
            · have d4 : (a0 == 4) = false := by simp [h4]
              clear h4
              by_cases h5 : a0 = 5
              · have d5 : (a0 == 5) = true := by simp [h5]
                clear h5
                go_upto_region 21 with (fail)
                generalize hwa : wr.alloc (Obj.cells #[.int .i64 a0, .int .i64 a1, .int .i64 a2] 49) = wa
                generalize hob : wr.heap.size = ob
                have HO : Hid (Blk wa ob #[.int .i64 a0, .int .i64 a1, .int .i64 a2] 49) := Lib.hid (by rw [← hwa, ← hob]; exact Blk.new _ _ _)
                have HM := Lib.hid (show BM wa m g n M by rw [← hwa]; exact H0.out.alloc _)
                have HR := Lib.hid (show RM wa rm rg n M by rw [← hwa]; exact R0.out.up ((Below.refl _ _).alloc (Nat.le_refl _) _))
                have HBZ := Lib.hid (show Below w.heap.size w wa by rw [← hwa]; exact HB.out.alloc HB.out.size _)
                clear hwa hob x0 x1 x2 H0 R0 HB
                have o1 : wa.cell? ⟨ob, 1, none⟩ = some (.int .i64 a1) := HO.out.cell (i := 1) rfl
                have o2 : wa.cell? ⟨ob, 2, none⟩ = some (.int .i64 a2) := HO.out.cell (i := 2) rfl
                have lo := HO.out.lt
                have hqa := bw_cell wa
                refine wp_region_bw (by kernel_rfl) (by kernel_rfl) ?_
                repeat (first | go_big_quiet_step (first | (go_at_call 36; exact calls_same (between_any (HM.out.up (BW.is _)) _ _)) | (go_at_call 43; exact calls_same (rbetween_any (HR.out.up (BW.is _)) _ _))) | quiet_step (first | (go_at_call 36; exact calls_same (between_any (HM.out.up (BW.is _)) _ _)) | (go_at_call 43; exact calls_same (rbetween_any (HR.out.up (BW.is _)) _ _))))
                with_reducible refine wpQuiet_nil ?_
                rintro ⟨w7, hb⟩
                dsimp only
                have HM7 := Lib.hid (HM.out.up hb)
                have HR7 := Lib.hid (HR.out.up hb)
                have HB7 := Lib.hid (HBZ.out.trans (hb.mono HBZ.out.size))
                clear hqa hb o1 o2 lo HM HR HBZ HO
                have HM := Lib.hid HM7.out
                have HR := Lib.hid HR7.out
                have HBZ := Lib.hid HB7.out
                clear HM7 HR7 HB7
                have HC := Lib.hid (rcount_any HR.out)
                have lrm := HR.out.hd.lt
                have c0 := HR.out.cell0
                have hqz := bw_cell w7
                go_wp2_with fail
                refine wp_region_bw (by kernel_rfl) (by kernel_rfl) ?_
                repeat (first | go_big_quiet_step (first | (go_at_call 35; exact calls_same (count_any (HM.out.up (BW.is _)))) | (go_at_call 43; exact calls_same (rcount_any (HR.out.up (BW.is _))))) | quiet_step (first | (go_at_call 35; exact calls_same (count_any (HM.out.up (BW.is _)))) | (go_at_call 43; exact calls_same (rcount_any (HR.out.up (BW.is _))))))
                with_reducible refine wpQuiet_nil ?_
                rintro ⟨w9, hb⟩
                dsimp only
                have HM9 := Lib.hid (HM.out.up hb)
                have HR9 := Lib.hid (HR.out.up hb)
                have HB9 := Lib.hid (HBZ.out.trans (hb.mono HBZ.out.size))
                clear hqz lrm c0 hb
                go_wp2
                go_roundw
                case rel => exact ⟨k + 1, M, rm, rg, by omega, by go_num, rfl, HRG, HM9, HR9, HB9⟩
                case measure => simp [intOf]; omega
              · have d5 : (a0 == 5) = false := by simp [h5]
                clear h5
                by_cases h6 : a0 = 6
                · have d6 : (a0 == 6) = true := by simp [h6]
                  clear h6
                  go_upto_region 23 with (fail)
                  generalize hwa : wr.alloc (Obj.cells #[.int .i64 a0, .int .i64 a1, .int .i64 a2] 49) = wa
                  generalize hob : wr.heap.size = ob
                  have HO : Hid (Blk wa ob #[.int .i64 a0, .int .i64 a1, .int .i64 a2] 49) := Lib.hid (by rw [← hwa, ← hob]; exact Blk.new _ _ _)
                  have HM := Lib.hid (show BM wa m g n M by rw [← hwa]; exact H0.out.alloc _)
                  have HR := Lib.hid (show RM wa rm rg n M by rw [← hwa]; exact R0.out.up ((Below.refl _ _).alloc (Nat.le_refl _) _))
                  have HBZ := Lib.hid (show Below w.heap.size w wa by rw [← hwa]; exact HB.out.alloc HB.out.size _)
                  clear hwa hob x0 x1 x2 H0 R0 HB
                  have o1 : wa.cell? ⟨ob, 1, none⟩ = some (.int .i64 a1) := HO.out.cell (i := 1) rfl
                  have o2 : wa.cell? ⟨ob, 2, none⟩ = some (.int .i64 a2) := HO.out.cell (i := 2) rfl
                  have lo := HO.out.lt
                  clear o1 o2 lo
                  go_wp2_with fail
                  refine (wipe_any HM.out).mono ?_
                  rintro e w5 ⟨rfl, hM5, hG5⟩
                  have HM5 := Lib.hid hM5
                  have HB5 := Lib.hid (below_only HBZ.out hG5 HBZ.out.size HG.out)
                  clear hM5 hG5 HM HR HBZ HO
                  go_wp2_with fail
                  refine (rnew_any _ p).mono ?_
                  rintro e w6 ⟨rm2, rg2, rfl, hb, hg, hM, hB⟩
                  rw [← HN.out] at hM
                  have HRG2 := Lib.hid (Nat.le_trans HB5.out.size hg)
                  have HM := Lib.hid (HM5.out.up hB)
                  have HR := Lib.hid hM
                  have HBZ := Lib.hid (HB5.out.trans (hB.mono HB5.out.size))
                  clear hM hB hg hb HB5 HM5
                  have HC := Lib.hid (rcount_any HR.out)
                  have lrm := HR.out.hd.lt
                  have c0 := HR.out.cell0
                  have hqz := bw_cell w6
                  go_wp2_with fail
                  refine wp_region_bw (by kernel_rfl) (by kernel_rfl) ?_
                  repeat (first | go_big_quiet_step (first | (go_at_call 35; exact calls_same (count_any (HM.out.up (BW.is _)))) | (go_at_call 43; exact calls_same (rcount_any (HR.out.up (BW.is _))))) | quiet_step (first | (go_at_call 35; exact calls_same (count_any (HM.out.up (BW.is _)))) | (go_at_call 43; exact calls_same (rcount_any (HR.out.up (BW.is _))))))
                  with_reducible refine wpQuiet_nil ?_
                  rintro ⟨w9, hb⟩
                  dsimp only
                  have HM9 := Lib.hid (HM.out.up hb)
                  have HR9 := Lib.hid (HR.out.up hb)
                  have HB9 := Lib.hid (HBZ.out.trans (hb.mono HBZ.out.size))
                  clear hqz lrm c0 hb
                  go_wp2
                  go_roundw
                  case rel => exact ⟨k + 1, 0, rm2, rg2, by omega, by go_num, rfl, HRG2, HM9, HR9, HB9⟩
                  case measure => simp [intOf]; omega
                · have d6 : (a0 == 6) = false := by simp [h6]
                  clear h6
                  go_upto_region 25 with (fail)
                  generalize hwa : wr.alloc (Obj.cells #[.int .i64 a0, .int .i64 a1, .int .i64 a2] 49) = wa
                  generalize hob : wr.heap.size = ob
                  have HO : Hid (Blk wa ob #[.int .i64 a0, .int .i64 a1, .int .i64 a2] 49) := Lib.hid (by rw [← hwa, ← hob]; exact Blk.new _ _ _)
                  have HM := Lib.hid (show BM wa m g n M by rw [← hwa]; exact H0.out.alloc _)
                  have HR := Lib.hid (show RM wa rm rg n M by rw [← hwa]; exact R0.out.up ((Below.refl _ _).alloc (Nat.le_refl _) _))
                  have HBZ := Lib.hid (show Below w.heap.size w wa by rw [← hwa]; exact HB.out.alloc HB.out.size _)
                  clear hwa hob x0 x1 x2 H0 R0 HB
                  have o1 : wa.cell? ⟨ob, 1, none⟩ = some (.int .i64 a1) := HO.out.cell (i := 1) rfl
                  have o2 : wa.cell? ⟨ob, 2, none⟩ = some (.int .i64 a2) := HO.out.cell (i := 2) rfl
                  have lo := HO.out.lt
                  clear o1 o2 lo HO
                  have HC := Lib.hid (rcount_any HR.out)
                  have lrm := HR.out.hd.lt
                  have c0 := HR.out.cell0
                  have hqz := bw_cell wa
                  go_wp2_with fail
                  refine wp_region_bw (by kernel_rfl) (by kernel_rfl) ?_
                  repeat (first | go_big_quiet_step (first | (go_at_call 35; exact calls_same (count_any (HM.out.up (BW.is _)))) | (go_at_call 43; exact calls_same (rcount_any (HR.out.up (BW.is _))))) | quiet_step (first | (go_at_call 35; exact calls_same (count_any (HM.out.up (BW.is _)))) | (go_at_call 43; exact calls_same (rcount_any (HR.out.up (BW.is _))))))
                  with_reducible refine wpQuiet_nil ?_
                  rintro ⟨w9, hb⟩
                  dsimp only
                  have HM9 := Lib.hid (HM.out.up hb)
                  have HR9 := Lib.hid (HR.out.up hb)
                  have HB9 := Lib.hid (HBZ.out.trans (hb.mono HBZ.out.size))
                  clear hqz lrm c0 hb
                  go_wp2
                  go_roundw
                  case rel => exact ⟨k + 1, M, rm, rg, by omega, by go_num, rfl, HRG, HM9, HR9, HB9⟩
                  case measure => simp [intOf]; omega
    · go_wp2
      go_ret
      exact ⟨rfl, HB.out⟩
set_option maxRecDepth 100000 in
set_option maxHeartbeats 4000000 in
theorem bitsPlay_long (w : World) (p : Int) (s : Option Addr) (len cap : Nat) (hl : 200 < len) (hT : Tab w) :
    Calls Tryd.prog 8 #[.int .i64 p, .slice s len cap] w fun e w' => e = .returned (.bool true) ∧ Below w.heap.size w w' := by
  have HT := Lib.hid hT
  clear hT
  go_enter Tryd.func8, Tryd.ntmps8
  go_wp2_with fail
  refine (awake3_any HT.out).mono ?_
  rintro e w1 ⟨rfl, hB⟩
  have HB := Lib.hid hB
  have HT1 := Lib.hid (HT.out.below hB HT.out.2)
  clear hB
  go_wp2_with fail
  refine (awake3_any HT1.out).mono ?_
  rintro e w2 ⟨rfl, hB⟩
  have HB2 := Lib.hid (HB.out.trans (hB.mono HB.out.size))
  clear hB
  go_wp2
  go_ret
  exact ⟨rfl, HB2.out⟩
theorem bitsPlay_walk (w : World) (p : Int) (_ : (Lit.int .i64 p).wf = true) (s : Option Addr) (len cap : Nat) (f : Nat → Nat → Int) (ws : IsStr 3 w s len f) (hT : Tab w) :
    Calls Tryd.prog 8 #[.int .i64 p, .slice s len cap] w fun e w' => e = .returned (.bool true) ∧ Below w.heap.size w w' := by
  by_cases hl : len ≤ 200
  · exact bitsPlay_main w p s len cap f ws hl hT
  · exact bitsPlay_long w p s len cap (by omega) hT
end Go.Proofs.YtdfpmgpdkajhkaaDoor
