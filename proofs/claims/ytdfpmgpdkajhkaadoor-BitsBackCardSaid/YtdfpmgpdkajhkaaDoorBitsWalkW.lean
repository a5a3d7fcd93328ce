/-
  The walk of the law BitsWalk: for every slice of numbers and every two ints it returns true, and memory below the heap's old size is unchanged, where the library's table lies. No other condition.
-/
import Derived.Test.YtdfpmgpdkajhkaaDoorBits6
import Derived.Test.YtdfpmgpdkajhkaaDoorArg
import Derived.Test.YtdfpmgpdkajhkaaDoorNd
namespace Go.Proofs.YtdfpmgpdkajhkaaDoor
open Go.RowKit
/-- A callee that leaves the world as it is, met in a region whose callees may make memory. -/
theorem calls_bw_same {P : Program} {f : FuncId} {args : Array Value} {w : World} {u : BW w} {v : Value}
    (h : Calls P f args u.w fun e w' => e = .returned v ∧ u.w = w') : Calls P f args u.w fun e w'' => e = .returned v ∧ ∃ u' : BW w, w'' = u'.w :=
  h.mono fun _ _ hh => ⟨hh.1, u, hh.2.symm⟩
set_option maxRecDepth 100000 in
set_option maxHeartbeats 4000000 in
theorem bitsWalk_long (w : World) (s : Option Addr) (len cap : Nat) (a b : Int) (hl : 200 < len) (hT : Tab w) :
    Calls Tryd.prog 5 #[.slice s len cap, .int .i64 a, .int .i64 b] w fun e w' => e = .returned (.bool true) ∧ Below w.heap.size w w' := by
  have HT := Lib.hid hT
  clear hT
  go_enter Tryd.func5, Tryd.ntmps5
  go_wp2_with fail
  refine (awake3_any HT.out).mono ?_
  rintro e w1 ⟨rfl, hB⟩
  have HB := Lib.hid hB
  have HT1 := Lib.hid (HT.out.below hB HT.out.2)
  clear hB
  go_wp2_with fail
  refine (awake3_any HT1.out).mono ?_
  rintro e w2 ⟨rfl, hB⟩
  have HB2 := Lib.hid (HB.out.trans (hB.mono HB.out.size))
  clear hB
  go_wp2
  go_ret
  exact ⟨rfl, HB2.out⟩
set_option maxRecDepth 100000 in
set_option maxHeartbeats 4000000 in
theorem bitsWalk_main (w : World) (s : Option Addr) (len cap : Nat) (zs : List Int) (ws : IsRow .u16 w s len cap zs) (a b : Int) (hl : len ≤ 200) (hT : Tab w) :
    Calls Tryd.prog 5 #[.slice s len cap, .int .i64 a, .int .i64 b] w fun e w' => e = .returned (.bool true) ∧ Below w.heap.size w w' := by
  have HT := Lib.hid hT
  have HW := Lib.hid ws
  clear hT ws
  go_enter Tryd.func5, Tryd.ntmps5
  go_wp2_with fail
  refine (awake3_any HT.out).mono ?_
  rintro e w1 ⟨rfl, hB⟩
  have HB := Lib.hid hB
  have HT1 := Lib.hid (HT.out.below hB HT.out.2)
  clear hB
  go_wp2_with fail
  refine (new_any HT1.out 4096).mono ?_
  rintro e w2 ⟨m, g, rfl, hb, hg, hM, hB⟩
  rw [plc4096] at hM
  have H0 := Lib.hid hM
  have HB2 := Lib.hid (HB.out.trans (hB.mono HB.out.size))
  have HG := Lib.hid (Nat.le_trans HB.out.size hg)
  clear hM hB hg hb HB HT1
  go_wp2
  go_loopw [25] (fun i wr => ∃ k : Nat, k ≤ len ∧ i = .int .i64 k ∧ Hid (BM wr m g 4096 (adds 4096 zs k)) ∧ Hid (Below w.heap.size w wr)) (fun i _ => len - (intOf i).toNat)
  case atStart => exact ⟨0, Nat.zero_le _, rfl, H0, HB2⟩
  case round =>
    clear H0 HB2
    obtain ⟨k, hk, rfl, H0, HB⟩ := hrel
    by_cases hkl : k < len
    · obtain ⟨sb, so, rfl, hsb, hlz, hcell⟩ := HW.out.at (by omega)
      have hx : wr.cell? ⟨sb, so + k, none⟩ = some (.int .u16 (zs.getD k 0)) := (HB.out.cell (p := ⟨sb, so + k, none⟩) hsb).trans (hcell k hkl)
      obtain ⟨x0, x1⟩ := wf_u16 (HW.out.wf (i := k) (by omega))
      clear hcell
      obtain ⟨x, hxx⟩ : ∃ x, x = zs.getD k 0 := ⟨_, rfl⟩
      rw [← hxx] at hx x0 x1
      have HX := Lib.hid hxx
      clear hxx
      go_wp2_with fail
      refine (set_any H0.out _).mono ?_
      rintro e w3 ⟨rfl, hM, hG⟩
      have H1 := Lib.hid hM
      have HB1 := Lib.hid (below_only HB.out hG HB.out.size HG.out)
      clear hM hG
      go_wp2
      go_roundw
      case rel => exact ⟨k + 1, by omega, by go_num, by rw [HX.out] at H1; exact H1, HB1⟩
      case measure => simp [intOf]; omega
    · have hkl2 : k = len := by omega
      have HK := Lib.hid hkl2
      clear hk
      have hM := H0.out.lt
      have hP0 := adds_pop 4096 zs k
      have HA := Lib.hid (fun j hj h0 => adds_has 4096 zs k j hj h0)
      generalize hMM : adds 4096 zs k = M at H0 hM hP0 HA
      clear hMM
      have hP : popM 4096 M ≤ 200 := by omega
      clear hP0 hkl2
      have HM := Lib.hid hM
      have HP := Lib.hid hP
      clear hM hP
      obtain ⟨z0, hz0⟩ : ∃ z0, z0 = nextM 4096 M 0 := ⟨_, rfl⟩
      have HZ := Lib.hid hz0
      clear hz0
      obtain ⟨wo, hwo⟩ : ∃ wo : World, wo = wr := ⟨_, rfl⟩
      subst hwo
      go_wp2_with fail
      refine (next_any H0.out _).mono ?_
      rintro e w_ ⟨rfl, rfl⟩
      rw [← HZ.out]
      go_wp2
      go_loop [9, 10, 11, 12] (fun c d l i => ∃ (p k s : Nat) (y z : Int), c = .int .i64 (k : Nat) ∧ d = .int .i64 (s : Nat) ∧ l = .int .i64 y ∧ i = .int .i64 z ∧ y < p ∧ Hid (z = nextM 4096 M p) ∧ Hid (WkAt 4096 M a b p k s) ∧ s ≤ k ∧ k ≤ 200) (fun _ _ _ i => upm 4096 (intOf i))
      case atStart => exact ⟨0, 0, 0, -1, z0, rfl, rfl, rfl, rfl, by omega, HZ, Lib.hid (wk_start _ _ _ _), by omega, by omega⟩
      case round =>
        clear HZ
        obtain ⟨p, c, d, y, z, rfl, rfl, rfl, rfl, hy, HZ, HK1, hdc, hc⟩ := hrel
        by_cases h0 : z ≥ 0
        · obtain ⟨j, rfl⟩ : ∃ j : Nat, z = j := ⟨z.toNat, by omega⟩
          obtain ⟨q1, q2, q3, q4, q5, q6⟩ := wk_next HM.out HK1.out HZ.out.symm
          have hp := HP.out
          have hle : decide ((j : Int) ≤ y) = false := decide_eq_false (by omega)
          have hc2 : c + 1 ≤ 200 := by omega
          have Q3 := Lib.hid q3
          have Q6 := Lib.hid q6
          have MS := Lib.hid (upm_next HM.out q2)
          clear q3 q6 hp q4
          obtain ⟨z1, hz1⟩ : ∃ z1, z1 = nextM 4096 M ((j + 1 : Nat) : Int) := ⟨_, rfl⟩
          have HZ1 := Lib.hid hz1
          clear hz1
          by_cases hin : a ≤ (j : Int) ∧ (j : Int) < b
          · have g1 : decide ((j : Int) ≥ a) = true := decide_eq_true hin.1
            have g2 : decide ((j : Int) < b) = true := decide_eq_true hin.2
            have HIN := Lib.hid hin
            clear hin
            go_wp2_with fail
            refine (has_any H0.out _).mono ?_
            rintro e w_ ⟨rfl, rfl⟩
            rw [Q3.out]
            go_wp2_with fail
            rw [show ((j : Int) + 1) = ((j + 1 : Nat) : Int) by omega]
            refine (next_any H0.out _).mono ?_
            rintro e w_ ⟨rfl, rfl⟩
            rw [← HZ1.out]
            go_wp2
            go_round
            case rel => exact ⟨j + 1, c + 1, d + 1, j, z1, by go_num, by go_num, rfl, rfl, by omega, HZ1, by have := Q6.out; rw [if_pos HIN.out] at this; exact this, by omega, hc2⟩
            case measure => simp only [intOf]; rw [HZ1.out]; exact MS.out
          · have HIN := Lib.hid hin
            by_cases hin1 : a ≤ (j : Int)
            · have g1 : decide ((j : Int) ≥ a) = true := decide_eq_true hin1
              have g2 : decide ((j : Int) < b) = false := decide_eq_false (by omega)
              clear hin
              go_wp2_with fail
              refine (has_any H0.out _).mono ?_
              rintro e w_ ⟨rfl, rfl⟩
              rw [Q3.out]
              go_wp2_with fail
              rw [show ((j : Int) + 1) = ((j + 1 : Nat) : Int) by omega]
              refine (next_any H0.out _).mono ?_
              rintro e w_ ⟨rfl, rfl⟩
              rw [← HZ1.out]
              go_wp2
              go_round
              case rel => exact ⟨j + 1, c + 1, d, j, z1, by go_num, rfl, rfl, rfl, by omega, HZ1, by have := Q6.out; rw [if_neg HIN.out] at this; exact this, by omega, hc2⟩
              case measure => simp only [intOf]; rw [HZ1.out]; exact MS.out
            · have g1 : decide ((j : Int) ≥ a) = false := decide_eq_false hin1
              clear hin
              go_wp2_with fail
              refine (has_any H0.out _).mono ?_
              rintro e w_ ⟨rfl, rfl⟩
              rw [Q3.out]
              go_wp2_with fail
              rw [show ((j : Int) + 1) = ((j + 1 : Nat) : Int) by omega]
              refine (next_any H0.out _).mono ?_
              rintro e w_ ⟨rfl, rfl⟩
              rw [← HZ1.out]
              go_wp2
              go_round
              case rel => exact ⟨j + 1, c + 1, d, j, z1, by go_num, rfl, rfl, rfl, by omega, HZ1, by have := Q6.out; rw [if_neg HIN.out] at this; exact this, by omega, hc2⟩
              case measure => simp only [intOf]; rw [HZ1.out]; exact MS.out
        · obtain ⟨q1, q2⟩ := wk_end HM.out HK1.out (by rw [← HZ.out]; omega)
          have Q1 := Lib.hid q1
          have Q2 := Lib.hid q2
          clear q1 q2
          have hqq := Lib.hid (bw_cell wo)
          go_wp2
          go_loopw [72] (fun i wr => ∃ k : Nat, k ≤ len ∧ i = .int .i64 k ∧ Hid (BM wr m g 4096 M) ∧ Hid (Below w.heap.size w wr)) (fun i _ => len - (intOf i).toNat)
          case atStart => exact ⟨0, Nat.zero_le _, rfl, H0, HB⟩
          case round =>
            clear H0 HB hqq
            obtain ⟨k', hk, rfl, H0, HB⟩ := hrel
            by_cases hkl' : k' < len
            · obtain ⟨sb, so, rfl, hsb, hlz, hcell⟩ := HW.out.at (by omega)
              have hx : wr.cell? ⟨sb, so + k', none⟩ = some (.int .u16 (zs.getD k' 0)) := (HB.out.cell (p := ⟨sb, so + k', none⟩) hsb).trans (hcell k' hkl')
              obtain ⟨x0, x1⟩ := wf_u16 (HW.out.wf (i := k') (by omega))
              have ha := HA.out k' (by rw [HK.out]; exact hkl') x0
              clear hcell
              obtain ⟨x, hxx⟩ : ∃ x, x = zs.getD k' 0 := ⟨_, rfl⟩
              rw [← hxx] at hx x0 x1 ha
              have HX := Lib.hid hxx
              clear hxx
              have HA2 : Hid (hasB M x = decide (x < 4096)) := ha
              have lsb : sb < wr.heap.size := Nat.lt_of_lt_of_le hsb HB.out.size
              clear ha
              have ex : IntKind.i64.wrap x = x := IntWalk.i64_in _ (by omega)
              have hqr := bw_cell wr
              by_cases hx4 : x < 4096
              · have HA2 : Hid (hasB M x = true) := Lib.hid (HA2.out.trans (decide_eq_true hx4))
                have hd : decide (x < 4096) = true := decide_eq_true hx4
                go_wp2_with fail
                refine wp_region_bw (by kernel_rfl) (by kernel_rfl) ?_
                repeat go_big_quiet_step (first | (go_at_call 34; exact calls_bw_same (has_any (H0.out.up (BW.is _)) _)))
                with_reducible refine wpQuiet_nil ?_
                rintro ⟨w5, hb⟩
                dsimp only
                rw [HA2.out]
                have H1 := Lib.hid (H0.out.up hb)
                have HB1 := Lib.hid (HB.out.trans (hb.mono HB.out.size))
                clear hqr hb ex
                go_wp2
                go_roundw
                case rel => exact ⟨k' + 1, by omega, by go_num, H1, HB1⟩
                case measure => simp [intOf]; omega
              · have HA2 : Hid (hasB M x = false) := Lib.hid (HA2.out.trans (decide_eq_false hx4))
                have hd : decide (x < 4096) = false := decide_eq_false hx4
                go_wp2_with fail
                refine wp_region_bw (by kernel_rfl) (by kernel_rfl) ?_
                repeat go_big_quiet_step (first | (go_at_call 34; exact calls_bw_same (has_any (H0.out.up (BW.is _)) _)))
                with_reducible refine wpQuiet_nil ?_
                rintro ⟨w5, hb⟩
                dsimp only
                rw [HA2.out]
                have H1 := Lib.hid (H0.out.up hb)
                have HB1 := Lib.hid (HB.out.trans (hb.mono HB.out.size))
                clear hqr hb ex
                go_wp2
                go_roundw
                case rel => exact ⟨k' + 1, by omega, by go_num, H1, HB1⟩
                case measure => simp [intOf]; omega
            · go_wp2_with fail
              refine (count_any H0.out).mono ?_
              rintro e w_ ⟨rfl, rfl⟩
              rw [← Q1.out]
              go_wp2_with fail
              refine (between_any H0.out _ _).mono ?_
              rintro e w_ ⟨rfl, rfl⟩
              rw [← Q2.out]
              go_wp2
              go_ret
              exact ⟨rfl, HB.out⟩
theorem bitsWalk_walk (w : World) (s : Option Addr) (len cap : Nat) (zs : List Int) (ws : IsRow .u16 w s len cap zs) (a : Int) (_ : (Lit.int .i64 a).wf = true) (b : Int) (_ : (Lit.int .i64 b).wf = true) (hT : Tab w) :
    Calls Tryd.prog 5 #[.slice s len cap, .int .i64 a, .int .i64 b] w fun e w' => e = .returned (.bool true) ∧ Below w.heap.size w w' := by
  by_cases hl : len ≤ 200
  · exact bitsWalk_main w s len cap zs ws a b hl hT
  · exact bitsWalk_long w s len cap a b (by omega) hT
end Go.Proofs.YtdfpmgpdkajhkaaDoor
