/-
  The walk of the law BitsBack: for every two slices of numbers it returns true, and memory below the heap's old size is unchanged, where the library's table lies. No other condition.
-/
import Derived.Test.YtdfpmgpdkajhkaaDoorBits6
import Derived.Test.YtdfpmgpdkajhkaaDoorArg
import Derived.Test.YtdfpmgpdkajhkaaDoorNe
import Derived.Test.YtdfpmgpdkajhkaaDoorOw
import Derived.Test.YtdfpmgpdkajhkaaDoorBitsWalkW
namespace Go.Proofs.YtdfpmgpdkajhkaaDoor
open Go.RowKit
theorem next_zero (n : Nat) : nextM n 0 0 = -1 := nextM_none (Nat.pow_pos (by decide)) fun i _ => bit_zero i
set_option maxRecDepth 100000 in
set_option maxHeartbeats 4000000 in
theorem bitsBack_long (w : World) (s : Option Addr) (len cap : Nat) (s2 : Option Addr) (len2 cap2 : Nat) (hl : 200 < len) (hT : Tab w) :
    Calls Tryd.prog 9 #[.slice s len cap, .slice s2 len2 cap2] w fun e w' => e = .returned (.bool true) ∧ Below w.heap.size w w' := by
  have HT := Lib.hid hT
  clear hT
  go_enter Tryd.func9, Tryd.ntmps9
  go_wp2_with fail
  refine (awake3_any HT.out).mono ?_
  rintro e w1 ⟨rfl, hB⟩
  have HB := Lib.hid hB
  have HT1 := Lib.hid (HT.out.below hB HT.out.2)
  clear hB
  go_wp2_with fail
  refine (awake3_any HT1.out).mono ?_
  rintro e w2 ⟨rfl, hB⟩
  have HB2 := Lib.hid (HB.out.trans (hB.mono HB.out.size))
  clear hB
  go_wp2
  go_ret
  exact ⟨rfl, HB2.out⟩
set_option maxRecDepth 100000 in
set_option maxHeartbeats 4000000 in
theorem bitsBack_long2 (w : World) (s : Option Addr) (len cap : Nat) (s2 : Option Addr) (len2 cap2 : Nat) (hl0 : len ≤ 200) (hl : 200 < len2) (hT : Tab w) :
    Calls Tryd.prog 9 #[.slice s len cap, .slice s2 len2 cap2] w fun e w' => e = .returned (.bool true) ∧ Below w.heap.size w w' := by
  have HT := Lib.hid hT
  clear hT
  go_enter Tryd.func9, Tryd.ntmps9
  go_wp2_with fail
  refine (awake3_any HT.out).mono ?_
  rintro e w1 ⟨rfl, hB⟩
  have HB := Lib.hid hB
  have HT1 := Lib.hid (HT.out.below hB HT.out.2)
  clear hB
  go_wp2_with fail
  refine (awake3_any HT1.out).mono ?_
  rintro e w2 ⟨rfl, hB⟩
  have HB2 := Lib.hid (HB.out.trans (hB.mono HB.out.size))
  clear hB
  go_wp2
  go_ret
  exact ⟨rfl, HB2.out⟩
set_option maxRecDepth 100000 in
set_option maxHeartbeats 8000000 in
theorem bitsBack_main (w : World) (s : Option Addr) (len cap : Nat) (zs : List Int) (ws : IsRow .u16 w s len cap zs) (s2 : Option Addr) (len2 cap2 : Nat) (zs2 : List Int) (ws2 : IsRow .u16 w s2 len2 cap2 zs2) (hl : len ≤ 200) (hl2 : len2 ≤ 200) (hT : Tab w) :
    Calls Tryd.prog 9 #[.slice s len cap, .slice s2 len2 cap2] w fun e w' => e = .returned (.bool true) ∧ Below w.heap.size w w' := by
  have HT := Lib.hid hT
  have HW := Lib.hid ws
  have HW2 := Lib.hid ws2
  clear hT ws ws2
  go_enter Tryd.func9, Tryd.ntmps9
  go_wp2_with fail
  refine (awake3_any HT.out).mono ?_
  rintro e w1 ⟨rfl, hB⟩
  have HB := Lib.hid hB
  have HT1 := Lib.hid (HT.out.below hB HT.out.2)
  clear hB
  go_wp2_with fail
  refine (new_any HT1.out 4096).mono ?_
  rintro e w2 ⟨m, g, rfl, hb, hg, hM, hB⟩
  rw [plc4096] at hM
  have H0 := Lib.hid hM
  have HB2 := Lib.hid (HB.out.trans (hB.mono HB.out.size))
  have HG := Lib.hid (Nat.le_trans HB.out.size hg)
  clear hM hB hg hb HB HT1
  go_wp2
  go_loopw [29] (fun i wr => ∃ k : Nat, k ≤ len ∧ i = .int .i64 k ∧ Hid (BM wr m g 4096 (adds 4096 zs k)) ∧ Hid (Below w.heap.size w wr)) (fun i _ => len - (intOf i).toNat)
  case atStart => exact ⟨0, Nat.zero_le _, rfl, H0, HB2⟩
  case round =>
    clear H0 HB2
    obtain ⟨k, hk, rfl, H0, HB⟩ := hrel
    by_cases hkl : k < len
    · obtain ⟨sb, so, rfl, hsb, hlz, hcell⟩ := HW.out.at (by omega)
      have hx : wr.cell? ⟨sb, so + k, none⟩ = some (.int .u16 (zs.getD k 0)) := (HB.out.cell (p := ⟨sb, so + k, none⟩) hsb).trans (hcell k hkl)
      obtain ⟨x0, x1⟩ := wf_u16 (HW.out.wf (i := k) (by omega))
      clear hcell
      obtain ⟨x, hxx⟩ : ∃ x, x = zs.getD k 0 := ⟨_, rfl⟩
      rw [← hxx] at hx x0 x1
      have HX := Lib.hid hxx
      clear hxx
      go_wp2_with fail
      refine (set_any H0.out _).mono ?_
      rintro e w3 ⟨rfl, hM, hG⟩
      have H1 := Lib.hid hM
      have HB1 := Lib.hid (below_only HB.out hG HB.out.size HG.out)
      clear hM hG
      go_wp2
      go_roundw
      case rel => exact ⟨k + 1, by omega, by go_num, by rw [HX.out] at H1; exact H1, HB1⟩
      case measure => simp [intOf]; omega
    · have hkl2 : k = len := by omega
      have HK := Lib.hid hkl2
      clear hk hkl2
      have HA := Lib.hid (fun j hj h0 => adds_has 4096 zs k j hj h0)
      have hM := H0.out.lt
      generalize hMM : adds 4096 zs k = M0 at H0 HA hM
      clear hMM
      have HM0 := Lib.hid hM
      have hp0 := popM_le 4096 M0
      clear hM
      obtain ⟨p0, hp0'⟩ : ∃ p0, p0 = popM 4096 M0 := ⟨_, rfl⟩
      have HP0 := Lib.hid hp0'
      rw [← hp0'] at hp0
      clear hp0'
      obtain ⟨wo, hwo⟩ : ∃ wo : World, wo = wr := ⟨_, rfl⟩
      subst hwo
      go_wp2_with fail
      refine (count_any H0.out).mono ?_
      rintro e w_ ⟨rfl, rfl⟩
      rw [← HP0.out]
      go_wp2
      have HS := Lib.hid HB.out.size
      go_loopw [8, 44] (fun v i wr => ∃ (j n c M : Nat) (A : Option Addr) (r : List Int), j ≤ len2 ∧ i = .int .i64 j ∧ v = .slice A n c ∧ n ≤ j ∧ Hid (n = r.length) ∧ Hid (ChR 4096 M0 r M) ∧ Hid (Own wr w.heap.size A n c r.reverse) ∧ Hid (BM wr m g 4096 M) ∧ Hid (Below w.heap.size w wr)) (fun _ i _ => len2 - (intOf i).toNat)
      case atStart => exact ⟨0, 0, 0, M0, none, [], Nat.zero_le _, rfl, rfl, Nat.le_refl _, Lib.hid rfl, Lib.hid rfl, Lib.hid (Own.nil _ _), H0, HB⟩
      case round =>
        clear H0 HB HS
        obtain ⟨j, n, c, M, A, r, hj, rfl, rfl, hnj, HN, HC, HO, H0, HB⟩ := hrel
        by_cases hkl' : j < len2
        · obtain ⟨sb, so, rfl, hsb, hlz, hcell⟩ := HW2.out.at (by omega)
          have hx : wr.cell? ⟨sb, so + j, none⟩ = some (.int .u16 (zs2.getD j 0)) := (HB.out.cell (p := ⟨sb, so + j, none⟩) hsb).trans (hcell j hkl')
          obtain ⟨x0, x1⟩ := wf_u16 (HW2.out.wf (i := j) (by omega))
          clear hcell
          obtain ⟨x, hxx⟩ : ∃ x, x = zs2.getD j 0 := ⟨_, rfl⟩
          rw [← hxx] at hx x0 x1
          clear hxx
          cases hnew : newB 4096 M x
          · have HE := Lib.hid hnew
            have HE2 := Lib.hid (setM_old hnew)
            clear hnew
            go_wp2_with fail
            refine (set_any H0.out _).mono ?_
            rintro e w3 ⟨rfl, hM, hG⟩
            rw [HE2.out] at hM
            rw [HE.out]
            have H1 := Lib.hid hM
            have HO1 := Lib.hid (HO.out.words H0.out hG)
            have HB1 := Lib.hid (below_only HB.out hG HB.out.size HG.out)
            clear hM hG
            go_wp2
            go_roundw
            case rel => exact ⟨j + 1, n, c, M, A, r, by omega, by go_num, rfl, by omega, HN, HC, HO1, H1, HB1⟩
            case measure => simp [intOf]; omega
          · have HE := Lib.hid hnew
            have HC2 : Hid (ChR 4096 M0 (x :: r) (setM 4096 M x)) := Lib.hid ⟨M, HC.out, hnew, rfl⟩
            clear hnew
            go_wp2_with fail
            refine (set_any H0.out _).mono ?_
            rintro e w3 ⟨rfl, hM, hG⟩
            rw [HE.out]
            have H1 := Lib.hid hM
            have HO1 := Lib.hid (HO.out.words H0.out hG)
            have HB1 := Lib.hid (below_only HB.out hG HB.out.size HG.out)
            have hx3 : w3.cell? ⟨sb, so + j, none⟩ = some (.int .u16 x) := (hG.cell hx (fun e => by injection e with e; have := HG.out; dsimp only at e; omega))
            clear hM hG hx
            go_wp2_with (at_builtin; refine app_int rfl _ _ rfl _ w.heap.size A n c r.reverse x rfl rfl HO1.out (by omega) HB1.out.size ?_; intro A' c' w4 hO hg)
            have H2 := Lib.hid (H1.out.own HO1.out HT.out.2 hg)
            have HB2 := Lib.hid (below_own HB1.out HO1.out (Nat.le_refl _) HB1.out.size hg)
            have HO2 := Lib.hid hO
            clear hO hg hx3
            go_wp2
            go_roundw
            case rel => exact ⟨j + 1, n + 1, c', setM 4096 M x, A', x :: r, by omega, by go_num, rfl, by omega, Lib.hid (by rw [HN.out]; rfl), HC2, by have := HO2.out; rw [List.reverse_cons]; exact HO2, H2, HB2⟩
            case measure => simp [intOf]; omega
        · have hj2 : n ≤ 200 := by omega
          clear hnj hj
          have hpp := chr_pop r M HC.out
          rw [← HP0.out, ← HN.out] at hpp
          have HPP : Hid (((popM 4096 M : Nat) : Int) = (p0 : Int) + (n : Int)) := by show ((popM 4096 M : Nat) : Int) = (p0 : Int) + (n : Int); omega
          clear hpp
          obtain ⟨wq, hwq⟩ : ∃ wq : World, wq = wr := ⟨_, rfl⟩
          subst hwq
          go_wp2_with fail
          refine (count_any H0.out).mono ?_
          rintro e w_ ⟨rfl, rfl⟩
          rw [HPP.out]
          go_wp2
          have HCD : Hid (ChR 4096 M0 (r.drop 0) M) := HC
          go_loopw [72] (fun i wr => ∃ (k M : Nat), k ≤ n ∧ i = .int .i64 k ∧ Hid (ChR 4096 M0 (r.drop k) M) ∧ Hid (Own wr w.heap.size A n c r.reverse) ∧ Hid (BM wr m g 4096 M) ∧ Hid (Below w.heap.size w wr)) (fun i _ => n - (intOf i).toNat)
          case atStart => exact ⟨0, M, Nat.zero_le _, rfl, HCD, HO, H0, HB⟩
          case round =>
            clear HCD HO H0 HB HC HPP
            obtain ⟨i, M1, hi, rfl, HC, HO, H0, HB⟩ := hrel
            by_cases hin : i < n
            · obtain ⟨go', rfl, hg1, hg2, hnc, hcell⟩ := HO.out.at (by omega)
              have hir : i < r.length := by rw [← HN.out]; exact hin
              have hx := hcell (n - 1 - i) (by omega)
              have hrv := rev_getD hir
              rw [← HN.out] at hrv
              rw [hrv] at hx
              obtain ⟨c1, c2⟩ := chr_at HC.out hir
              have hrange := hasB_lt (chr_lt HM0.out _ _ HC.out) c1
              clear hcell hrv hir
              obtain ⟨x, hxx⟩ : ∃ x, x = r.getD i 0 := ⟨_, rfl⟩
              rw [← hxx] at hx c1 c2 hrange
              obtain ⟨hr1, hr2⟩ := hrange
              have C1 := Lib.hid c1
              have C2 := Lib.hid c2
              clear hxx c1 c2
              go_wp2_with fail
              refine (clear_any H0.out _).mono ?_
              rintro e w3 ⟨rfl, hM, hG⟩
              rw [C1.out]
              have H1 := Lib.hid hM
              have HO1 := Lib.hid (HO.out.words H0.out hG)
              have HB1 := Lib.hid (below_only HB.out hG HB.out.size HG.out)
              clear hM hG hx
              go_wp2
              go_roundw
              case rel => exact ⟨i + 1, clrM M1 x, by omega, by go_num, C2, HO1, H1, HB1⟩
              case measure => simp [intOf]; omega
            · have hie : i = r.length := by have := HN.out; omega
              have hM1 : M1 = M0 := by have := HC.out; rw [hie, List.drop_length] at this; exact this
              rw [hM1] at H0
              clear hie hM1 HC HO
              go_wp2
              go_loopw [89] (fun i wr => ∃ k : Nat, k ≤ len ∧ i = .int .i64 k ∧ Hid (BM wr m g 4096 M0) ∧ Hid (Below w.heap.size w wr)) (fun i _ => len - (intOf i).toNat)
              case atStart => exact ⟨0, Nat.zero_le _, rfl, H0, HB⟩
              case round =>
                clear H0 HB
                have hkn := hkl
                clear hkl
                obtain ⟨k', hk, rfl, H0, HB⟩ := hrel
                by_cases hkl : k' < len
                · obtain ⟨sb, so, rfl, hsb, hlz, hcell⟩ := HW.out.at (by omega)
                  have hx : wr.cell? ⟨sb, so + k', none⟩ = some (.int .u16 (zs.getD k' 0)) := (HB.out.cell (p := ⟨sb, so + k', none⟩) hsb).trans (hcell k' hkl)
                  obtain ⟨x0, x1⟩ := wf_u16 (HW.out.wf (i := k') (by omega))
                  have ha := HA.out k' (by rw [HK.out]; exact hkl) x0
                  clear hcell
                  obtain ⟨x, hxx⟩ : ∃ x, x = zs.getD k' 0 := ⟨_, rfl⟩
                  rw [← hxx] at hx x0 x1 ha
                  have HX := Lib.hid hxx
                  clear hxx
                  have HA2 : Hid (hasB M0 x = decide (x < 4096)) := ha
                  clear ha
                  have lsb : sb < wr.heap.size := Nat.lt_of_lt_of_le hsb HB.out.size
                  have ex : IntKind.i64.wrap x = x := IntWalk.i64_in _ (by omega)
                  have hqr := bw_cell wr
                  by_cases hx4 : x < 4096
                  · have HA2 : Hid (hasB M0 x = true) := Lib.hid (HA2.out.trans (decide_eq_true hx4))
                    have hd : decide (x < 4096) = true := decide_eq_true hx4
                    go_wp2_with fail
                    refine wp_region_bw (by kernel_rfl) (by kernel_rfl) ?_
                    repeat go_big_quiet_step (first | (go_at_call 34; exact calls_bw_same (has_any (H0.out.up (BW.is _)) _)))
                    with_reducible refine wpQuiet_nil ?_
                    rintro ⟨w5, hb⟩
                    dsimp only
                    rw [HA2.out]
                    have H1 := Lib.hid (H0.out.up hb)
                    have HB1 := Lib.hid (HB.out.trans (hb.mono HB.out.size))
                    clear hqr hb ex
                    go_wp2
                    go_roundw
                    case rel => exact ⟨k' + 1, by omega, by go_num, H1, HB1⟩
                    case measure => simp [intOf]; omega
                  · have HA2 : Hid (hasB M0 x = false) := Lib.hid (HA2.out.trans (decide_eq_false hx4))
                    have hd : decide (x < 4096) = false := decide_eq_false hx4
                    go_wp2_with fail
                    refine wp_region_bw (by kernel_rfl) (by kernel_rfl) ?_
                    repeat go_big_quiet_step (first | (go_at_call 34; exact calls_bw_same (has_any (H0.out.up (BW.is _)) _)))
                    with_reducible refine wpQuiet_nil ?_
                    rintro ⟨w5, hb⟩
                    dsimp only
                    rw [HA2.out]
                    have H1 := Lib.hid (H0.out.up hb)
                    have HB1 := Lib.hid (HB.out.trans (hb.mono HB.out.size))
                    clear hqr hb ex
                    go_wp2
                    go_roundw
                    case rel => exact ⟨k' + 1, by omega, by go_num, H1, HB1⟩
                    case measure => simp [intOf]; omega
                · go_wp2_with fail
                  refine (count_any H0.out).mono ?_
                  rintro e w_ ⟨rfl, rfl⟩
                  rw [← HP0.out]
                  go_wp2_with fail
                  refine (wipe_any H0.out).mono ?_
                  rintro e w3 ⟨rfl, hM, hG⟩
                  have H1 := Lib.hid hM
                  have HB1 := Lib.hid (below_only HB.out hG HB.out.size HG.out)
                  clear hM hG
                  go_wp2_with fail
                  refine (count_any H1.out).mono ?_
                  rintro e w_ ⟨rfl, rfl⟩
                  rw [popM_zero]
                  go_wp2_with fail
                  refine (next_any H1.out _).mono ?_
                  rintro e w_ ⟨rfl, rfl⟩
                  rw [next_zero]
                  go_wp2
                  go_ret
                  exact ⟨rfl, HB1.out⟩
theorem bitsBack_walk (w : World) (s : Option Addr) (len cap : Nat) (zs : List Int) (ws : IsRow .u16 w s len cap zs) (s2 : Option Addr) (len2 cap2 : Nat) (zs2 : List Int) (ws2 : IsRow .u16 w s2 len2 cap2 zs2) (hT : Tab w) :
    Calls Tryd.prog 9 #[.slice s len cap, .slice s2 len2 cap2] w fun e w' => e = .returned (.bool true) ∧ Below w.heap.size w w' := by
  by_cases hl : len ≤ 200
  · by_cases hl2 : len2 ≤ 200
    · exact bitsBack_main w s len cap zs ws s2 len2 cap2 zs2 ws2 hl hl2 hT
    · exact bitsBack_long2 w s len cap s2 len2 cap2 hl (by omega) hT
  · exact bitsBack_long w s len cap s2 len2 cap2 (by omega) hT
end Go.Proofs.YtdfpmgpdkajhkaaDoor
