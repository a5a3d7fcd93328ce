/-
  The walk of the law CardOnce: for every two bounds and every slice of numbers it returns true, and memory below the heap's old size is unchanged, where the library's table lies. No other condition.
-/
import Derived.Test.YtdfpmgpdkajhkaaDoorCe
import Derived.Test.YtdfpmgpdkajhkaaDoorNg
import Derived.Test.YtdfpmgpdkajhkaaDoorArg
namespace Go.Proofs.YtdfpmgpdkajhkaaDoor
open Go.RowKit
set_option maxRecDepth 100000 in
set_option maxHeartbeats 4000000 in
theorem cardOnce_long (w : World) (x y : Int) (s : Option Addr) (len cap : Nat) (hl : 200 < len) (hT : Tab w) :
    Calls Tryd.prog 4 #[.int .u16 x, .int .u16 y, .slice s len cap] w fun e w' => e = .returned (.bool true) ∧ Below w.heap.size w w' := by
  have HT := Lib.hid hT
  clear hT
  go_enter Tryd.func4, Tryd.ntmps4
  go_wp2_with fail
  refine (awake7_any HT.out).mono ?_
  rintro e w1 ⟨rfl, hB⟩
  have HB := Lib.hid hB
  have HT1 := Lib.hid (HT.out.below hB HT.out.2)
  clear hB
  go_wp2_with fail
  refine (awake7_any HT1.out).mono ?_
  rintro e w2 ⟨rfl, hB⟩
  have HB2 := Lib.hid (HB.out.trans (hB.mono HB.out.size))
  clear hB
  go_wp2
  go_ret
  exact ⟨rfl, HB2.out⟩
set_option maxRecDepth 100000 in
set_option maxHeartbeats 8000000 in
theorem cardOnce_main (w : World) (x y : Int) (hx : 0 ≤ x ∧ x ≤ 65535) (hy : 0 ≤ y ∧ y ≤ 65535) (s : Option Addr) (len cap : Nat) (zs : List Int) (ws : IsRow .u16 w s len cap zs) (hl : len ≤ 200) (hT : Tab w) :
    Calls Tryd.prog 4 #[.int .u16 x, .int .u16 y, .slice s len cap] w fun e w' => e = .returned (.bool true) ∧ Below w.heap.size w w' := by
  have HT := Lib.hid hT
  have HW := Lib.hid ws
  clear hT ws
  obtain ⟨x0, x1⟩ := hx
  obtain ⟨y0, y1⟩ := hy
  have ex : IntKind.i64.wrap x = x := IntWalk.i64_in _ (by omega)
  have ey : IntKind.i64.wrap y = y := IntWalk.i64_in _ (by omega)
  have hto := plt_le (plc_le x) y
  obtain ⟨to, hto'⟩ : ∃ to, to = plt (plc x) y := ⟨_, rfl⟩
  rw [← hto'] at hto
  obtain ⟨fr, hfr'⟩ : ∃ fr, fr = plc x := ⟨_, rfl⟩
  rw [← hfr'] at hto hto'
  obtain ⟨hft, hto4⟩ := hto
  have HTO := Lib.hid hto'
  have HFR := Lib.hid hfr'
  clear hto' hfr'
  have hnc := ncard_le (fr := fr) hto4
  obtain ⟨nc, hnc'⟩ : ∃ nc, nc = ncard fr to := ⟨_, rfl⟩
  rw [← hnc'] at hnc
  have HNC := Lib.hid hnc'
  clear hnc'
  obtain ⟨f, hf'⟩ : ∃ f : Nat → Int, f = fun j => cardI fr to (zs.getD j 0) := ⟨_, rfl⟩
  have HF : Hid (∀ j, cardI fr to (zs.getD j 0) = f j) := Lib.hid fun j => by rw [hf']
  clear hf'
  go_enter Tryd.func4, Tryd.ntmps4
  go_wp2_with fail
  refine (awake7_any HT.out).mono ?_
  rintro e w1 ⟨rfl, hB⟩
  have HB := Lib.hid hB
  have HT1 := Lib.hid (HT.out.below hB HT.out.2)
  clear hB
  go_wp2_with fail
  refine (tnew_any HT1.out x y).mono ?_
  rintro e w2 ⟨t1, b1, g1, rfl, _, _, hg, hM, hB⟩
  rw [← HFR.out, ← HTO.out] at hM
  have HA := Lib.hid hM
  have HB2 := Lib.hid (HB.out.trans (hB.mono HB.out.size))
  have HG1 := Lib.hid (Nat.le_trans HB.out.size hg)
  clear hM hB hg HB HT1
  go_wp2_with fail
  refine (tnew_any HA.out.bm.tab x y).mono ?_
  rintro e w3 ⟨t2, b2, g2, rfl, _, _, hg, hM, hB⟩
  rw [← HFR.out, ← HTO.out] at hM
  have HNE : Hid (g1 ≠ g2) := Lib.hid (by have := HA.out.bm.ws.lt; omega)
  have HC := Lib.hid hM
  have HA1 := Lib.hid (HA.out.up hB)
  have HB3 := Lib.hid (HB2.out.trans (hB.mono HB2.out.size))
  have HG2 := Lib.hid (Nat.le_trans HB2.out.size hg)
  clear hM hB hg HA HB2
  clear ex ey
  go_wp2
  go_loopw [9, 33] (fun v i wr => ∃ k d : Nat, k ≤ len ∧ d ≤ k ∧ v = .int .i64 d ∧ i = .int .i64 k ∧ Hid (d = popM nc (addF nc f k)) ∧ Hid (TM wr t1 b1 g1 fr to (addF nc f k)) ∧ Hid (TM wr t2 b2 g2 fr to (addF nc (fun j => f (len - 1 - j)) k)) ∧ Hid (Below w.heap.size w wr)) (fun _ i _ => len - (intOf i).toNat)
  case atStart => exact ⟨0, 0, Nat.zero_le _, Nat.le_refl _, rfl, rfl, Lib.hid (popM_zero _).symm, HA1, HC, HB3⟩
  case round =>
    clear HA1 HC HB3
    obtain ⟨k, d, hk, hdk, rfl, rfl, HD, HA, HB_, HB⟩ := hrel
    by_cases hkl : k < len
    · obtain ⟨sb, so, rfl, hsb, hlz, hcell⟩ := HW.out.at (by omega)
      have hx1 : wr.cell? ⟨sb, so + k, none⟩ = some (.int .u16 (zs.getD k 0)) := (HB.out.cell (p := ⟨sb, so + k, none⟩) hsb).trans (hcell k hkl)
      have hx2' : w.cell? ⟨sb, so + (len - 1 - k), none⟩ = some (.int .u16 (zs.getD (len - 1 - k) 0)) := hcell (len - 1 - k) (by omega)
      obtain ⟨u0, u1⟩ := wf_u16 (HW.out.wf (i := k) (by omega))
      obtain ⟨v0, v1⟩ := wf_u16 (HW.out.wf (i := len - 1 - k) (by omega))
      have F1 := Lib.hid (HF.out k)
      have F2 := Lib.hid (HF.out (len - 1 - k))
      clear hcell
      generalize zs.getD k 0 = u at hx1 u0 u1 F1
      generalize zs.getD (len - 1 - k) 0 = v at hx2' v0 v1 F2
      have HX2 := Lib.hid hx2'
      clear hx2'
      cases hnew : newB nc (addF nc f k) (f k)
      · have HNW := Lib.hid hnew
        have HD1 : Hid (d = popM nc (addF nc f (k + 1))) := Lib.hid (by show d = popM nc (setM nc (addF nc f k) (f k)); rw [setM_old hnew]; exact HD.out)
        clear hnew
        go_wp2_with fail
        refine (touch_any HA.out _).mono ?_
        rintro e w4 ⟨rfl, hM, hG⟩
        rw [F1.out, ← HNC.out] at hM
        rw [F1.out, ← HNC.out, HNW.out]
        have HA1 := Lib.hid hM
        have HB1 := Lib.hid (HB_.out.other HA.out.bm (Ne.symm HNE.out) hG)
        have B1 := Lib.hid (below_only HB.out hG HB.out.size HG1.out)
        clear hM hG hx1
        have hx2 : w4.cell? ⟨sb, so + (len - 1 - k), none⟩ = some (.int .u16 v) := (B1.out.cell (p := ⟨sb, so + (len - 1 - k), none⟩) hsb).trans HX2.out
        go_wp2_with fail
        refine (touch_any HB1.out _).mono ?_
        rintro e w5 ⟨rfl, hM, hG⟩
        rw [F2.out, ← HNC.out] at hM
        have HA2 := Lib.hid (HA1.out.other HB1.out.bm HNE.out hG)
        have HB2 := Lib.hid hM
        have B2 := Lib.hid (below_only B1.out hG B1.out.size HG2.out)
        clear hM hG hx2
        go_wp2
        go_roundw
        case rel => exact ⟨k + 1, d, by omega, by omega, rfl, by go_num, HD1, HA2, HB2, B2⟩
        case measure => simp [intOf]; omega
      · have HNW := Lib.hid hnew
        have HD1 : Hid (d + 1 = popM nc (addF nc f (k + 1))) := Lib.hid (by show d + 1 = popM nc (setM nc (addF nc f k) (f k)); rw [popM_new hnew, ← HD.out])
        clear hnew
        go_wp2_with fail
        refine (touch_any HA.out _).mono ?_
        rintro e w4 ⟨rfl, hM, hG⟩
        rw [F1.out, ← HNC.out] at hM
        rw [F1.out, ← HNC.out, HNW.out]
        have HA1 := Lib.hid hM
        have HB1 := Lib.hid (HB_.out.other HA.out.bm (Ne.symm HNE.out) hG)
        have B1 := Lib.hid (below_only HB.out hG HB.out.size HG1.out)
        clear hM hG hx1
        have hx2 : w4.cell? ⟨sb, so + (len - 1 - k), none⟩ = some (.int .u16 v) := (B1.out.cell (p := ⟨sb, so + (len - 1 - k), none⟩) hsb).trans HX2.out
        go_wp2_with fail
        refine (touch_any HB1.out _).mono ?_
        rintro e w5 ⟨rfl, hM, hG⟩
        rw [F2.out, ← HNC.out] at hM
        have HA2 := Lib.hid (HA1.out.other HB1.out.bm HNE.out hG)
        have HB2 := Lib.hid hM
        have B2 := Lib.hid (below_only B1.out hG B1.out.size HG2.out)
        clear hM hG hx2
        go_wp2
        go_roundw
        case rel => exact ⟨k + 1, d + 1, by omega, by omega, by go_num, by go_num, HD1, HA2, HB2, B2⟩
        case measure => simp [intOf]; omega
    · have hke : k = len := by omega
      have hrev := addF_rev nc f k
      rw [← hke] at HB_
      rw [hrev] at HB_
      have hML := addF_lt nc f k
      have hpl := popM_le nc (addF nc f k)
      generalize addF nc f k = M at HA HB_ HD hML hpl
      have HML := Lib.hid hML
      have hdd := HD.out
      rw [← hdd] at hpl
      clear hrev hke hML hk hdk hdd
      go_wp2_with fail
      refine (all_any HA.out).mono ?_
      rintro e w4 ⟨A1, c1, rfl, hO, hM, hB⟩
      rw [← HNC.out, ← HD.out] at hO
      rw [← HNC.out, ← HD.out]
      have HA2 := Lib.hid hM
      have HR := Lib.hid hO
      have HC2 := Lib.hid (HB_.out.up hB)
      have B2 := Lib.hid (HB.out.trans (hB.mono HB.out.size))
      clear hM hO hB HA HB_ HB
      go_wp2_with fail
      refine (all_any HC2.out).mono ?_
      rintro e w5 ⟨A2, c2, rfl, hO, hM, hB⟩
      rw [← HNC.out, ← HD.out] at hO
      rw [← HNC.out, ← HD.out]
      have HA3 := Lib.hid (HA2.out.up hB)
      have HR3 := Lib.hid (HR.out.up hB)
      have HR2 := Lib.hid hO.rd
      have B3 := Lib.hid (B2.out.trans (hB.mono B2.out.size))
      clear hM hO hB HA2 HR B2 HC2
      go_wp2_with fail
      refine (same_yes HR3.out.rd HR2.out (by omega)).mono ?_
      rintro e w6 ⟨rfl, hB⟩
      have HA4 := Lib.hid (HA3.out.up hB)
      have HR4 := Lib.hid (HR3.out.up hB)
      have B4 := Lib.hid (B3.out.trans (hB.mono B3.out.size))
      clear hB HA3 HR3 HR2 B3
      go_wp2_with fail
      refine (twipe_any HA4.out).mono ?_
      rintro e w7 ⟨rfl, hM, hG⟩
      have HA5 := Lib.hid hM
      have HR5 := Lib.hid (HR4.out.words HA4.out.bm hG)
      have B5 := Lib.hid (below_only B4.out hG B4.out.size HG1.out)
      clear hM hG HA4 HR4 B4
      go_wp2
      go_loopw [74] (fun i wz => ∃ k Mi : Nat, k ≤ d ∧ i = .int .i64 k ∧ Hid (RkIs M Mi k) ∧ Hid (TM wz t1 b1 g1 fr to Mi) ∧ Hid (Own wz wr.heap.size A1 d c1 (allL fr nc M)) ∧ Hid (Below w.heap.size w wz)) (fun i _ => d - (intOf i).toNat)
      case atStart => exact ⟨0, 0, Nat.zero_le _, rfl, Lib.hid (rk_start _), HA5, HR5, B5⟩
      case round =>
        clear HA5 HR5 B5
        obtain ⟨i, Mi, hi, rfl, HK, HA, HO, HB⟩ := hrel
        by_cases hid : i < d
        · obtain ⟨ga, rfl, _, hga, hdc, hcell⟩ := HO.out.at (by omega)
          have hx := hcell i hid
          obtain ⟨j, j1, j2, j3, j4⟩ := allL_get (fr := fr) (n := nc) (M := M) (i := i) (by rw [← HD.out]; exact hid)
          rw [j1] at hx
          obtain ⟨s1, s2, s3⟩ := rk_step HK.out j2 j3 j4
          have HCF : Hid (cardI fr to ((fr : Int) + (j : Int) * 16) = j) := Lib.hid (card_first (by rw [← HNC.out]; exact j3))
          have S1 := Lib.hid s1
          have S2 := Lib.hid s2
          have S3 := Lib.hid s3
          have hj256 : j < 256 := by omega
          clear hcell j1 j2 j4 s1 s2 s3
          obtain ⟨a, ha⟩ : ∃ a, a = (fr : Int) + (j : Int) * 16 := ⟨_, rfl⟩
          rw [← ha] at hx HCF
          clear ha
          go_wp2_with fail
          refine (dirty_any HA.out _).mono ?_
          rintro e w_ ⟨rfl, rfl⟩
          rw [HCF.out, S2.out]
          go_wp2_with fail
          refine (touch_any HA.out _).mono ?_
          rintro e w8 ⟨rfl, hM, hG⟩
          rw [HCF.out, ← HNC.out] at hM
          rw [HCF.out, ← HNC.out, S1.out]
          have HA1 := Lib.hid hM
          have HO1 := Lib.hid (HO.out.words HA.out.bm hG)
          have HB1 := Lib.hid (below_only HB.out hG HB.out.size HG1.out)
          clear hM hG hx
          go_wp2
          go_roundw
          case rel => exact ⟨i + 1, setM nc Mi j, by omega, by go_num, S3, HA1, HO1, HB1⟩
          case measure => simp [intOf]; omega
        · have hie : i = popM nc M := by rw [← HD.out]; omega
          have hMi : Mi = M := rk_end HML.out (by rw [← hie]; exact HK.out)
          rw [hMi] at HA
          clear hie hMi HK
          go_wp2_with fail
          refine (all_any HA.out).mono ?_
          rintro e w8 ⟨A3, c3, rfl, hO, hM, hB⟩
          rw [← HNC.out, ← HD.out] at hO
          rw [← HNC.out, ← HD.out]
          have HR3 := Lib.hid hO.rd
          have HR1 := Lib.hid (HO.out.up hB).rd
          have B6 := Lib.hid (HB.out.trans (hB.mono HB.out.size))
          clear hM hO hB HA HO HB
          go_wp2_with fail
          refine (same_yes HR3.out HR1.out (by omega)).mono ?_
          rintro e w9 ⟨rfl, hB⟩
          have B7 := Lib.hid (B6.out.trans (hB.mono B6.out.size))
          clear hB
          go_wp2
          go_ret
          exact ⟨rfl, B7.out⟩
theorem cardOnce_walk (w : World) (x : Int) (wx : (Lit.int .u16 x).wf = true) (y : Int) (wy : (Lit.int .u16 y).wf = true) (s : Option Addr) (len cap : Nat) (zs : List Int) (ws : IsRow .u16 w s len cap zs) (hT : Tab w) :
    Calls Tryd.prog 4 #[.int .u16 x, .int .u16 y, .slice s len cap] w fun e w' => e = .returned (.bool true) ∧ Below w.heap.size w w' := by
  by_cases hl : len ≤ 200
  · exact cardOnce_main w x y (wf_u16 wx) (wf_u16 wy) s len cap zs ws hl hT
  · exact cardOnce_long w x y s len cap (by omega) hT
end Go.Proofs.YtdfpmgpdkajhkaaDoor
