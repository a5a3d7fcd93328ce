/-
  The walk of the law CardTakes: for every two bounds and every slice of numbers it returns true, and memory below the heap's old size is unchanged, where the library's table lies. No other condition.
-/
import Derived.Test.YtdfpmgpdkajhkaaDoorCe
import Derived.Test.YtdfpmgpdkajhkaaDoorNh
import Derived.Test.YtdfpmgpdkajhkaaDoorArg
namespace Go.Proofs.YtdfpmgpdkajhkaaDoor
open Go.RowKit
theorem TM.bools {w w' : World} {t b g fr to M hb : Nat} {cs : Array Value} (h : TM w t b g fr to M) (hB : Blk w hb cs 4) (h0 : 0 < hb) (hg : w.grownBy w' (some hb)) : TM w' t b g fr to M :=
  ⟨h.hd.grown hg (fun e => h.hd.ne_ hB (by decide) (Option.some.inj e)), h.bm.grown hg (fun e => by have := Option.some.inj e; omega) (fun e => h.bm.hd.ne_ hB (by decide) (Option.some.inj e)) (fun e => h.bm.ws.ne_ hB (by decide) (Option.some.inj e)), h.le, h.le4⟩
theorem Own.bools {w w' : World} {base hb : Nat} {A : Option Addr} {n c : Nat} {xs : List Int} {cs : Array Value} (h : Own w base A n c xs) (hB : Blk w hb cs 4) (hg : w.grownBy w' (some hb)) : Own w' base A n c xs :=
  h.kept hg fun g e t cs' hh => by
    have e := Option.some.inj e
    subst e
    unfold Blk at hB
    rw [hB] at hh
    injection hh with hh
    injection hh with _ q
    subst q
    decide
def fnCells (n : Nat) (h : Nat → Bool) : Array Value := Array.ofFn (n := n) fun i => .bool (h i)
theorem fnCells_at {n i : Nat} {h : Nat → Bool} (hi : i < n) : (fnCells n h)[i]? = some (.bool (h i)) := by unfold fnCells; simp [hi]
theorem fnCells_set (n q : Nat) (h : Nat → Bool) (v : Bool) : (fnCells n h).setIfInBounds q (.bool v) = fnCells n (fun i => if i = q then v else h i) := by
  apply Array.ext
  · simp [fnCells]
  · intro i h1 h2
    have h3 : i < (fnCells n h).size := by simp [fnCells] at h2 ⊢; exact h2
    rw [Array.getElem_setIfInBounds h3]
    by_cases e : q = i
    · subst e; simp [fnCells]
    · simp [fnCells, e, Ne.symm e]
theorem bool_fn (n : Nat) : boolCells n 0 = fnCells n (fun _ => false) := by
  apply Array.ext
  · simp [fnCells, boolCells]
  · intro i h1 h2
    simp [fnCells, boolCells]
/-- What Take tells where the first i of M's cards were taken before. -/
def TkSt (fr to n M i : Nat) (a b : Int) (ok : Bool) (Mi : Nat) : Prop :=
  (ok = true ∧ ∃ j : Nat, M.testBit j = true ∧ cnt (fun y => M.testBit y) j = i ∧ j < n ∧ a = (fr : Int) + (j : Int) * 16 ∧ b = (if (to : Int) < (fr : Int) + ((j : Int) + 1) * 16 then (to : Int) else (fr : Int) + ((j : Int) + 1) * 16) ∧ RgIs M Mi (i + 1)) ∨
  (ok = false ∧ i = popM n M ∧ Mi = 0)
theorem take_rg {w : World} {t b g fr to M Mi i : Nat} (h : TM w t b g fr to Mi) (hM : M < 2 ^ ncard fr to) (hr : RgIs M Mi i) (hi : i ≤ popM (ncard fr to) M) :
    Calls Tryd.prog 24 #[.pointer (some ⟨t, 0, none⟩)] w fun e w' => ∃ (a b' : Int) (ok : Bool) (Mi' : Nat), e = .returned (.tuple #[.int .i64 a, .int .i64 b', .bool ok]) ∧ TkSt fr to (ncard fr to) M i a b' ok Mi' ∧ TM w' t b g fr to Mi' ∧ w.grownBy w' (some g) := by
  by_cases he : i = popM (ncard fr to) M
  · have h0 : Mi = 0 := rg_end hM (by rw [← he]; exact hr)
    subst h0
    refine (take_none h (by rw [nextM_none (Nat.pow_pos (by decide)) fun i _ => bit_zero i]; omega)).mono ?_
    rintro e w' ⟨rfl, rfl⟩
    exact ⟨_, _, _, 0, rfl, .inr ⟨rfl, he, rfl⟩, h, only_refl _ _⟩
  · obtain ⟨j, h1, h2, h3⟩ := rank_ex (M := M) (ncard fr to) i (by unfold popM at hi he; omega)
    obtain ⟨n1, n2, _⟩ := rg_next hM hr h2 h3
    refine (take_some h n1).mono ?_
    rintro e w' ⟨rfl, hT, hG⟩
    exact ⟨_, _, _, _, rfl, .inl ⟨rfl, j, h2, h3, h1, rfl, rfl, n2⟩, hT, hG⟩
theorem in_same (x y o : Int) (hx : 0 ≤ x) (_ : 0 ≤ y) : (((plc x : Nat) : Int) ≤ o ∧ o < (plt (plc x) y : Nat)) ↔ (x ≤ o ∧ o < (if 4096 < y then 4096 else y)) := by
  have h1 := plt_eq (plc x) y
  have h2 : ((plc x : Nat) : Int) = if 4096 < x then 4096 else x := by unfold plc; split <;> omega
  rw [← h1, h2]
  by_cases a : 4096 < x <;> by_cases b : 4096 < y <;> simp only [a, b, if_true, if_false] <;> (try split) <;> constructor <;> intro h <;> omega
set_option maxRecDepth 100000 in
set_option maxHeartbeats 4000000 in
theorem cardTakes_long (w : World) (x y : Int) (s : Option Addr) (len cap : Nat) (hl : 200 < len) (hT : Tab w) :
    Calls Tryd.prog 11 #[.int .u16 x, .int .u16 y, .slice s len cap] w fun e w' => e = .returned (.bool true) ∧ Below w.heap.size w w' := by
  have HT := Lib.hid hT
  clear hT
  go_enter Tryd.func11, Tryd.ntmps11
  go_wp2_with fail
  refine (awake7_any HT.out).mono ?_
  rintro e w1 ⟨rfl, hB⟩
  have HB := Lib.hid hB
  have HT1 := Lib.hid (HT.out.below hB HT.out.2)
  clear hB
  go_wp2_with fail
  refine (awake7_any HT1.out).mono ?_
  rintro e w2 ⟨rfl, hB⟩
  have HB2 := Lib.hid (HB.out.trans (hB.mono HB.out.size))
  clear hB
  go_wp2
  go_ret
  exact ⟨rfl, HB2.out⟩
set_option maxRecDepth 100000 in
set_option maxHeartbeats 16000000 in
theorem cardTakes_main (w : World) (x y : Int) (hx : 0 ≤ x ∧ x ≤ 65535) (hy : 0 ≤ y ∧ y ≤ 65535) (s : Option Addr) (len cap : Nat) (zs : List Int) (ws : IsRow .u16 w s len cap zs) (hl : len ≤ 200) (hT : Tab w) :
    Calls Tryd.prog 11 #[.int .u16 x, .int .u16 y, .slice s len cap] w fun e w' => e = .returned (.bool true) ∧ Below w.heap.size w w' := by
  have HT := Lib.hid hT
  have HW := Lib.hid ws
  clear hT ws
  obtain ⟨x0, x1⟩ := hx
  obtain ⟨y0, y1⟩ := hy
  have HIN := Lib.hid fun o => in_same x y o x0 y0
  have hpx : ((plc x : Nat) : Int) = if 4096 < x then 4096 else x := by unfold plc; split <;> omega
  have hto := plt_le (plc_le x) y
  obtain ⟨to, hto'⟩ : ∃ to, to = plt (plc x) y := ⟨_, rfl⟩
  rw [← hto'] at hto HIN
  obtain ⟨fr, hfr'⟩ : ∃ fr, fr = plc x := ⟨_, rfl⟩
  rw [← hfr'] at hto hto' HIN hpx
  obtain ⟨hft, hto4⟩ := hto
  have HTO := Lib.hid hto'
  have HFR := Lib.hid hfr'
  have HPX := Lib.hid hpx
  clear hto' hfr' hpx
  have hnc := ncard_le (fr := fr) hto4
  obtain ⟨nc, hnc'⟩ : ∃ nc, nc = ncard fr to := ⟨_, rfl⟩
  rw [← hnc'] at hnc
  have HNC := Lib.hid hnc'
  clear hnc'
  obtain ⟨f, hf'⟩ : ∃ f : Nat → Int, f = fun j => cardI fr to (zs.getD j 0) := ⟨_, rfl⟩
  have HF : Hid (∀ j, cardI fr to (zs.getD j 0) = f j) := Lib.hid fun j => by rw [hf']
  clear hf'
  have ex : IntKind.i64.wrap x = x := IntWalk.i64_in _ (by omega)
  have ey : IntKind.i64.wrap y = y := IntWalk.i64_in _ (by omega)
  obtain ⟨my, hmy⟩ : ∃ my, (if 4096 < y then 4096 else y) = my := ⟨_, rfl⟩
  have hpos := HT.out.2
  go_enter Tryd.func11, Tryd.ntmps11
  go_wp2_with fail
  refine (awake7_any HT.out).mono ?_
  rintro e w1 ⟨rfl, hB⟩
  have HB := Lib.hid hB
  have HT1 := Lib.hid (HT.out.below hB HT.out.2)
  clear hB
  go_wp2_with fail
  refine (tnew_any HT1.out x y).mono ?_
  rintro e w2 ⟨t, b, g, rfl, _, _, hg, hM, hB⟩
  rw [← HFR.out, ← HTO.out] at hM
  have HA := Lib.hid hM
  have HB2 := Lib.hid (HB.out.trans (hB.mono HB.out.size))
  have HG1 := Lib.hid (Nat.le_trans HB.out.size hg)
  clear hM hB hg HB HT1
  go_wp2
  go_loopw [8, 35] (fun v i wr => ∃ (k d c : Nat) (A : Option Addr) (os : List Int), k ≤ len ∧ d ≤ k ∧ v = .slice A d c ∧ i = .int .i64 k ∧ Hid (TM wr t b g fr to (addF nc f k)) ∧ Hid (Own wr w.heap.size A d c os) ∧ Hid (∀ q, q < d → ((fr : Int) ≤ os.getD q 0 ∧ os.getD q 0 < to) ∧ hasB (addF nc f k) (cardI fr to (os.getD q 0)) = true) ∧ Hid (Below w.heap.size w wr)) (fun _ i _ => len - (intOf i).toNat)
  case atStart => exact ⟨0, 0, 0, none, [], Nat.zero_le _, Nat.le_refl _, rfl, rfl, HA, Lib.hid (Own.nil _ _), Lib.hid (fun q hq => by omega), HB2⟩
  case round =>
    clear HA HB2
    obtain ⟨k, d, c, A, os, hk, hdk, rfl, rfl, HA, HO, HOS, HB⟩ := hrel
    by_cases hkl : k < len
    · obtain ⟨sb, so, rfl, hsb, hlz, hcell⟩ := HW.out.at (by omega)
      have hx1 : wr.cell? ⟨sb, so + k, none⟩ = some (.int .u16 (zs.getD k 0)) := (HB.out.cell (p := ⟨sb, so + k, none⟩) hsb).trans (hcell k hkl)
      obtain ⟨u0, u1⟩ := wf_u16 (HW.out.wf (i := k) (by omega))
      have F1 := Lib.hid (HF.out k)
      clear hcell
      generalize zs.getD k 0 = u at hx1 u0 u1 F1
      by_cases hin : x ≤ u ∧ u < my
      · have g1 : decide (u ≥ x) = true := decide_eq_true hin.1
        have g2 : decide (u < my) = true := decide_eq_true hin.2
        have hin2 := (HIN.out u).2 (by rw [hmy]; exact hin)
        have hcl := cardI_lt hin2
        rw [F1.out, ← HNC.out] at hcl
        have HH : Hid (hasB (addF nc f (k + 1)) (f k) = true) := Lib.hid (by show hasB (setM nc (addF nc f k) (f k)) (f k) = true; rw [hasB_set]; simp [hcl])
        have HOS2 : Hid (∀ q, q < d + 1 → ((fr : Int) ≤ (os ++ [u]).getD q 0 ∧ (os ++ [u]).getD q 0 < to) ∧ hasB (addF nc f (k + 1)) (cardI fr to ((os ++ [u]).getD q 0)) = true) := Lib.hid fun q hq => by
          by_cases e : q = d
          · have e1 : (os ++ [u]).getD q 0 = u := by
              rw [List.getD_eq_getElem?_getD, List.getElem?_append_right (by rw [HO.out.1]; omega), HO.out.1, e]; simp
            rw [e1]
            exact ⟨hin2, by rw [F1.out]; exact HH.out⟩
          · have e1 : (os ++ [u]).getD q 0 = os.getD q 0 := by
              rw [List.getD_eq_getElem?_getD, List.getElem?_append_left (by rw [HO.out.1]; omega), List.getD_eq_getElem?_getD]
            rw [e1]
            obtain ⟨q1, q2⟩ := HOS.out q (by omega)
            refine ⟨q1, ?_⟩
            show hasB (setM nc (addF nc f k) (f k)) _ = true
            rw [hasB_set, q2]; rfl
        clear hin hin2 hcl
        go_wp2_with fail
        refine (touch_any HA.out _).mono ?_
        rintro e w3 ⟨rfl, hM, hG⟩
        rw [F1.out, ← HNC.out] at hM
        have HA1 := Lib.hid hM
        have HO1 := Lib.hid (HO.out.words HA.out.bm hG)
        have B1 := Lib.hid (below_only HB.out hG HB.out.size HG1.out)
        clear hM hG hx1
        go_wp2_with fail
        refine (dirty_any HA1.out _).mono ?_
        rintro e w_ ⟨rfl, rfl⟩
        rw [F1.out, show hasB (setM nc (addF nc f k) (f k)) (f k) = true from HH.out]
        go_wp2_with fail
        refine (dirty_any HA1.out _).mono ?_
        rintro e w_ ⟨rfl, rfl⟩
        rw [F1.out, show hasB (setM nc (addF nc f k) (f k)) (f k) = true from HH.out]
        go_wp2_with (at_builtin; refine app_int rfl _ _ rfl _ w.heap.size A d c os u rfl rfl HO1.out (by omega) B1.out.size ?_; intro A' c' w4 hO hg)
        have HA2 := Lib.hid (HA1.out.own HO1.out hpos hg)
        have HO2 := Lib.hid hO
        have B2 := Lib.hid (below_own B1.out HO1.out (Nat.le_refl _) B1.out.size hg)
        clear hO hg
        go_wp2
        go_roundw
        case rel => exact ⟨k + 1, d + 1, c', A', os ++ [u], by omega, by omega, rfl, by go_num, HA2, HO2, HOS2, B2⟩
        case measure => simp [intOf]; omega
      · have hin2 : ¬ ((fr : Int) ≤ u ∧ u < to) := fun q => hin (by have := (HIN.out u).1 q; rw [hmy] at this; exact this)
        have hc := cardI_out hin2
        rw [F1.out] at hc
        have HC := Lib.hid hc
        have HS : Hid (addF nc f (k + 1) = addF nc f k) := Lib.hid (by show setM nc (addF nc f k) (f k) = _; rw [hc, setM_neg])
        clear hin2 hc
        by_cases hin1 : x ≤ u
        · have g1 : decide (u ≥ x) = true := decide_eq_true hin1
          have g2 : decide (u < my) = false := decide_eq_false (fun q => hin ⟨hin1, q⟩)
          clear hin
          go_wp2_with fail
          refine (touch_any HA.out _).mono ?_
          rintro e w3 ⟨rfl, hM, hG⟩
          rw [F1.out, HC.out, setM_neg] at hM
          have HA1 := Lib.hid hM
          have HO1 := Lib.hid (HO.out.words HA.out.bm hG)
          have B1 := Lib.hid (below_only HB.out hG HB.out.size HG1.out)
          clear hM hG hx1
          go_wp2_with fail
          refine (dirty_any HA1.out _).mono ?_
          rintro e w_ ⟨rfl, rfl⟩
          rw [F1.out, HC.out, hasB_neg]
          go_wp2_with fail
          refine (dirty_any HA1.out _).mono ?_
          rintro e w_ ⟨rfl, rfl⟩
          rw [F1.out, HC.out, hasB_neg]
          go_wp2
          go_roundw
          case rel => exact ⟨k + 1, d, c, A, os, by omega, by omega, rfl, by go_num, by rw [HS.out]; exact HA1, HO1, by rw [HS.out]; exact HOS, B1⟩
          case measure => simp [intOf]; omega
        · have g1 : decide (u ≥ x) = false := decide_eq_false hin1
          clear hin
          go_wp2_with fail
          refine (touch_any HA.out _).mono ?_
          rintro e w3 ⟨rfl, hM, hG⟩
          rw [F1.out, HC.out, setM_neg] at hM
          have HA1 := Lib.hid hM
          have HO1 := Lib.hid (HO.out.words HA.out.bm hG)
          have B1 := Lib.hid (below_only HB.out hG HB.out.size HG1.out)
          clear hM hG hx1
          go_wp2_with fail
          refine (dirty_any HA1.out _).mono ?_
          rintro e w_ ⟨rfl, rfl⟩
          rw [F1.out, HC.out, hasB_neg]
          go_wp2_with fail
          refine (dirty_any HA1.out _).mono ?_
          rintro e w_ ⟨rfl, rfl⟩
          rw [F1.out, HC.out, hasB_neg]
          go_wp2
          go_roundw
          case rel => exact ⟨k + 1, d, c, A, os, by omega, by omega, rfl, by go_num, by rw [HS.out]; exact HA1, HO1, by rw [HS.out]; exact HOS, B1⟩
          case measure => simp [intOf]; omega
    · have HML := Lib.hid (addF_lt nc f k)
      generalize addF nc f k = M at HA HOS HML
      have hd200 : d ≤ 200 := by omega
      have HD := Lib.hid (popM_le nc M)
      have hdm : popM nc M ≤ 256 := Nat.le_trans HD.out hnc
      obtain ⟨dm, hdm'⟩ : ∃ dm, dm = popM nc M := ⟨_, rfl⟩
      rw [← hdm'] at hdm
      have HDM := Lib.hid hdm'
      clear hdm' hdk hk HD
      have hmk := fun W => make_bools W d (by omega)
      go_wp2_with fail
      refine (all_any HA.out).mono ?_
      rintro e w4 ⟨A2, c2, rfl, hO, hM, hB⟩
      rw [← HNC.out, ← HDM.out] at hO
      rw [← HNC.out, ← HDM.out]
      have HA1 := Lib.hid hM
      have HL := Lib.hid hO
      have HO1 := Lib.hid (HO.out.up hB)
      have B1 := Lib.hid (HB.out.trans (hB.mono HB.out.size))
      clear hM hO hB HA HO HB
      go_wp2_with fail
      generalize hwa : w4.alloc (Obj.cells (boolCells d 0) 4) = wa
      generalize hob : w4.heap.size = hb
      have HH : Hid (Blk wa hb (fnCells d (fun _ => false)) 4) := Lib.hid (by rw [← hwa, ← hob, ← bool_fn]; exact Blk.new _ _ _)
      have HHB : Hid (w.heap.size ≤ hb) := Lib.hid (by rw [← hob]; exact B1.out.size)
      have bel := (Below.refl w4.heap.size w4).alloc (Nat.le_refl _) (Obj.cells (boolCells d 0) 4)
      rw [hwa] at bel
      have HA2 := Lib.hid (HA1.out.up bel)
      have HL2 := Lib.hid (HL.out.up bel)
      have HO2 := Lib.hid (HO1.out.up bel)
      have B2 := Lib.hid (B1.out.trans (bel.mono B1.out.size))
      clear hwa hob bel HA1 HL HO1 B1 hmk
      refine (take_rg HA2.out (by rw [← HNC.out]; exact HML.out) (rg_start M) (Nat.zero_le _)).mono ?_
      rintro e w6 ⟨a, b', ok, Mi, rfl, hS, hM, hG⟩
      rw [← HNC.out] at hS
      have HS := Lib.hid hS
      have HA := Lib.hid hM
      have HL := Lib.hid (HL2.out.words HA2.out.bm hG)
      have HO := Lib.hid (HO2.out.words HA2.out.bm hG)
      have HH1 := Lib.hid (HH.out.grown hG (fun e => HH.out.ne_ HA2.out.bm.ws (by decide) (Option.some.inj e)))
      have HB := Lib.hid (below_only B2.out hG B2.out.size HG1.out)
      have HLA : Hid (∀ j : Nat, M.testBit j = true → j < nc → cnt (fun y => M.testBit y) j = 0 → x ≤ (fr : Int) + (j : Int) * 16) := Lib.hid (fun j _ hj _ => by
        have h1 := HPX.out
        by_cases q : 4096 < x
        · rw [if_pos q] at h1
          rw [HNC.out] at hj
          unfold ncard at hj
          omega
        · rw [if_neg q] at h1; omega)
      clear hS hM hG HA2 HL2 HO2 HH B2
      obtain ⟨wq, hwq⟩ : ∃ wq : World, wq = wr := ⟨_, rfl⟩
      subst hwq
      go_wp2
      go_loopw [12, 13, 15, 16, 17] (fun l n a0 b0 o wr => ∃ (i Mi : Nat) (L a b' : Int) (ok : Bool) (h : Nat → Bool), i ≤ dm ∧ l = .int .i64 L ∧ n = .int .i64 i ∧ a0 = .int .i64 a ∧ b0 = .int .i64 b' ∧ o = .bool ok ∧ Hid (TkSt fr to nc M i a b' ok Mi) ∧ Hid (∀ j : Nat, M.testBit j = true → j < nc → cnt (fun y => M.testBit y) j = i → L ≤ (fr : Int) + (j : Int) * 16) ∧ Hid (TM wr t b g fr to Mi) ∧ Hid (Own wr wq.heap.size A2 dm c2 (allL fr nc M)) ∧ Hid (Own wr w.heap.size A d c os) ∧ Hid (Blk wr hb (fnCells d h) 4) ∧ Hid (∀ q, q < d → h q = decide (cnt (fun y => M.testBit y) (cardI fr to (os.getD q 0)).toNat < i)) ∧ Hid (Below w.heap.size w wr)) (fun _ n _ _ _ _ => dm - (intOf n).toNat)
      case atStart => exact ⟨0, Mi, x, a, b', ok, fun _ => false, Nat.zero_le _, rfl, rfl, rfl, rfl, rfl, HS, HLA, HA, HL, HO, HH1, Lib.hid (fun q _ => by simp), HB⟩
      case round =>
        clear HS HA HL HO HH1 HB HLA
        obtain ⟨i, Mi, L, a, b', ok, h, hi, rfl, rfl, rfl, rfl, rfl, HS, HLA, HA, HL, HO, HH, HHQ, HB⟩ := hrel
        cases ok
        · have hS := HS.out
          have hend : i = dm ∧ Mi = 0 := by
            rcases hS with ⟨e, _⟩ | ⟨_, e1, e2⟩
            · cases e
            · exact ⟨by rw [HDM.out]; exact e1, e2⟩
          obtain ⟨he1, he2⟩ := hend
          rw [he2] at HA
          have HE1 := Lib.hid he1
          have HI := Lib.hid (he1.trans HDM.out)
          clear he1 he2 hS
          go_wp2
          go_loop [156] (fun v => ∃ k : Nat, k ≤ d ∧ v = .int .i64 k) (fun v => d - (intOf v).toNat)
          case atStart => exact ⟨0, Nat.zero_le _, rfl⟩
          case round =>
            obtain ⟨q, hq, rfl⟩ := hrel
            by_cases hqd : q < d
            · have hcell := HH.out.cell (fnCells_at (h := h) hqd)
              have hv : h q = true := by
                rw [HHQ.out q hqd, HI.out]
                obtain ⟨q1, q2⟩ := HOS.out q hqd
                obtain ⟨cq, e1, _⟩ := in_card q1
                rw [e1, hasB_nat] at q2
                rw [e1]
                exact decide_eq_true (rank_lt HML.out q2)
              rw [hv] at hcell
              clear hv
              go_wp2
              go_round
              case rel => exact ⟨q + 1, by omega, by go_num⟩
              case measure => simp [intOf]; omega
            · have hie : ((i : Int) == (dm : Int)) = true := by rw [HE1.out]; simp
              go_wp2_with fail
              refine (all_any HA.out).mono ?_
              rintro e w8 ⟨A3, c3, rfl, hO3, hM3, hB3⟩
              rw [popM_zero]
              have B9 := Lib.hid (HB.out.trans (hB3.mono HB.out.size))
              clear hO3 hM3 hB3
              go_wp2
              go_ret
              exact ⟨rfl, B9.out⟩
        · have hS : ∃ j : Nat, M.testBit j = true ∧ cnt (fun y => M.testBit y) j = i ∧ j < nc ∧ a = (fr : Int) + (j : Int) * 16 ∧ b' = (if (to : Int) < (fr : Int) + ((j : Int) + 1) * 16 then (to : Int) else (fr : Int) + ((j : Int) + 1) * 16) ∧ RgIs M Mi (i + 1) := by
            rcases HS.out with ⟨_, e⟩ | ⟨e, _⟩
            · exact e
            · cases e
          obtain ⟨j, j1, j2, j3, ja, jb, jr⟩ := hS
          have hLa := HLA.out j j1 j3 j2
          rw [← ja] at hLa
          have hjt : (fr : Int) + (j : Int) * 16 < to := by
            have := j3
            rw [HNC.out] at this
            unfold ncard at this
            omega
          have hbb : a < b' ∧ b' ≤ a + 16 ∧ b' ≤ to ∧ (b' = to ∨ b' = a + 16) ∧ b' ≤ (fr : Int) + ((j : Int) + 1) * 16 := by
            rw [ja, jb]; split <;> omega
          have hidm : i < dm := by rw [HDM.out, ← j2]; exact rank_lt HML.out j1
          have hal := allL_rank (fr := fr) HML.out j1 j2
          rw [← ja] at hal
          have hcf := card_first (fr := fr) (to := to) (j := j) (by rw [← HNC.out]; exact j3)
          rw [← ja] at hcf
          have hnb : hasB Mi (j : Int) = false := by
            rw [hasB_nat, jr j, j2]; simp
          have HCF := Lib.hid hcf
          have HNB := Lib.hid hnb
          have J1 := Lib.hid j1
          have J2 := Lib.hid j2
          have JA := Lib.hid ja
          have JR := Lib.hid jr
          have JN := Lib.hid j3
          obtain ⟨b1, b2, b3, b4, b5⟩ := hbb
          have B4 := Lib.hid b4
          have B5 := Lib.hid b5
          obtain ⟨gl, rfl, _, hgl, hdc, lcell⟩ := HL.out.at (by omega)
          have lx := lcell i hidm
          rw [hal] at lx
          have ha4 : a ≤ 10000 := by omega
          have ha0 : 0 ≤ a := by omega
          clear j1 j2 ja jb jr j3 hal hcf hnb lcell b4 b5 hjt HS
          go_wp2_with fail
          refine (dirty_any HA.out _).mono ?_
          rintro e w_ ⟨rfl, rfl⟩
          rw [HCF.out, HNB.out]
          clear lx
          obtain ⟨wy, hwy⟩ : ∃ wy : World, wy = wr := ⟨_, rfl⟩
          subst hwy
          go_wp2
          go_loopw [124] (fun v wz => ∃ (q : Nat) (h' : Nat → Bool), q ≤ d ∧ v = .int .i64 q ∧ Hid (TM wz t b g fr to Mi) ∧ Hid (Own wz wq.heap.size (some ⟨gl, 0, none⟩) dm c2 (allL fr nc M)) ∧ Hid (Own wz w.heap.size A d c os) ∧ Hid (Blk wz hb (fnCells d h') 4) ∧ Hid (∀ p, p < d → h' p = decide (cnt (fun y => M.testBit y) (cardI fr to (os.getD p 0)).toNat < if p < q then i + 1 else i)) ∧ Hid (Below w.heap.size w wz)) (fun v _ => d - (intOf v).toNat)
          case atStart => exact ⟨0, h, Nat.zero_le _, rfl, HA, HL, HO, HH, HHQ, HB⟩
          case round =>
            clear HA HL HO HH HHQ HB
            obtain ⟨q, h', hq, rfl, HA, HL, HO, HH, HQ, HB⟩ := hrel
            by_cases hqd : q < d
            · obtain ⟨go', rfl, _, hgo, hdc', ocells⟩ := HO.out.at (by omega)
              have ocell := ocells q hqd
              have hcell := HH.out.cell (fnCells_at (h := h') hqd)
              have hfree := HH.out.free q
              obtain ⟨q1, q2⟩ := HOS.out q hqd
              obtain ⟨cq, e1, e2, e3, e4⟩ := in_card q1
              rw [e1, hasB_nat] at q2
              have hhq := HQ.out q hqd
              rw [if_neg (by omega), e1, Int.toNat_natCast] at hhq
              have E1 : Hid ((cardI fr to (os.getD q 0)).toNat = cq) := Lib.hid (by rw [e1]; rfl)
              obtain ⟨q1a, q1b⟩ := q1
              clear e1 ocells
              obtain ⟨o, ho⟩ : ∃ o, o = os.getD q 0 := ⟨_, rfl⟩
              rw [← ho] at ocell q1a q1b e3 e4
              clear ho
              have Q2 := Lib.hid q2
              clear q2
              have hqi : (q : Int) < (d : Int) := by omega
              rcases Nat.lt_trichotomy (cnt (fun y => M.testBit y) cq) i with hr | hr | hr
              · rw [decide_eq_true hr] at hhq
                rw [hhq] at hcell
                have HR := Lib.hid hr
                clear hhq hr
                go_wp2
                have hGs := only_set0 (w := wr) (g := hb) (i := q) (.bool true)
                have HA3 := Lib.hid (HA.out.bools HH.out (Nat.lt_of_lt_of_le hpos HHB.out) hGs)
                have HL3 := Lib.hid (HL.out.bools HH.out hGs)
                have HO3 := Lib.hid (HO.out.bools HH.out hGs)
                have HH3 : Hid (Blk (wr.setCell ⟨hb, q, none⟩ (.bool true)) hb (fnCells d (fun p => if p = q then true else h' p)) 4) := Lib.hid (by rw [← fnCells_set]; exact HH.out.set _)
                have HB3 := Lib.hid (below_only HB.out hGs HB.out.size HHB.out)
                have HQ3 : Hid (∀ p, p < d → (if p = q then true else h' p) = decide (cnt (fun y => M.testBit y) (cardI fr to (os.getD p 0)).toNat < if p < q + 1 then i + 1 else i)) := Lib.hid fun p hp => by
                  by_cases e : p = q
                  · rw [if_pos e, e, if_pos (by omega), E1.out]
                    exact (decide_eq_true (by have := HR.out; omega)).symm
                  · rw [if_neg e, HQ.out p hp]
                    by_cases e2 : p < q
                    · rw [if_pos e2, if_pos (by omega)]
                    · rw [if_neg e2, if_neg (by omega)]
                clear hGs hcell ocell hfree
                go_roundw
                case rel => exact ⟨q + 1, _, by omega, by go_num, HA3, HL3, HO3, HH3, HQ3, HB3⟩
                case measure => simp [intOf]; omega
              · have hcj := rank_inj Q2.out J1.out (by rw [hr, J2.out])
                rw [decide_eq_false (by omega)] at hhq
                rw [hhq] at hcell
                have HR := Lib.hid hr
                have i1 : a ≤ o := by have := JA.out; omega
                have i2 : o < b' := by have := JA.out; have := B4.out; omega
                have i3 : decide (o ≥ a) = true := decide_eq_true i1
                have i4 : decide (o < b') = true := decide_eq_true i2
                clear hhq hr hcj e3 e4
                go_wp2
                have hGs := only_set0 (w := wr) (g := hb) (i := q) (.bool true)
                have HA3 := Lib.hid (HA.out.bools HH.out (Nat.lt_of_lt_of_le hpos HHB.out) hGs)
                have HL3 := Lib.hid (HL.out.bools HH.out hGs)
                have HO3 := Lib.hid (HO.out.bools HH.out hGs)
                have HH3 : Hid (Blk (wr.setCell ⟨hb, q, none⟩ (.bool true)) hb (fnCells d (fun p => if p = q then true else h' p)) 4) := Lib.hid (by rw [← fnCells_set]; exact HH.out.set _)
                have HB3 := Lib.hid (below_only HB.out hGs HB.out.size HHB.out)
                have HQ3 : Hid (∀ p, p < d → (if p = q then true else h' p) = decide (cnt (fun y => M.testBit y) (cardI fr to (os.getD p 0)).toNat < if p < q + 1 then i + 1 else i)) := Lib.hid fun p hp => by
                  by_cases e : p = q
                  · rw [if_pos e, e, if_pos (by omega), E1.out]
                    exact (decide_eq_true (by have := HR.out; omega)).symm
                  · rw [if_neg e, HQ.out p hp]
                    by_cases e2 : p < q
                    · rw [if_pos e2, if_pos (by omega)]
                    · rw [if_neg e2, if_neg (by omega)]
                clear hGs hcell ocell hfree
                go_roundw
                case rel => exact ⟨q + 1, _, by omega, by go_num, HA3, HL3, HO3, HH3, HQ3, HB3⟩
                case measure => simp [intOf]; omega
              · have hcj := rank_lt_lt (M := M) (x := j) (y := cq) (by rw [J2.out]; exact hr)
                rw [decide_eq_false (by omega)] at hhq
                rw [hhq] at hcell
                have HR := Lib.hid hr
                have i1 : a ≤ o := by have := JA.out; omega
                have i2 : ¬ o < b' := by have := B5.out; omega
                have i3 : decide (o ≥ a) = true := decide_eq_true i1
                have i4 : decide (o < b') = false := decide_eq_false i2
                clear hhq hr hcj e3 e4
                go_wp2
                have hGs := only_set0 (w := wr) (g := hb) (i := q) (.bool false)
                have HA3 := Lib.hid (HA.out.bools HH.out (Nat.lt_of_lt_of_le hpos HHB.out) hGs)
                have HL3 := Lib.hid (HL.out.bools HH.out hGs)
                have HO3 := Lib.hid (HO.out.bools HH.out hGs)
                have HH3 : Hid (Blk (wr.setCell ⟨hb, q, none⟩ (.bool false)) hb (fnCells d (fun p => if p = q then false else h' p)) 4) := Lib.hid (by rw [← fnCells_set]; exact HH.out.set _)
                have HB3 := Lib.hid (below_only HB.out hGs HB.out.size HHB.out)
                have HQ3 : Hid (∀ p, p < d → (if p = q then false else h' p) = decide (cnt (fun y => M.testBit y) (cardI fr to (os.getD p 0)).toNat < if p < q + 1 then i + 1 else i)) := Lib.hid fun p hp => by
                  by_cases e : p = q
                  · rw [if_pos e, e, if_pos (by omega), E1.out]
                    exact (decide_eq_false (by have := HR.out; omega)).symm
                  · rw [if_neg e, HQ.out p hp]
                    by_cases e2 : p < q
                    · rw [if_pos e2, if_pos (by omega)]
                    · rw [if_neg e2, if_neg (by omega)]
                clear hGs hcell ocell hfree
                go_roundw
                case rel => exact ⟨q + 1, _, by omega, by go_num, HA3, HL3, HO3, HH3, HQ3, HB3⟩
                case measure => simp [intOf]; omega
            · have hqe : q = d := by omega
              have HQ2 : Hid (∀ p, p < d → h' p = decide (cnt (fun y => M.testBit y) (cardI fr to (os.getD p 0)).toNat < i + 1)) := Lib.hid fun p hp => by rw [HQ.out p hp, if_pos (by omega)]
              have HLA2 : Hid (∀ j' : Nat, M.testBit j' = true → j' < nc → cnt (fun y => M.testBit y) j' = i + 1 → b' ≤ (fr : Int) + (j' : Int) * 16) := Lib.hid fun j' _ _ hj' => by
                have h1 := rank_lt_lt (M := M) (x := j) (y := j') (by rw [J2.out, hj']; omega)
                have h2 := B5.out
                omega
              clear hqe
              go_wp2_with fail
              refine (take_rg HA.out (by rw [← HNC.out]; exact HML.out) JR.out (by rw [← HNC.out, ← HDM.out]; omega)).mono ?_
              rintro e w6 ⟨a2, b2', ok2, Mi2, rfl, hS2, hM2, hG2⟩
              rw [← HNC.out] at hS2
              have HS2 := Lib.hid hS2
              have HA2 := Lib.hid hM2
              have HL2 := Lib.hid (HL.out.words HA.out.bm hG2)
              have HO2 := Lib.hid (HO.out.words HA.out.bm hG2)
              have HH2 := Lib.hid (HH.out.grown hG2 (fun e => HH.out.ne_ HA.out.bm.ws (by decide) (Option.some.inj e)))
              have HB2 := Lib.hid (below_only HB.out hG2 HB.out.size HG1.out)
              clear hS2 hM2 hG2 HA HL HO HH HB
              go_wp2
              go_roundw
              case rel => exact ⟨i + 1, Mi2, b', a2, b2', ok2, h', by omega, rfl, by go_num, rfl, rfl, rfl, HS2, HLA2, HA2, HL2, HO2, HH2, HQ2, HB2⟩
              case measure => simp [intOf]; omega
theorem cardTakes_walk (w : World) (x : Int) (wx : (Lit.int .u16 x).wf = true) (y : Int) (wy : (Lit.int .u16 y).wf = true) (s : Option Addr) (len cap : Nat) (zs : List Int) (ws : IsRow .u16 w s len cap zs) (hT : Tab w) :
    Calls Tryd.prog 11 #[.int .u16 x, .int .u16 y, .slice s len cap] w fun e w' => e = .returned (.bool true) ∧ Below w.heap.size w w' := by
  by_cases hl : len ≤ 200
  · exact cardTakes_main w x y (wf_u16 wx) (wf_u16 wy) s len cap zs ws hl hT
  · exact cardTakes_long w x y s len cap (by omega) hT
end Go.Proofs.YtdfpmgpdkajhkaaDoor
