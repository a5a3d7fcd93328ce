/-
  The walk of the law CardPlays: for every two numbers and every slice of calls it returns true, and memory below the heap's old size is unchanged, where the library's table lies. No other condition.
-/
import Derived.Test.YtdfpmgpdkajhkaaDoorCf
import Derived.Test.YtdfpmgpdkajhkaaDoorStr
import Derived.Deep.RegionHeld3
import Derived.Deep.Cut
namespace Go.Proofs.YtdfpmgpdkajhkaaDoor
open Go.RowKit
theorem TM.drew {w : World} {t b g fr to M : Nat} (h : TM w t b g fr to M) : TM w.drew t b g fr to M := h.up ((Below.refl _ _).drew)
theorem QM.drew {w : World} {q fr to : Nat} {A : Option Addr} {n c : Nat} {L : List Int} (h : QM w q fr to A n c L) : QM w.drew q fr to A n c L := h.up ((Below.refl _ _).drew)
/-- A table stays while a reference table is written. -/
theorem TM.side {w w' : World} {t b g fr to M q : Nat} {cs : Array Value} (h : TM w t b g fr to M) (hq : Blk w q cs 81) (h0 : 0 < q) (hg : w.grownBy w' (some q)) : TM w' t b g fr to M :=
  ⟨h.hd.grown hg (fun e => h.hd.ne_ hq (by decide) (Option.some.inj e)), h.bm.grown hg (fun e => by have := Option.some.inj e; omega) (fun e => h.bm.hd.ne_ hq (by decide) (Option.some.inj e)) (fun e => h.bm.ws.ne_ hq (by decide) (Option.some.inj e)), h.le, h.le4⟩
/-- A reference table stays while a table's words are written. -/
theorem QM.words {w w' : World} {t b g fr to M q fr' to' : Nat} {A : Option Addr} {n c : Nat} {L : List Int} (h : QM w q fr' to' A n c L) (hT : TM w t b g fr to M) (hg : w.grownBy w' (some g)) : QM w' q fr' to' A n c L :=
  h.grown hg (fun r e => by have e := Option.some.inj e; subst e; exact ⟨_, _, hT.bm.ws, by decide, by decide⟩)
set_option maxRecDepth 100000 in
set_option maxHeartbeats 4000000 in
theorem cardPlays_long (w : World) (x y : Int) (s : Option Addr) (len cap : Nat) (hl : 200 < len) (hT : Tab w) :
    Calls Tryd.prog 21 #[.int .i64 x, .int .i64 y, .slice s len cap] w fun e w' => e = .returned (.bool true) ∧ Below w.heap.size w w' := by
  have HT := Lib.hid hT
  clear hT
  go_enter Tryd.func21, Tryd.ntmps21
  go_wp2_with fail
  refine (awake7_any HT.out).mono ?_
  rintro e w1 ⟨rfl, hB⟩
  have HB := Lib.hid hB
  have HT1 := Lib.hid (HT.out.below hB HT.out.2)
  clear hB
  go_wp2_with fail
  refine (awake7_any HT1.out).mono ?_
  rintro e w2 ⟨rfl, hB⟩
  have HB2 := Lib.hid (HB.out.trans (hB.mono HB.out.size))
  clear hB
  go_wp2
  go_ret
  exact ⟨rfl, HB2.out⟩
set_option maxRecDepth 100000 in
set_option maxHeartbeats 16000000 in
theorem cardPlays_main (w : World) (x y : Int) (s : Option Addr) (len cap : Nat) (f : Nat → Nat → Int) (ws : IsStr 2 w s len f) (hl : len ≤ 200) (hT : Tab w) :
    Calls Tryd.prog 21 #[.int .i64 x, .int .i64 y, .slice s len cap] w fun e w' => e = .returned (.bool true) ∧ Below w.heap.size w w' := by
  have HT := Lib.hid hT
  have HW := Lib.hid ws
  clear hT ws
  go_enter Tryd.func21, Tryd.ntmps21
  go_wp2_with fail
  refine (awake7_any HT.out).mono ?_
  rintro e w1 ⟨rfl, hB⟩
  have HB := Lib.hid hB
  have HT1 := Lib.hid (HT.out.below hB HT.out.2)
  clear hB
  go_wp2_with fail
  refine (tnew_any HT1.out x y).mono ?_
  rintro e w2 ⟨t, b, g, rfl, _, _, hg, hM, hB⟩
  have HB2 := Lib.hid (HB.out.trans (hB.mono HB.out.size))
  have HG := Lib.hid (Nat.le_trans HB.out.size hg)
  have H0 := Lib.hid hM
  clear hM hB hg HB HT1
  go_wp2_with fail
  refine (qnew_any _ x y).mono ?_
  rintro e w3 ⟨q, rfl, hq, hQ, hB⟩
  have HGQ := Lib.hid (Nat.le_trans HB2.out.size hq)
  have H2 := Lib.hid (H0.out.up hB)
  have HB3 := Lib.hid (HB2.out.trans (hB.mono HB2.out.size))
  have hNC := ncard_le (fr := plc x) (to := plt (plc x) y) hQ.le4
  generalize plt (plc x) y = to at *
  generalize plc x = fr at *
  have HNC := Lib.hid hNC
  have hQ : QM w3 q fr to none (popM (ncard fr to) 0) 0 (allL fr (ncard fr to) 0) := by rw [popM_zero, allL_zero]; exact hQ
  have Q2 := Lib.hid hQ
  clear hq hQ hB hNC H0 HB2
  go_wp2
  go_loopw [33] (fun i wr => ∃ (k M cw : Nat) (Aw : Option Addr), k ≤ len ∧ i = .int .i64 k ∧ Hid (TM wr t b g fr to M) ∧ Hid (QM wr q fr to Aw (popM (ncard fr to) M) cw (allL fr (ncard fr to) M)) ∧ Hid (Below w.heap.size w wr)) (fun i _ => len - (intOf i).toNat)
  case atStart => exact ⟨0, 0, 0, none, Nat.zero_le _, rfl, H2, Q2, HB3⟩
  case round =>
    clear H2 Q2 HB3
    obtain ⟨k, M, cw, Aw, hk, rfl, H0, Q0, HB⟩ := hrel
    by_cases hkl : k < len
    · obtain ⟨sb, so, rfl, hsb, hcell⟩ := HW.out (by omega)
      have x0 : wr.cell? ⟨sb, so + k * 2, none⟩ = some (.int .i64 (f k 0)) := (HB.out.cell (p := ⟨sb, so + k * 2, none⟩) hsb).trans (hcell k 0 hkl (by omega)).1
      have x1 : wr.cell? ⟨sb, so + k * 2 + 1, none⟩ = some (.int .i64 (f k 1)) := (HB.out.cell (p := ⟨sb, so + k * 2 + 1, none⟩) hsb).trans (hcell k 1 hkl (by omega)).1
      clear hcell
      generalize f k 0 = a0 at x0
      generalize f k 1 = a1 at x1
      by_cases h1 : a0 = 1
      · have d1 : (a0 == 1) = true := by simp [h1]
        clear h1
        obtain ⟨v, hv⟩ : ∃ v, v = newB (ncard fr to) M (cardI fr to a1) := ⟨_, rfl⟩
        have HV := Lib.hid hv
        have hvv : (v == v) = true := by simp
        clear hv
        go_upto_region 10 with (fail)
        go_region_held3 (fun w' => w'.cell? ⟨sb, so + k * 2 + 1, none⟩ = some (.int .i64 a1)) (go_keep)
          (first
            | (go_at_call 26; refine (touch_any (TM.drew H0.out) a1).mono ?_; rintro e w5 ⟨rfl, hM5, hG5⟩; rw [← HV.out]; have o5 : w5.cell? ⟨sb, so + k * 2 + 1, none⟩ = some (.int .i64 a1) := hG5.cell x1 (fun e => absurd (Option.some.inj e) (by dsimp only; have := HG.out; omega)); have HM5 := Lib.hid hM5; have HQ5 := Lib.hid (QM.words (QM.drew Q0.out) (TM.drew H0.out) hG5); have HB5 := Lib.hid (below_only HB.out.drew hG5 HB.out.size HG.out); clear hM5 hG5)
            | (go_at_call 59; refine (qtouch_all HQ5.out H0.out.bm.lt a1).mono ?_; rintro e w6 ⟨rfl, ⟨A6, c6, hQ6⟩, hG6⟩; rw [← HV.out]; have o6 : w6.cell? ⟨sb, so + k * 2 + 1, none⟩ = some (.int .i64 a1) := hG6.cell o5 (fun e => absurd (Option.some.inj e) (by dsimp only; have := HGQ.out; omega)); have HM6 := Lib.hid (TM.side HM5.out HQ5.out.hd (by have := HGQ.out; have := HT.out.2; omega) hG6); have HQ6 := Lib.hid hQ6; have HB6 := Lib.hid (below_only HB5.out hG6 HB5.out.size HGQ.out); clear hQ6 hG6))
        clear x0 x1 o5 o6 H0 Q0 HB HM5 HQ5 HB5
        have HM := Lib.hid HM6.out
        have HQ := Lib.hid HQ6.out
        have HBZ := Lib.hid HB6.out
        obtain ⟨Aq, hAq⟩ : ∃ Aq, Aq = A6 := ⟨_, rfl⟩
        obtain ⟨cq, hcq⟩ : ∃ cq, cq = c6 := ⟨_, rfl⟩
        rw [← hAq, ← hcq] at HQ
        clear HM6 HQ6 HB6 hAq hcq
        have o2 := HQ.out.c2
        have hq2 := HQ.out.hd.lt
        have HPM : Hid (popM (ncard fr to) (setM (ncard fr to) M (cardI fr to a1)) ≤ 1000000) := Lib.hid (by have := popM_le (ncard fr to) (setM (ncard fr to) M (cardI fr to a1)); have := HNC.out; omega)
        go_upto_region 20 with (fail)
        go_region_held3 (fun w' => w'.cell? ⟨q, 2, none⟩ = some (.slice Aq (popM (ncard fr to) (setM (ncard fr to) M (cardI fr to a1))) cq)) (go_keep)
          (first
            | (go_at_call 28; refine (all_any (TM.drew HM.out)).mono ?_; rintro e w7 ⟨A7, c7, rfl, hO7, hT7, hB7⟩; have o7 : w7.cell? ⟨q, 2, none⟩ = some (.slice Aq (popM (ncard fr to) (setM (ncard fr to) M (cardI fr to a1))) cq) := (hB7.cell (p := ⟨q, 2, none⟩) hq2).trans o2; have HO7 := Lib.hid hO7; have HM7 := Lib.hid hT7; have HQ7 := Lib.hid ((QM.drew HQ.out).up hB7); have HB7 := Lib.hid (HBZ.out.drew.trans (hB7.mono HBZ.out.size)); clear hO7 hT7 hB7)
            | (go_at_call 29; refine (same_yes HO7.out.rd HQ7.out.rd.rd HPM.out).mono ?_; rintro e w8 ⟨rfl, hB8⟩; have o8 : w8.cell? ⟨q, 2, none⟩ = some (.slice Aq (popM (ncard fr to) (setM (ncard fr to) M (cardI fr to a1))) cq) := (hB8.cell (p := ⟨q, 2, none⟩) HQ7.out.hd.lt).trans o7; have HM8 := Lib.hid (HM7.out.up hB8); have HQ8 := Lib.hid (HQ7.out.up hB8); have HB8 := Lib.hid (HB7.out.trans (hB8.mono HB7.out.size)); clear hB8))
        clear o2 o7 o8 hq2 HM HQ HBZ HM7 HQ7 HB7 HO7
        go_wp2
        go_roundw
        case rel => exact ⟨k + 1, setM (ncard fr to) M (cardI fr to a1), cq, Aq, by omega, by go_num, HM8, HQ8, HB8⟩
        case measure => simp [intOf]; omega
      · have d1 : (a0 == 1) = false := by simp [h1]
        clear h1
        by_cases h2 : a0 = 2
        · have d2 : (a0 == 2) = true := by simp [h2]
          clear h2
          obtain ⟨v, hv⟩ : ∃ v, v = hasB M (cardI fr to a1) := ⟨_, rfl⟩
          have HV := Lib.hid hv
          have hvv : (v == v) = true := by simp
          clear hv
          go_upto_region 12 with (fail)
          go_region_held3 (fun w' => w'.cell? ⟨sb, so + k * 2 + 1, none⟩ = some (.int .i64 a1)) (go_keep)
            (first
              | (go_at_call 27; refine (dirty_any (TM.drew H0.out) a1).mono ?_; rintro e w5 ⟨rfl, rfl⟩; rw [← HV.out])
              | (go_at_call 60; refine (qdirty_all (QM.drew Q0.out) H0.out.bm.lt a1).mono ?_; rintro e w6 ⟨rfl, rfl⟩; rw [← HV.out]))
          have HM := Lib.hid (TM.drew H0.out)
          have HQ := Lib.hid (QM.drew Q0.out)
          have HBZ := Lib.hid HB.out.drew
          clear x0 x1 H0 Q0 HB
          obtain ⟨Aq, hAq⟩ : ∃ Aq, Aq = Aw := ⟨_, rfl⟩
          obtain ⟨cq, hcq⟩ : ∃ cq, cq = cw := ⟨_, rfl⟩
          rw [← hAq, ← hcq] at HQ
          clear hAq hcq
          have o2 := HQ.out.c2
          have hq2 := HQ.out.hd.lt
          have HPM : Hid (popM (ncard fr to) (M) ≤ 1000000) := Lib.hid (by have := popM_le (ncard fr to) (M); have := HNC.out; omega)
          go_upto_region 20 with (fail)
          go_region_held3 (fun w' => w'.cell? ⟨q, 2, none⟩ = some (.slice Aq (popM (ncard fr to) (M)) cq)) (go_keep)
            (first
              | (go_at_call 28; refine (all_any (TM.drew HM.out)).mono ?_; rintro e w7 ⟨A7, c7, rfl, hO7, hT7, hB7⟩; have o7 : w7.cell? ⟨q, 2, none⟩ = some (.slice Aq (popM (ncard fr to) (M)) cq) := (hB7.cell (p := ⟨q, 2, none⟩) hq2).trans o2; have HO7 := Lib.hid hO7; have HM7 := Lib.hid hT7; have HQ7 := Lib.hid ((QM.drew HQ.out).up hB7); have HB7 := Lib.hid (HBZ.out.drew.trans (hB7.mono HBZ.out.size)); clear hO7 hT7 hB7)
              | (go_at_call 29; refine (same_yes HO7.out.rd HQ7.out.rd.rd HPM.out).mono ?_; rintro e w8 ⟨rfl, hB8⟩; have o8 : w8.cell? ⟨q, 2, none⟩ = some (.slice Aq (popM (ncard fr to) (M)) cq) := (hB8.cell (p := ⟨q, 2, none⟩) HQ7.out.hd.lt).trans o7; have HM8 := Lib.hid (HM7.out.up hB8); have HQ8 := Lib.hid (HQ7.out.up hB8); have HB8 := Lib.hid (HB7.out.trans (hB8.mono HB7.out.size)); clear hB8))
          clear o2 o7 o8 hq2 HM HQ HBZ HM7 HQ7 HB7 HO7
          go_wp2
          go_roundw
          case rel => exact ⟨k + 1, M, cq, Aq, by omega, by go_num, HM8, HQ8, HB8⟩
          case measure => simp [intOf]; omega
        · have d2 : (a0 == 2) = false := by simp [h2]
          clear h2
          by_cases h3 : a0 = 3
          · have d3 : (a0 == 3) = true := by simp [h3]
            clear h3
            rcases nextM_cases H0.out.bm.lt 0 with ⟨hz, _⟩ | ⟨j, hz, _⟩
            · have hz : nextM (ncard fr to) M 0 < 0 := by omega
              go_wp2_with fail
              refine (take_none H0.out hz).mono ?_
              rintro e w_ ⟨rfl, rfl⟩
              go_wp2_with fail
              refine (qtake_none_all Q0.out H0.out.bm.lt hz).mono ?_
              rintro e w_ ⟨rfl, rfl⟩
              have HM := Lib.hid H0.out
              have HQ := Lib.hid Q0.out
              have HBZ := Lib.hid HB.out
              clear x0 x1 H0 Q0 HB hz
              obtain ⟨Aq, hAq⟩ : ∃ Aq, Aq = Aw := ⟨_, rfl⟩
              obtain ⟨cq, hcq⟩ : ∃ cq, cq = cw := ⟨_, rfl⟩
              rw [← hAq, ← hcq] at HQ
              clear hAq hcq
              have o2 := HQ.out.c2
              have hq2 := HQ.out.hd.lt
              have HPM : Hid (popM (ncard fr to) (M) ≤ 1000000) := Lib.hid (by have := popM_le (ncard fr to) (M); have := HNC.out; omega)
              go_upto_region 20 with (fail)
              go_region_held3 (fun w' => w'.cell? ⟨q, 2, none⟩ = some (.slice Aq (popM (ncard fr to) (M)) cq)) (go_keep)
                (first
                  | (go_at_call 28; refine (all_any (TM.drew HM.out)).mono ?_; rintro e w7 ⟨A7, c7, rfl, hO7, hT7, hB7⟩; have o7 : w7.cell? ⟨q, 2, none⟩ = some (.slice Aq (popM (ncard fr to) (M)) cq) := (hB7.cell (p := ⟨q, 2, none⟩) hq2).trans o2; have HO7 := Lib.hid hO7; have HM7 := Lib.hid hT7; have HQ7 := Lib.hid ((QM.drew HQ.out).up hB7); have HB7 := Lib.hid (HBZ.out.drew.trans (hB7.mono HBZ.out.size)); clear hO7 hT7 hB7)
                  | (go_at_call 29; refine (same_yes HO7.out.rd HQ7.out.rd.rd HPM.out).mono ?_; rintro e w8 ⟨rfl, hB8⟩; have o8 : w8.cell? ⟨q, 2, none⟩ = some (.slice Aq (popM (ncard fr to) (M)) cq) := (hB8.cell (p := ⟨q, 2, none⟩) HQ7.out.hd.lt).trans o7; have HM8 := Lib.hid (HM7.out.up hB8); have HQ8 := Lib.hid (HQ7.out.up hB8); have HB8 := Lib.hid (HB7.out.trans (hB8.mono HB7.out.size)); clear hB8))
              clear o2 o7 o8 hq2 HM HQ HBZ HM7 HQ7 HB7 HO7
              go_wp2
              go_roundw
              case rel => exact ⟨k + 1, M, cq, Aq, by omega, by go_num, HM8, HQ8, HB8⟩
              case measure => simp [intOf]; omega
            · obtain ⟨mn, hmn⟩ : ∃ mn, (if (to : Int) < (fr : Int) + ((j : Int) + 1) * 16 then (to : Int) else (fr : Int) + ((j : Int) + 1) * 16) = mn := ⟨_, rfl⟩
              obtain ⟨fs, hfs⟩ : ∃ fs, (fr : Int) + (j : Int) * 16 = fs := ⟨_, rfl⟩
              have hmm : (mn == mn) = true := by simp
              have hff : (fs == fs) = true := by simp
              have HMN := Lib.hid hmn
              have HFS := Lib.hid hfs
              have HZ := Lib.hid hz
              clear hmn hfs hz
              go_wp2_with fail
              refine (take_some H0.out HZ.out).mono ?_
              rintro e w5 ⟨rfl, hM5, hG5⟩
              rw [HMN.out, HFS.out]
              have HM5 := Lib.hid hM5
              have HQ5 := Lib.hid (QM.words Q0.out H0.out hG5)
              have HB5 := Lib.hid (below_only HB.out hG5 HB.out.size HG.out)
              clear hM5 hG5
              go_wp2_with fail
              refine (qtake_some_all HQ5.out H0.out.bm.lt HZ.out).mono ?_
              rintro e w6 ⟨rfl, ⟨A6, c6, hQ6⟩, hG6⟩
              rw [HMN.out, HFS.out]
              have HM := Lib.hid (TM.side HM5.out HQ5.out.hd (by have := HGQ.out; have := HT.out.2; omega) hG6)
              have HQ := Lib.hid hQ6
              have HBZ := Lib.hid (below_only HB5.out hG6 HB5.out.size HGQ.out)
              clear hQ6 hG6 x0 x1 H0 Q0 HB HM5 HQ5 HB5
              obtain ⟨Aq, hAq⟩ : ∃ Aq, Aq = A6 := ⟨_, rfl⟩
              obtain ⟨cq, hcq⟩ : ∃ cq, cq = c6 := ⟨_, rfl⟩
              rw [← hAq, ← hcq] at HQ
              clear hAq hcq
              have o2 := HQ.out.c2
              have hq2 := HQ.out.hd.lt
              have HPM : Hid (popM (ncard fr to) (clrM M (j : Int)) ≤ 1000000) := Lib.hid (by have := popM_le (ncard fr to) (clrM M (j : Int)); have := HNC.out; omega)
              go_upto_region 20 with (fail)
              go_region_held3 (fun w' => w'.cell? ⟨q, 2, none⟩ = some (.slice Aq (popM (ncard fr to) (clrM M (j : Int))) cq)) (go_keep)
                (first
                  | (go_at_call 28; refine (all_any (TM.drew HM.out)).mono ?_; rintro e w7 ⟨A7, c7, rfl, hO7, hT7, hB7⟩; have o7 : w7.cell? ⟨q, 2, none⟩ = some (.slice Aq (popM (ncard fr to) (clrM M (j : Int))) cq) := (hB7.cell (p := ⟨q, 2, none⟩) hq2).trans o2; have HO7 := Lib.hid hO7; have HM7 := Lib.hid hT7; have HQ7 := Lib.hid ((QM.drew HQ.out).up hB7); have HB7 := Lib.hid (HBZ.out.drew.trans (hB7.mono HBZ.out.size)); clear hO7 hT7 hB7)
                  | (go_at_call 29; refine (same_yes HO7.out.rd HQ7.out.rd.rd HPM.out).mono ?_; rintro e w8 ⟨rfl, hB8⟩; have o8 : w8.cell? ⟨q, 2, none⟩ = some (.slice Aq (popM (ncard fr to) (clrM M (j : Int))) cq) := (hB8.cell (p := ⟨q, 2, none⟩) HQ7.out.hd.lt).trans o7; have HM8 := Lib.hid (HM7.out.up hB8); have HQ8 := Lib.hid (HQ7.out.up hB8); have HB8 := Lib.hid (HB7.out.trans (hB8.mono HB7.out.size)); clear hB8))
              clear o2 o7 o8 hq2 HM HQ HBZ HM7 HQ7 HB7 HO7
              go_wp2
              go_roundw
              case rel => exact ⟨k + 1, clrM M (j : Int), cq, Aq, by omega, by go_num, HM8, HQ8, HB8⟩
              case measure => simp [intOf]; omega
          · have d3 : (a0 == 3) = false := by simp [h3]
            clear h3
            by_cases h4 : a0 = 4
            · have d4 : (a0 == 4) = true := by simp [h4]
              clear h4
              go_wp2_with fail
              refine (twipe_any H0.out).mono ?_
              rintro e w5 ⟨rfl, hM5, hG5⟩
              have HM5 := Lib.hid hM5
              have HQ5 := Lib.hid (QM.words Q0.out H0.out hG5)
              have HB5 := Lib.hid (below_only HB.out hG5 HB.out.size HG.out)
              clear hM5 hG5
              have z2 := HQ5.out.c2
              have f2 := HQ5.out.hd.free 2
              obtain ⟨w6, hw6⟩ : ∃ w6, w6 = w5.setCell ⟨q, 2, none⟩ (.slice none 0 0) := ⟨_, rfl⟩
              obtain ⟨M0, hM0⟩ : ∃ M0 : Nat, M0 = 0 := ⟨_, rfl⟩
              have HS : Hid (w5.grownBy w6 (some q)) := Lib.hid (by rw [hw6]; exact only_set0 _)
              have HM : Hid (TM w6 t b g fr to M0) := Lib.hid (by rw [hM0]; exact TM.side HM5.out HQ5.out.hd (by have := HGQ.out; have := HT.out.2; omega) HS.out)
              have HQ : Hid (QM w6 q fr to none (popM (ncard fr to) M0) 0 (allL fr (ncard fr to) M0)) := Lib.hid (by rw [hM0, hw6, popM_zero, allL_zero]; exact HQ5.out.store (RdQ.nil w5 none) (Nat.le_refl 0) (by omega))
              have HBZ := Lib.hid (below_only HB5.out HS.out HB5.out.size HGQ.out)
              have HW6 := Lib.hid hw6
              clear hw6 hM0 x0 x1 H0 Q0 HB
              go_upto_region 20 with (fail)
              rw [← HW6.out]
              clear z2 f2 HM5 HQ5 HB5 HS HW6
              obtain ⟨Aq, hAq⟩ : ∃ Aq : Option Addr, Aq = none := ⟨_, rfl⟩
              obtain ⟨cq, hcq⟩ : ∃ cq, cq = 0 := ⟨_, rfl⟩
              rw [← hAq, ← hcq] at HQ
              clear hAq hcq
              have o2 := HQ.out.c2
              have hq2 := HQ.out.hd.lt
              have HPM : Hid (popM (ncard fr to) (M0) ≤ 1000000) := Lib.hid (by have := popM_le (ncard fr to) (M0); have := HNC.out; omega)
              go_region_held3 (fun w' => w'.cell? ⟨q, 2, none⟩ = some (.slice Aq (popM (ncard fr to) (M0)) cq)) (go_keep)
                (first
                  | (go_at_call 28; refine (all_any (TM.drew HM.out)).mono ?_; rintro e w7 ⟨A7, c7, rfl, hO7, hT7, hB7⟩; have o7 : w7.cell? ⟨q, 2, none⟩ = some (.slice Aq (popM (ncard fr to) (M0)) cq) := (hB7.cell (p := ⟨q, 2, none⟩) hq2).trans o2; have HO7 := Lib.hid hO7; have HM7 := Lib.hid hT7; have HQ7 := Lib.hid ((QM.drew HQ.out).up hB7); have HB7 := Lib.hid (HBZ.out.drew.trans (hB7.mono HBZ.out.size)); clear hO7 hT7 hB7)
                  | (go_at_call 29; refine (same_yes HO7.out.rd HQ7.out.rd.rd HPM.out).mono ?_; rintro e w8 ⟨rfl, hB8⟩; have o8 : w8.cell? ⟨q, 2, none⟩ = some (.slice Aq (popM (ncard fr to) (M0)) cq) := (hB8.cell (p := ⟨q, 2, none⟩) HQ7.out.hd.lt).trans o7; have HM8 := Lib.hid (HM7.out.up hB8); have HQ8 := Lib.hid (HQ7.out.up hB8); have HB8 := Lib.hid (HB7.out.trans (hB8.mono HB7.out.size)); clear hB8))
              clear o2 o7 o8 hq2 HM HQ HBZ HM7 HQ7 HB7 HO7
              go_wp2
              go_roundw
              case rel => exact ⟨k + 1, M0, cq, Aq, by omega, by go_num, HM8, HQ8, HB8⟩
              case measure => simp [intOf]; omega
            · have d4 : (a0 == 4) = false := by simp [h4]
              clear h4
              have HM := Lib.hid H0.out
              have HQ := Lib.hid Q0.out
              have HBZ := Lib.hid HB.out
              go_upto_region 20 with (fail)
              clear x0 x1 H0 Q0 HB
              obtain ⟨Aq, hAq⟩ : ∃ Aq, Aq = Aw := ⟨_, rfl⟩
              obtain ⟨cq, hcq⟩ : ∃ cq, cq = cw := ⟨_, rfl⟩
              rw [← hAq, ← hcq] at HQ
              clear hAq hcq
              have o2 := HQ.out.c2
              have hq2 := HQ.out.hd.lt
              have HPM : Hid (popM (ncard fr to) (M) ≤ 1000000) := Lib.hid (by have := popM_le (ncard fr to) (M); have := HNC.out; omega)
              go_region_held3 (fun w' => w'.cell? ⟨q, 2, none⟩ = some (.slice Aq (popM (ncard fr to) (M)) cq)) (go_keep)
                (first
                  | (go_at_call 28; refine (all_any (TM.drew HM.out)).mono ?_; rintro e w7 ⟨A7, c7, rfl, hO7, hT7, hB7⟩; have o7 : w7.cell? ⟨q, 2, none⟩ = some (.slice Aq (popM (ncard fr to) (M)) cq) := (hB7.cell (p := ⟨q, 2, none⟩) hq2).trans o2; have HO7 := Lib.hid hO7; have HM7 := Lib.hid hT7; have HQ7 := Lib.hid ((QM.drew HQ.out).up hB7); have HB7 := Lib.hid (HBZ.out.drew.trans (hB7.mono HBZ.out.size)); clear hO7 hT7 hB7)
                  | (go_at_call 29; refine (same_yes HO7.out.rd HQ7.out.rd.rd HPM.out).mono ?_; rintro e w8 ⟨rfl, hB8⟩; have o8 : w8.cell? ⟨q, 2, none⟩ = some (.slice Aq (popM (ncard fr to) (M)) cq) := (hB8.cell (p := ⟨q, 2, none⟩) HQ7.out.hd.lt).trans o7; have HM8 := Lib.hid (HM7.out.up hB8); have HQ8 := Lib.hid (HQ7.out.up hB8); have HB8 := Lib.hid (HB7.out.trans (hB8.mono HB7.out.size)); clear hB8))
              clear o2 o7 o8 hq2 HM HQ HBZ HM7 HQ7 HB7 HO7
              go_wp2
              go_roundw
              case rel => exact ⟨k + 1, M, cq, Aq, by omega, by go_num, HM8, HQ8, HB8⟩
              case measure => simp [intOf]; omega
    · go_wp2
      go_ret
      exact ⟨rfl, HB.out⟩
theorem cardPlays_walk (w : World) (x : Int) (_ : (Lit.int .i64 x).wf = true) (y : Int) (_ : (Lit.int .i64 y).wf = true) (s : Option Addr) (len cap : Nat) (f : Nat → Nat → Int) (ws : IsStr 2 w s len f) (hT : Tab w) :
    Calls Tryd.prog 21 #[.int .i64 x, .int .i64 y, .slice s len cap] w fun e w' => e = .returned (.bool true) ∧ Below w.heap.size w w' := by
  by_cases hl : len ≤ 200
  · exact cardPlays_main w x y s len cap f ws hl hT
  · exact cardPlays_long w x y s len cap (by omega) hT
end Go.Proofs.YtdfpmgpdkajhkaaDoor
