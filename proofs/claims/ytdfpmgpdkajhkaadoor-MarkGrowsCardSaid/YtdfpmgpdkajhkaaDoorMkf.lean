/-
  The contract of the reference gleaningref14.Reach: a list of bools that holds just what is reached. Premises in each theorem.
-/
import Derived.Test.YtdfpmgpdkajhkaaDoorMke
import Derived.Deep.LoopGhost
namespace Go.Proofs.YtdfpmgpdkajhkaaDoor
open Go.RowKit
theorem bools_store {w : World} {hb N M k : Nat} (h : Blk w hb (boolCells N M) 4) : Blk (w.setCell ⟨hb, k, none⟩ (.bool true)) hb (boolCells N (setM N M (k : Int))) 4 ∨ N ≤ k := by
  by_cases hk : k < N
  · left
    have hs : setM N M (k : Int) = sb M k := by unfold setM; rw [if_pos (by omega)]; simp
    rw [hs]
    have e := boolCells_set (n := N) (M := M) (M' := sb M k) (k := k) (fun i hi => by rw [sb_bit]; simp [Ne.symm hi])
    have h1 := h.set (i := k) (.bool true)
    rw [sb_bit] at e
    simp at e
    rw [e] at h1
    exact h1
  · right; omega
/-- What the reference knows: only what is reached is marked, and what must be. -/
structure RS (n : Nat) (E : Nat → List Int) (rts : List Int) (q M : Nat) : Prop where
  lt : M < 2 ^ n
  sound : ∀ i, M.testBit i = true → Rch n E rts i
  roots : ∀ x, x < q → 0 ≤ rts.getD x 0 → rts.getD x 0 < (n : Int) → M.testBit (rts.getD x 0).toNat = true
theorem RS.mark {n : Nat} {E : Nat → List Int} {rts : List Int} {q M : Nat} (h : RS n E rts q M) {x : Int} (hx : 0 ≤ x → x < (n : Int) → Rch n E rts x.toNat) : RS n E rts q (setM n M x) :=
  ⟨setM_lt h.lt x, fun i hi => by
    rw [setM_bit] at hi
    simp only [Bool.or_eq_true, Bool.and_eq_true, decide_eq_true_eq] at hi
    rcases hi with hi | ⟨hi, hn⟩
    · exact h.sound i hi
    · have := hx (by omega) (by omega)
      rwa [hi, Int.toNat_natCast] at this, fun x hx y0 yn => setM_mono (h.roots x hx y0 yn)⟩
/-- What the reference leaves. -/
def RReached (w : World) (N : Nat) (E : Nat → List Int) (rts : List Int) (e : Ending) (w' : World) : Prop :=
  ∃ hb M, e = .returned (.slice (some ⟨hb, 0, none⟩) N N) ∧ w.heap.size ≤ hb ∧ Blk w' hb (boolCells N M) 4 ∧ IsR N E rts M ∧ Below w.heap.size w w'
set_option maxRecDepth 100000 in
set_option maxHeartbeats 8000000 in
theorem rreach_any {w : World} (p : Int) {A : Option Addr} {n c : Nat} {rows : List (List Int)} (hG : Grid w w.heap.size A n rows) {B : Option Addr} {m d : Nat} {rts : List Int} (hR : Rd w B m rts) (hn : n ≤ 1000000) (hm : m ≤ 1000000) (hlen : ∀ k, (rows.getD k []).length ≤ 100000) :
    Calls Tryd.prog 49 #[.int .i64 p, .slice A n c, .slice B m d] w (RReached w (plc p) (fun k => rows.getD k []) rts) := by
  have HG := Lib.hid hG
  have HR := Lib.hid hR
  have HLEN := Lib.hid hlen
  have hq := plc_eq p
  have hle := plc_le p
  have hmk := fun W => make_bools W (plc p) (by omega)
  obtain ⟨N, hN⟩ : ∃ N, N = plc p := ⟨_, rfl⟩
  rw [← hN] at hq hle hmk ⊢
  obtain ⟨E, hE⟩ : ∃ E : Nat → List Int, E = fun k => rows.getD k [] := ⟨_, rfl⟩
  rw [← hE]
  have HEE : Hid (∀ k, rows.getD k [] = E k) := Lib.hid fun k => by rw [hE]
  clear hG hR hlen hN hE
  go_enter Tryd.func49, Tryd.ntmps49
  go_wp2
  all_goals
    generalize hwa : w.alloc (Obj.cells (boolCells N 0) 4) = wa
    generalize hhb : w.heap.size = hb
    have HH : Hid (Blk wa hb (boolCells N 0) 4) := Lib.hid (by rw [← hwa, ← hhb]; exact Blk.new _ _ _)
    have HB : Hid (Below hb w wa) := Lib.hid (by rw [← hwa, ← hhb]; exact (Below.refl w.heap.size w).alloc (Nat.le_refl _) _)
    have HHB : Hid (w.heap.size = hb) := Lib.hid hhb
    have HS : Hid (RS N E rts 0 0) := Lib.hid ⟨Nat.pow_pos (by decide), fun i hi => (by rw [bit_zero] at hi; cases hi), fun x hx => (by omega)⟩
    rw [hhb] at HG
    clear hwa hhb
    go_loopw [21] (fun v wr => ∃ q M : Nat, q ≤ m ∧ v = .int .i64 q ∧ Hid (RS N E rts q M) ∧ Hid (Blk wr hb (boolCells N M) 4) ∧ Hid (Below hb w wr)) (fun v _ => m - (intOf v).toNat)
    case atStart => exact ⟨0, 0, Nat.zero_le _, rfl, HS, HH, HB⟩
    case round =>
      clear HS HH HB
      obtain ⟨q, M, hq', rfl, HS, HH, HB⟩ := hrel
      by_cases hqm : q < m
      · obtain ⟨rb, off, rfl, hrb, hcell⟩ := HR.out.2 (by omega)
        have hx := (HB.out.cell (p := ⟨rb, off + q, none⟩) (by rw [← HHB.out]; exact hrb)).trans (hcell q hqm)
        have hmem := mem_getD (xs := rts) (q := q) (by rw [HR.out.1]; exact hqm)
        have hsx := fun y0 yn => rch_root (n := N) (E := E) hmem y0 yn
        clear hcell hmem
        obtain ⟨x, hxx⟩ : ∃ x, x = rts.getD q 0 := ⟨_, rfl⟩
        rw [← hxx] at hx hsx
        have HX := Lib.hid hxx
        have HS1 := Lib.hid (HS.out.mark hsx)
        have HSX := Lib.hid hsx
        have HM3 : Hid (∀ x', x' < q + 1 → 0 ≤ rts.getD x' 0 → rts.getD x' 0 < (N : Int) → (setM N M x).testBit (rts.getD x' 0).toNat = true) := Lib.hid fun x' hx' y0 yn => by
          by_cases e : x' = q
          · rw [e] at y0 yn ⊢
            rw [← HX.out] at y0 yn ⊢
            exact setM_marks y0 yn
          · exact setM_mono (HS.out.roots x' (by omega) y0 yn)
        have HS2 : Hid (RS N E rts (q + 1) (setM N M x)) := Lib.hid ⟨HS1.out.lt, HS1.out.sound, HM3.out⟩
        clear hxx hsx
        by_cases hin : 0 ≤ x ∧ x < N
        · obtain ⟨j, rfl⟩ : ∃ j : Nat, x = j := ⟨x.toNat, by omega⟩
          obtain ⟨h0, h1⟩ := hin
          have d0 : decide ((j : Int) ≥ 0) = true := decide_eq_true h0
          have d1 : decide ((j : Int) < (N : Int)) = true := decide_eq_true h1
          have hjN : j < N := by omega
          have hh := HH.out.cell (boolCells_at (M := M) hjN)
          have hf := HH.out.free j
          have HH2 : Hid (Blk (wr.setCell ⟨hb, j, none⟩ (.bool true)) hb (boolCells N (setM N M (j : Int))) 4) := Lib.hid (by
            rcases bools_store (k := j) HH.out with h | h
            · exact h
            · omega)
          have HB2 := Lib.hid (HB.out.setCell (p := ⟨hb, j, none⟩) (Nat.le_refl _) (.bool true))
          go_wp2
          go_roundw
          case rel => exact ⟨q + 1, setM N M j, by omega, by go_num, HS2, HH2, HB2⟩
          case measure => simp [intOf]; omega
        · have HE : Hid (setM N M x = M) := Lib.hid (by unfold setM; rw [if_neg hin])
          rw [HE.out] at HS2
          by_cases h0 : 0 ≤ x
          · have d0 : decide (x ≥ 0) = true := decide_eq_true h0
            have d1 : decide (x < (N : Int)) = false := decide_eq_false (by omega)
            clear hin
            go_wp2
            go_roundw
            case rel => exact ⟨q + 1, M, by omega, by go_num, HS2, HH, HB⟩
            case measure => simp [intOf]; omega
          · have d0 : decide (x ≥ 0) = false := decide_eq_false h0
            clear hin
            go_wp2
            go_roundw
            case rel => exact ⟨q + 1, M, by omega, by go_num, HS2, HH, HB⟩
            case measure => simp [intOf]; omega
      · have hqe : q = m := by omega
        rw [hqe] at HS
        clear hqe hq'
        obtain ⟨wo, hwo⟩ : ∃ wo : World, wo = wr := ⟨_, rfl⟩
        subst hwo
        go_wp2
        go_loopg [10] (2 * (N - popM N M) + 1) (fun gk v wr => ∃ (M : Nat) (more : Bool), gk = 2 * (N - popM N M) + (if more = true then 1 else 0) ∧ v = .bool more ∧ Hid (RS N E rts m M) ∧ Hid (more = false → ∀ i, M.testBit i = true → ∀ y ∈ E i, 0 ≤ y → y < (N : Int) → M.testBit y.toNat = true) ∧ Hid (Blk wr hb (boolCells N M) 4) ∧ Hid (Below hb w wr))
        case atStart => exact ⟨M, true, rfl, rfl, HS, Lib.hid (fun h => by cases h), HH, HB⟩
        case round =>
          clear HS HH HB
          obtain ⟨M, more, hgk, rfl, HS, HCL, HH, HB⟩ := hrel
          have HGK := Lib.hid hgk
          clear hgk
          cases more
          · have HIS : Hid (IsR N E rts M) := Lib.hid fun i => ⟨HS.out.sound i, fun hr => hr (fun i => M.testBit i = true) (fun y hy h0 hn => by
              obtain ⟨x, hx, e⟩ := getD_mem hy
              have := HS.out.roots x (by rw [← HR.out.1]; exact hx)
              rw [e] at this
              exact this h0 hn) (fun i hi y hy h0 hn => HCL.out rfl i hi y hy h0 hn)⟩
            go_wp2
            go_ret
            exact ⟨hb, M, rfl, by rw [HHB.out]; exact Nat.le_refl _, HH.out, HIS.out, by rw [HHB.out]; exact HB.out⟩
          · have hx0 := popM_le N M
            obtain ⟨wq, hwq⟩ : ∃ wq : World, wq = wr := ⟨_, rfl⟩
            subst hwq
            go_wp2
            go_loopw [10, 47] (fun b v wr => ∃ (k M1 : Nat) (more : Bool), k ≤ N ∧ b = .bool more ∧ v = .int .i64 k ∧ Hid (RS N E rts m M1) ∧ Hid (popM N M + (if more = true then 1 else 0) ≤ popM N M1) ∧ Hid (more = false → ∀ i, i < k → M1.testBit i = true → ∀ y ∈ E i, 0 ≤ y → y < (N : Int) → M1.testBit y.toNat = true) ∧ Hid (Blk wr hb (boolCells N M1) 4) ∧ Hid (Below hb w wr)) (fun _ v _ => N - (intOf v).toNat)
            case atStart => exact ⟨0, M, false, Nat.zero_le _, rfl, rfl, HS, Lib.hid (by simp), Lib.hid (fun _ i hi => by omega), HH, HB⟩
            case round =>
              clear HS HCL HH HB
              obtain ⟨k, M1, more, hk, rfl, rfl, HS, HPO, HCL, HH, HB⟩ := hrel
              by_cases hkN : k < N
              · have hbk := HH.out.cell (boolCells_at (M := M1) hkN)
                by_cases hbit : M1.testBit k = true
                · rw [hbit] at hbk
                  have HBIT := Lib.hid hbit
                  clear hbit
                  by_cases hkn : k < n
                  · obtain ⟨gb, off, rfl, hgb, hrow⟩ := HG.out.2 (by omega)
                    obtain ⟨A', d', c', hx, hr⟩ := hrow k hkn
                    have hx1 := (HB.out.cell (p := ⟨gb, off + k, none⟩) hgb).trans hx
                    have hd' : d' ≤ 100000 := by rw [← hr.1]; exact HLEN.out k
                    rw [HEE.out k] at hr
                    have HRR := Lib.hid hr
                    have dk : decide ((k : Int) ≥ (n : Int)) = false := decide_eq_false (by omega)
                    clear hrow hx hr
                    have HX1 := Lib.hid hx1
                    obtain ⟨wz, hwz⟩ : ∃ wz : World, wz = wr := ⟨_, rfl⟩
                    subst hwz
                    go_wp2
                    clear hx1
                    go_loopw [10, 66] (fun b v wr => ∃ (x M2 : Nat) (more2 : Bool), x ≤ d' ∧ b = .bool more2 ∧ v = .int .i64 x ∧ Hid (RS N E rts m M2) ∧ Hid (popM N M + (if more2 = true then 1 else 0) ≤ popM N M2) ∧ Hid (M2.testBit k = true) ∧ Hid (more2 = false → ∀ i, i < k → M2.testBit i = true → ∀ y ∈ E i, 0 ≤ y → y < (N : Int) → M2.testBit y.toNat = true) ∧ Hid (more2 = false → ∀ x', x' < x → 0 ≤ (E k).getD x' 0 → (E k).getD x' 0 < (N : Int) → M2.testBit ((E k).getD x' 0).toNat = true) ∧ Hid (Blk wr hb (boolCells N M2) 4) ∧ Hid (Below hb w wr)) (fun _ v _ => d' - (intOf v).toNat)
                    case atStart => exact ⟨0, M1, more, Nat.zero_le _, rfl, rfl, HS, HPO, HBIT, HCL, Lib.hid (fun _ x hx => by omega), HH, HB⟩
                    case round =>
                      clear HS HPO HCL HH HBIT hbk
                      have HB0 := Lib.hid HB.out
                      clear HB
                      obtain ⟨x, M2, more2, hx, rfl, rfl, HS, HPO, HBIT, HCL, HDN, HH, HB⟩ := hrel
                      by_cases hxd : x < d'
                      · obtain ⟨rb, roff, rfl, hrb, hcell⟩ := HRR.out.2 (by omega)
                        have hy := (HB.out.cell (p := ⟨rb, roff + x, none⟩) hrb).trans ((hcell x hxd))
                        have hx1 := (HB.out.cell (p := ⟨gb, off + k, none⟩) hgb).trans (((HB0.out.cell (p := ⟨gb, off + k, none⟩) hgb).symm.trans HX1.out))
                        have hmem := mem_getD (xs := E k) (q := x) (by rw [HRR.out.1]; exact hxd)
                        have hsx := fun y0 yn => rch_step (HS.out.sound k HBIT.out) hmem y0 yn
                        clear hcell hmem
                        obtain ⟨y, hyy⟩ : ∃ y, y = (E k).getD x 0 := ⟨_, rfl⟩
                        rw [← hyy] at hy hsx
                        have HX := Lib.hid hyy
                        have HSX := Lib.hid hsx
                        clear hyy hsx
                        by_cases hin : 0 ≤ y ∧ y < N
                        · obtain ⟨j, rfl⟩ : ∃ j : Nat, y = j := ⟨y.toNat, by omega⟩
                          obtain ⟨h0, h1⟩ := hin
                          have d0 : decide ((j : Int) ≥ 0) = true := decide_eq_true h0
                          have d1 : decide ((j : Int) < (N : Int)) = true := decide_eq_true h1
                          have hjN : j < N := by omega
                          have hh := HH.out.cell (boolCells_at (M := M2) hjN)
                          by_cases hbj : M2.testBit j = true
                          · rw [hbj] at hh
                            have HDN2 : Hid (more2 = false → ∀ x', x' < x + 1 → 0 ≤ (E k).getD x' 0 → (E k).getD x' 0 < (N : Int) → M2.testBit ((E k).getD x' 0).toNat = true) := Lib.hid fun hm x' hx' y0 yn => by
                              by_cases e : x' = x
                              · rw [e, ← HX.out, Int.toNat_natCast]; exact hbj
                              · exact HDN.out hm x' (by omega) y0 yn
                            clear hbj
                            go_wp2
                            go_roundw
                            case rel => exact ⟨x + 1, M2, more2, by omega, rfl, by go_num, HS, HPO, HBIT, HCL, HDN2, HH, HB⟩
                            case measure => simp [intOf]; omega
                          · have hbj : M2.testBit j = false := by simpa using hbj
                            rw [hbj] at hh
                            have hf := HH.out.free j
                            have HN1 : Hid (popM N (setM N M2 (j : Int)) = popM N M2 + 1) := Lib.hid (popM_new (by rw [newB_eq, hasB_nat, hbj]; simp; omega))
                            have HS2 := Lib.hid (HS.out.mark HSX.out)
                            have HPO2 : Hid (popM N M + (if true = true then 1 else 0) ≤ popM N (setM N M2 (j : Int))) := Lib.hid (by rw [HN1.out]; have := HPO.out; simp; omega)
                            have HBIT2 : Hid ((setM N M2 (j : Int)).testBit k = true) := Lib.hid (setM_mono HBIT.out)
                            have HH2 : Hid (Blk (wr.setCell ⟨hb, j, none⟩ (.bool true)) hb (boolCells N (setM N M2 (j : Int))) 4) := Lib.hid (by
                              rcases bools_store (k := j) HH.out with h | h
                              · exact h
                              · omega)
                            have HB2 := Lib.hid (HB.out.setCell (p := ⟨hb, j, none⟩) (Nat.le_refl _) (.bool true))
                            clear hbj
                            go_wp2
                            go_roundw
                            case rel => exact ⟨x + 1, setM N M2 j, true, by omega, rfl, by go_num, HS2, HPO2, HBIT2, Lib.hid (fun h => by cases h), Lib.hid (fun h => by cases h), HH2, HB2⟩
                            case measure => simp [intOf]; omega
                        · have HDN2 : Hid (more2 = false → ∀ x', x' < x + 1 → 0 ≤ (E k).getD x' 0 → (E k).getD x' 0 < (N : Int) → M2.testBit ((E k).getD x' 0).toNat = true) := Lib.hid fun hm x' hx' y0 yn => by
                            by_cases e : x' = x
                            · rw [e, ← HX.out] at y0 yn; exact absurd ⟨y0, yn⟩ hin
                            · exact HDN.out hm x' (by omega) y0 yn
                          by_cases h0 : 0 ≤ y
                          · have d0 : decide (y ≥ 0) = true := decide_eq_true h0
                            have d1 : decide (y < (N : Int)) = false := decide_eq_false (by omega)
                            clear hin
                            go_wp2
                            go_roundw
                            case rel => exact ⟨x + 1, M2, more2, by omega, rfl, by go_num, HS, HPO, HBIT, HCL, HDN2, HH, HB⟩
                            case measure => simp [intOf]; omega
                          · have d0 : decide (y ≥ 0) = false := decide_eq_false h0
                            clear hin
                            go_wp2
                            go_roundw
                            case rel => exact ⟨x + 1, M2, more2, by omega, rfl, by go_num, HS, HPO, HBIT, HCL, HDN2, HH, HB⟩
                            case measure => simp [intOf]; omega
                      · have hxe : x = d' := by omega
                        have HCL2 : Hid (more2 = false → ∀ i, i < k + 1 → M2.testBit i = true → ∀ y ∈ E i, 0 ≤ y → y < (N : Int) → M2.testBit y.toNat = true) := Lib.hid fun hm i hi hb y hy y0 yn => by
                          by_cases e : i = k
                          · rw [e] at hy
                            obtain ⟨x', hx', e'⟩ := getD_mem hy
                            have := HDN.out hm x' (by rw [hxe, ← HRR.out.1]; exact hx')
                            rw [e'] at this
                            exact this y0 yn
                          · exact HCL.out hm i (by omega) hb y hy y0 yn
                        clear hxe
                        go_wp2
                        go_roundw
                        case rel => exact ⟨k + 1, M2, more2, by omega, rfl, by go_num, HS, HPO, HCL2, HH, HB⟩
                        case measure => simp [intOf]; omega
                  · have HE0 : Hid (E k = []) := Lib.hid (by rw [← HEE.out k, List.getD_eq_getElem?_getD, List.getElem?_eq_none (by rw [HG.out.1]; omega)]; rfl)
                    have HCL2 : Hid (more = false → ∀ i, i < k + 1 → M1.testBit i = true → ∀ y ∈ E i, 0 ≤ y → y < (N : Int) → M1.testBit y.toNat = true) := Lib.hid fun hm i hi hb y hy y0 yn => by
                      by_cases e : i = k
                      · rw [e, HE0.out] at hy; cases hy
                      · exact HCL.out hm i (by omega) hb y hy y0 yn
                    have dk : decide ((k : Int) ≥ (n : Int)) = true := decide_eq_true (by omega)
                    go_wp2
                    go_roundw
                    case rel => exact ⟨k + 1, M1, more, by omega, rfl, by go_num, HS, HPO, HCL2, HH, HB⟩
                    case measure => simp [intOf]; omega
                · have hbit : M1.testBit k = false := by simpa using hbit
                  rw [hbit] at hbk
                  have HCL2 : Hid (more = false → ∀ i, i < k + 1 → M1.testBit i = true → ∀ y ∈ E i, 0 ≤ y → y < (N : Int) → M1.testBit y.toNat = true) := Lib.hid fun hm i hi hb y hy y0 yn => by
                    by_cases e : i = k
                    · rw [e, hbit] at hb; cases hb
                    · exact HCL.out hm i (by omega) hb y hy y0 yn
                  clear hbit
                  go_wp2
                  go_roundw
                  case rel => exact ⟨k + 1, M1, more, by omega, rfl, by go_num, HS, HPO, HCL2, HH, HB⟩
                  case measure => simp [intOf]; omega
              · have hke : k = N := by omega
                have HCL2 : Hid (more = false → ∀ i, M1.testBit i = true → ∀ y ∈ E i, 0 ≤ y → y < (N : Int) → M1.testBit y.toNat = true) := Lib.hid fun hm i hi y hy y0 yn => HCL.out hm i (by rw [hke]; exact bit_lt HS.out.lt hi) hi y hy y0 yn
                have HLT : Hid (2 * (N - popM N M1) + (if more = true then 1 else 0) < gk) := Lib.hid (by
                  rw [HGK.out]
                  have h1 := HPO.out
                  have h2 := popM_le N M1
                  cases more
                  · simp at h1 ⊢; omega
                  · simp at h1 ⊢; omega)
                clear hke
                go_wp2
                go_roundg (2 * (N - popM N M1) + (if more = true then 1 else 0))
                case measure => exact HLT.out
                case rel => exact ⟨M1, more, rfl, rfl, HS, HCL2, HH, HB⟩
end Go.Proofs.YtdfpmgpdkajhkaaDoor
