/-
  Contracts of gleaninglaw14: few, same. Premises in each theorem.
-/
import Derived.Test.YtdfpmgpdkajhkaaDoorMkd
import Derived.Test.YtdfpmgpdkajhkaaDoorRf3
namespace Go.Proofs.YtdfpmgpdkajhkaaDoor
open Go.RowKit
/-- Are edges and roots few? -/
def fewB (rows : List (List Int)) (n m : Nat) : Bool := decide (n ≤ 100) && decide (m ≤ 100) && rows.all fun r => decide (r.length ≤ 30)
set_option maxHeartbeats 2000000 in
theorem few_many {w : World} {A : Option Addr} {n c : Nat} {B : Option Addr} {m d : Nat} (h : 100 < n ∨ 100 < m) : Calls Tryd.prog 46 #[.slice A n c, .slice B m d] w fun e w' => e = .returned (.bool false) ∧ w = w' := by
  by_cases h1 : 100 < n
  · have d1 : decide ((n : Int) > 100) = true := decide_eq_true (by omega)
    clear h
    go_enter Tryd.func46, Tryd.ntmps46
    go_wp2
    go_ret
    exact ⟨rfl, rfl⟩
  · have d1 : decide ((n : Int) > 100) = false := decide_eq_false (by omega)
    have d2 : decide ((m : Int) > 100) = true := decide_eq_true (by omega)
    clear h
    go_enter Tryd.func46, Tryd.ntmps46
    go_wp2
    go_ret
    exact ⟨rfl, rfl⟩
set_option maxHeartbeats 2000000 in
theorem few_any {w : World} {A : Option Addr} {n c : Nat} {rows : List (List Int)} (hG : Grid w w.heap.size A n rows) {B : Option Addr} {m d : Nat} :
    Calls Tryd.prog 46 #[.slice A n c, .slice B m d] w fun e w' => e = .returned (.bool (fewB rows n m)) ∧ w = w' := by
  by_cases hbig : 100 < n ∨ 100 < m
  · have : fewB rows n m = false := by unfold fewB; rcases hbig with h | h <;> simp <;> omega
    rw [this]
    exact few_many hbig
  · have d1 : decide ((n : Int) > 100) = false := decide_eq_false (by omega)
    have d2 : decide ((m : Int) > 100) = false := decide_eq_false (by omega)
    have hn : n ≤ 100 := by omega
    have HF : Hid (fewB rows n m = rows.all fun r => decide (r.length ≤ 30)) := Lib.hid (by unfold fewB; have h1 : n ≤ 100 := by omega
                                                                                            have h2 : m ≤ 100 := by omega
                                                                                            simp [h1, h2])
    have HG := Lib.hid hG
    clear hG hbig
    obtain ⟨v, hv⟩ : ∃ v, v = fewB rows n m := ⟨_, rfl⟩
    rw [← hv]
    have HV := Lib.hid hv
    clear hv
    go_enter Tryd.func46, Tryd.ntmps46
    go_wp2
    go_loop [16] (fun i => ∃ k : Nat, k ≤ n ∧ i = .int .i64 k ∧ Hid (∀ j, j < k → (rows.getD j []).length ≤ 30)) (fun i => n - (intOf i).toNat)
    case atStart => exact ⟨0, Nat.zero_le _, rfl, Lib.hid fun j hj => by omega⟩
    case round =>
      obtain ⟨k, hk, rfl, HL⟩ := hrel
      by_cases hkn : k < n
      · obtain ⟨g, off, rfl, hg, hc⟩ := HG.out.2 (by omega)
        obtain ⟨A', d', c', hx, hr⟩ := hc k hkn
        have hlen := hr.1
        clear hc
        by_cases h30 : d' ≤ 30
        · have d3 : decide ((d' : Int) > 30) = false := decide_eq_false (by omega)
          have HL2 : Hid (∀ j, j < k + 1 → (rows.getD j []).length ≤ 30) := Lib.hid fun j hj => by
            by_cases e : j = k
            · rw [e, hlen]; exact h30
            · exact HL.out j (by omega)
          clear hlen hr
          go_wp2
          go_round
          case rel => exact ⟨k + 1, by omega, by go_num, HL2⟩
          case measure => simp [intOf]; omega
        · have d3 : decide ((d' : Int) > 30) = true := decide_eq_true (by omega)
          have HE : Hid (v = false) := Lib.hid (by
            rw [HV.out, HF.out, List.all_eq_false]
            refine ⟨rows.getD k [], ?_, by rw [hlen]; simp; omega⟩
            rw [List.getD_eq_getElem?_getD, List.getElem?_eq_getElem (by rw [HG.out.1]; exact hkn)]
            exact List.getElem_mem _)
          clear hlen hr
          go_wp2
          go_ret
          exact ⟨by rw [HE.out]; rfl, rfl⟩
      · have HE : Hid (v = true) := Lib.hid (by
          rw [HV.out, HF.out, List.all_eq_true]
          intro r hr
          obtain ⟨j, hj, e⟩ := List.getElem_of_mem hr
          have := HL.out j (by rw [HG.out.1] at hj; omega)
          rw [List.getD_eq_getElem?_getD, List.getElem?_eq_getElem hj] at this
          simp only [Option.getD_some, e] at this
          exact decide_eq_true this)
        go_wp2
        go_ret
        exact ⟨by rw [HE.out]; rfl, rfl⟩
set_option maxRecDepth 100000 in
set_option maxHeartbeats 2000000 in
/-- same, of a map and a list that are alike. -/
theorem msame_yes {w : World} {b g n M hb : Nat} (hM : BM w b g n M) (hH : Blk w hb (boolCells n M) 4) :
    Calls Tryd.prog 50 #[.pointer (some ⟨b, 0, none⟩), .slice (some ⟨hb, 0, none⟩) n n] w fun e w' => e = .returned (.bool true) ∧ Below w.heap.size w w' := by
  have HM := Lib.hid hM
  have HH := Lib.hid hH
  have hle := hM.le
  clear hM hH
  go_enter Tryd.func50, Tryd.ntmps50
  go_wp2_with fail
  refine (len_any HM.out).mono ?_
  rintro e w_ ⟨rfl, rfl⟩
  go_wp2
  go_loopw [17] (fun i wr => ∃ k : Nat, k ≤ n ∧ i = .int .i64 k ∧ Hid (Below w.heap.size w wr)) (fun i _ => n - (intOf i).toNat)
  case atStart => exact ⟨0, Nat.zero_le _, rfl, Lib.hid (Below.refl _ _)⟩
  case round =>
    obtain ⟨k, hk, rfl, HB⟩ := hrel
    by_cases hkn : k < n
    · have HM1 := Lib.hid (HM.out.up HB.out)
      have hh := HH.out.below HB.out HH.out.lt
      have hx := hh.cell (boolCells_at (M := M) hkn)
      have lh := hh.lt
      obtain ⟨v, hv⟩ : ∃ v, v = M.testBit k := ⟨_, rfl⟩
      rw [← hv] at hx
      have HV : Hid (hasB M (k : Int) = v) := Lib.hid (by rw [hasB_nat, hv])
      have i0 : (0 : Int) ≤ (k : Int) := by omega
      have i1 : (k : Int) < (n : Int) := by omega
      have hq := bw_cell wr
      clear hv hh
      cases v
      all_goals
        go_wp2_with fail
        refine wp_region_bw (by kernel_rfl) (by kernel_rfl) ?_
        repeat go_big_quiet_step (first | (go_at_call 34; exact calls_same (has_any (HM1.out.up (BW.is _)) _)))
        with_reducible refine wpQuiet_nil ?_
        rintro ⟨w5, hb⟩
        dsimp only
        rw [HV.out]
        have HB1 := Lib.hid (HB.out.trans (hb.mono HB.out.size))
        clear hq hb hx lh
        go_wp2
        go_roundw
        case rel => exact ⟨k + 1, by omega, by go_num, HB1⟩
        case measure => simp [intOf]; omega
    · go_wp2
      go_ret
      exact ⟨rfl, HB.out⟩
end Go.Proofs.YtdfpmgpdkajhkaaDoor
