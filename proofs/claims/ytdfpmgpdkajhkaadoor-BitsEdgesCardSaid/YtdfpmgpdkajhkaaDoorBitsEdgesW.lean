/-
  The walk of the law BitsEdges: for every number of places and every int it returns true, and memory below the heap's old size is unchanged, where the library's table lies. No other condition.
-/
import Derived.Test.YtdfpmgpdkajhkaaDoorBits6
import Derived.Test.YtdfpmgpdkajhkaaDoorArg
namespace Go.Proofs.YtdfpmgpdkajhkaaDoor
open Go.RowKit
theorem next_last {n : Nat} (hn : 0 < n) : nextM n (setM n 0 ((n : Int) - 1)) 0 = (n : Int) - 1 := by
  obtain ⟨m, rfl⟩ : ∃ m, n = m + 1 := ⟨n - 1, by omega⟩
  have hM : setM (m + 1) 0 (((m + 1 : Nat) : Int) - 1) < 2 ^ (m + 1) := setM_lt (Nat.pow_pos (by decide)) _
  have e : ((m + 1 : Nat) : Int) - 1 = (m : Int) := by omega
  rw [e] at hM ⊢
  refine nextM_eq (by omega) hM ?_ fun i _ hi => ?_
  · rw [setM_bit]; simp
  · rw [setM_bit]
    have h1 : ¬ ((m : Int) = (i : Int)) := by omega
    simp [h1]
theorem next_end {n M : Nat} (hM : M < 2 ^ n) : nextM n M (n : Int) = -1 := nextM_none hM fun i hi => bit_ge hM (by omega)
theorem new_last {n : Nat} (hn : 0 < n) : newB n 0 ((n : Int) - 1) = true := by
  unfold newB
  simp; omega
theorem pop_last {n : Nat} (hn : 0 < n) : popM n (setM n 0 ((n : Int) - 1)) = 1 := by rw [popM_new (new_last hn), popM_zero]
theorem has_last {n : Nat} (hn : 0 < n) : hasB (setM n 0 ((n : Int) - 1)) ((n : Int) - 1) = true := by
  rw [hasB_set]
  simp; omega
theorem pop_clr {n : Nat} (hn : 0 < n) : popM n (clrM (setM n 0 ((n : Int) - 1)) ((n : Int) - 1)) = 0 := by
  have h := popM_clr (setM_lt (Nat.pow_pos (by decide)) _) (has_last hn)
  rw [pop_last hn] at h
  omega
theorem new_out {n : Nat} {o : Int} (h : ¬ (0 ≤ o ∧ o < n)) : newB n 0 o = false := by
  rw [newB_eq]; simp; omega
theorem set_out {n : Nat} {o : Int} (h : ¬ (0 ≤ o ∧ o < n)) (M : Nat) : setM n M o = M := by unfold setM; rw [if_neg h]
set_option maxRecDepth 100000 in
set_option maxHeartbeats 4000000 in
theorem bitsEdges_zero (w : World) (b : Int) (hT : Tab w) :
    Calls Tryd.prog 7 #[.int .u16 0, .int .i64 b] w fun e w' => e = .returned (.bool true) ∧ Below w.heap.size w w' := by
  have HT := Lib.hid hT
  clear hT
  go_enter Tryd.func7, Tryd.ntmps7
  go_wp2_with fail
  refine (awake3_any HT.out).mono ?_
  rintro e w1 ⟨rfl, hB⟩
  have HB := Lib.hid hB
  have HT1 := Lib.hid (HT.out.below hB HT.out.2)
  clear hB
  go_wp2_with fail
  refine (awake3_any HT1.out).mono ?_
  rintro e w2 ⟨rfl, hB⟩
  have HB2 := Lib.hid (HB.out.trans (hB.mono HB.out.size))
  clear hB
  go_wp2
  go_ret
  exact ⟨rfl, HB2.out⟩
set_option maxRecDepth 100000 in
set_option maxHeartbeats 4000000 in
theorem bitsEdges_pos (w : World) (p : Int) (h0 : 0 < p) (hp : p ≤ 65535) (beyond o : Int) (hb1 : -9223372036854775808 ≤ beyond) (hb2 : beyond ≤ 9223372036854775807)
    (ho : (0 ≤ beyond ∧ beyond < plc p ∧ o = plc p + beyond) ∨ (¬ (0 ≤ beyond ∧ beyond < plc p) ∧ o = beyond)) (hT : Tab w) :
    Calls Tryd.prog 7 #[.int .u16 p, .int .i64 beyond] w fun e w' => e = .returned (.bool true) ∧ Below w.heap.size w w' := by
  have HT := Lib.hid hT
  clear hT
  have hn : (if 4096 < p then 4096 else p) = (plc p : Int) := by unfold plc; split <;> omega
  have hn0 : 0 < plc p := by unfold plc; split <;> omega
  have hn4 := plc_le p
  obtain ⟨n, hnn⟩ : ∃ n, n = plc p := ⟨_, rfl⟩
  have HN := Lib.hid hnn
  rw [← hnn] at hn hn0 hn4 ho
  clear hnn
  have hp0 : ((p : Int) == 0) = false := by simp; omega
  have hout : ¬ (0 ≤ o ∧ o < n) := by omega
  have E1 := Lib.hid (new_out hout)
  have E2 := Lib.hid (set_out hout 0)
  have E3 := Lib.hid (clrM_old (hasB_zero o))
  have E4 := Lib.hid (next_last hn0)
  have E5 := Lib.hid (new_last hn0)
  have E6 := Lib.hid (pop_last hn0)
  have E7 := Lib.hid (has_last hn0)
  have E8 := Lib.hid (pop_clr hn0)
  clear hout
  go_enter Tryd.func7, Tryd.ntmps7
  go_wp2_with fail
  refine (awake3_any HT.out).mono ?_
  rintro e w1 ⟨rfl, hB⟩
  have HB := Lib.hid hB
  have HT1 := Lib.hid (HT.out.below hB HT.out.2)
  clear hB
  go_wp2_with fail
  refine (new_any HT1.out p).mono ?_
  rintro e w2 ⟨b, g, rfl, hb, hg, hM, hB⟩
  rw [← HN.out] at hM
  have H0 := Lib.hid hM
  have HB2 := Lib.hid (HB.out.trans (hB.mono HB.out.size))
  have HG := Lib.hid (Nat.le_trans HB.out.size hg)
  clear hM hB hg
  rcases ho with ⟨ho1, ho2, ho⟩ | ⟨ho1, ho⟩
  · have d1 : decide (beyond ≥ 0) = true := decide_eq_true ho1
    have d2 : decide (beyond < (n : Int)) = true := decide_eq_true ho2
    rw [ho] at E1 E2 E3
    clear ho
    go_wp2_with fail
    refine (len_any H0.out).mono ?_
    rintro e w_ ⟨rfl, rfl⟩
    go_wp2_with fail
    refine (set_any H0.out _).mono ?_
    rintro e w3 ⟨rfl, hM, hG⟩
    rw [E2.out] at hM
    rw [E1.out]
    have H1 := Lib.hid hM
    have HB3 := Lib.hid (below_only HB2.out hG HB2.out.size HG.out)
    clear hM hG H0 HB2
    go_wp2_with fail
    refine (has_any H1.out _).mono ?_
    rintro e w_ ⟨rfl, rfl⟩
    rw [hasB_zero]
    go_wp2_with fail
    refine (clear_any H1.out _).mono ?_
    rintro e w4 ⟨rfl, hM, hG⟩
    rw [E3.out] at hM
    rw [hasB_zero]
    have H2 := Lib.hid hM
    have HB4 := Lib.hid (below_only HB3.out hG HB3.out.size HG.out)
    clear hM hG H1 HB3
    go_wp2_with fail
    refine (count_any H2.out).mono ?_
    rintro e w_ ⟨rfl, rfl⟩
    rw [popM_zero]
    go_wp2_with fail
    refine (set_any H2.out _).mono ?_
    rintro e w5 ⟨rfl, hM, hG⟩
    rw [E5.out]
    have H3 := Lib.hid hM
    have HB5 := Lib.hid (below_only HB4.out hG HB4.out.size HG.out)
    clear hM hG H2 HB4
    go_wp2_with fail
    refine (has_any H3.out _).mono ?_
    rintro e w_ ⟨rfl, rfl⟩
    rw [E7.out]
    go_wp2_with fail
    refine (next_any H3.out _).mono ?_
    rintro e w_ ⟨rfl, rfl⟩
    rw [E4.out]
    go_wp2_with fail
    refine (next_any H3.out _).mono ?_
    rintro e w_ ⟨rfl, rfl⟩
    rw [next_end H3.out.lt]
    go_wp2_with fail
    refine (count_any H3.out).mono ?_
    rintro e w_ ⟨rfl, rfl⟩
    rw [E6.out]
    go_wp2_with fail
    refine (clear_any H3.out _).mono ?_
    rintro e w6 ⟨rfl, hM, hG⟩
    rw [E7.out]
    have H4 := Lib.hid hM
    have HB6 := Lib.hid (below_only HB5.out hG HB5.out.size HG.out)
    clear hM hG H3 HB5
    go_wp2_with fail
    refine (count_any H4.out).mono ?_
    rintro e w_ ⟨rfl, rfl⟩
    rw [E8.out]
    go_wp2
    go_ret
    exact ⟨rfl, HB6.out⟩
  · by_cases hb0 : 0 ≤ beyond
    · have d1 : decide (beyond ≥ 0) = true := decide_eq_true hb0
      have d2 : decide (beyond < (n : Int)) = false := decide_eq_false (by omega)
      rw [ho] at E1 E2 E3
      clear ho
      go_wp2_with fail
      refine (len_any H0.out).mono ?_
      rintro e w_ ⟨rfl, rfl⟩
      go_wp2_with fail
      refine (set_any H0.out _).mono ?_
      rintro e w3 ⟨rfl, hM, hG⟩
      rw [E2.out] at hM
      rw [E1.out]
      have H1 := Lib.hid hM
      have HB3 := Lib.hid (below_only HB2.out hG HB2.out.size HG.out)
      clear hM hG H0 HB2
      go_wp2_with fail
      refine (has_any H1.out _).mono ?_
      rintro e w_ ⟨rfl, rfl⟩
      rw [hasB_zero]
      go_wp2_with fail
      refine (clear_any H1.out _).mono ?_
      rintro e w4 ⟨rfl, hM, hG⟩
      rw [E3.out] at hM
      rw [hasB_zero]
      have H2 := Lib.hid hM
      have HB4 := Lib.hid (below_only HB3.out hG HB3.out.size HG.out)
      clear hM hG H1 HB3
      go_wp2_with fail
      refine (count_any H2.out).mono ?_
      rintro e w_ ⟨rfl, rfl⟩
      rw [popM_zero]
      go_wp2_with fail
      refine (set_any H2.out _).mono ?_
      rintro e w5 ⟨rfl, hM, hG⟩
      rw [E5.out]
      have H3 := Lib.hid hM
      have HB5 := Lib.hid (below_only HB4.out hG HB4.out.size HG.out)
      clear hM hG H2 HB4
      go_wp2_with fail
      refine (has_any H3.out _).mono ?_
      rintro e w_ ⟨rfl, rfl⟩
      rw [E7.out]
      go_wp2_with fail
      refine (next_any H3.out _).mono ?_
      rintro e w_ ⟨rfl, rfl⟩
      rw [E4.out]
      go_wp2_with fail
      refine (next_any H3.out _).mono ?_
      rintro e w_ ⟨rfl, rfl⟩
      rw [next_end H3.out.lt]
      go_wp2_with fail
      refine (count_any H3.out).mono ?_
      rintro e w_ ⟨rfl, rfl⟩
      rw [E6.out]
      go_wp2_with fail
      refine (clear_any H3.out _).mono ?_
      rintro e w6 ⟨rfl, hM, hG⟩
      rw [E7.out]
      have H4 := Lib.hid hM
      have HB6 := Lib.hid (below_only HB5.out hG HB5.out.size HG.out)
      clear hM hG H3 HB5
      go_wp2_with fail
      refine (count_any H4.out).mono ?_
      rintro e w_ ⟨rfl, rfl⟩
      rw [E8.out]
      go_wp2
      go_ret
      exact ⟨rfl, HB6.out⟩
    · have d1 : decide (beyond ≥ 0) = false := decide_eq_false hb0
      rw [ho] at E1 E2 E3
      clear ho
      go_wp2_with fail
      refine (len_any H0.out).mono ?_
      rintro e w_ ⟨rfl, rfl⟩
      go_wp2_with fail
      refine (set_any H0.out _).mono ?_
      rintro e w3 ⟨rfl, hM, hG⟩
      rw [E2.out] at hM
      rw [E1.out]
      have H1 := Lib.hid hM
      have HB3 := Lib.hid (below_only HB2.out hG HB2.out.size HG.out)
      clear hM hG H0 HB2
      go_wp2_with fail
      refine (has_any H1.out _).mono ?_
      rintro e w_ ⟨rfl, rfl⟩
      rw [hasB_zero]
      go_wp2_with fail
      refine (clear_any H1.out _).mono ?_
      rintro e w4 ⟨rfl, hM, hG⟩
      rw [E3.out] at hM
      rw [hasB_zero]
      have H2 := Lib.hid hM
      have HB4 := Lib.hid (below_only HB3.out hG HB3.out.size HG.out)
      clear hM hG H1 HB3
      go_wp2_with fail
      refine (count_any H2.out).mono ?_
      rintro e w_ ⟨rfl, rfl⟩
      rw [popM_zero]
      go_wp2_with fail
      refine (set_any H2.out _).mono ?_
      rintro e w5 ⟨rfl, hM, hG⟩
      rw [E5.out]
      have H3 := Lib.hid hM
      have HB5 := Lib.hid (below_only HB4.out hG HB4.out.size HG.out)
      clear hM hG H2 HB4
      go_wp2_with fail
      refine (has_any H3.out _).mono ?_
      rintro e w_ ⟨rfl, rfl⟩
      rw [E7.out]
      go_wp2_with fail
      refine (next_any H3.out _).mono ?_
      rintro e w_ ⟨rfl, rfl⟩
      rw [E4.out]
      go_wp2_with fail
      refine (next_any H3.out _).mono ?_
      rintro e w_ ⟨rfl, rfl⟩
      rw [next_end H3.out.lt]
      go_wp2_with fail
      refine (count_any H3.out).mono ?_
      rintro e w_ ⟨rfl, rfl⟩
      rw [E6.out]
      go_wp2_with fail
      refine (clear_any H3.out _).mono ?_
      rintro e w6 ⟨rfl, hM, hG⟩
      rw [E7.out]
      have H4 := Lib.hid hM
      have HB6 := Lib.hid (below_only HB5.out hG HB5.out.size HG.out)
      clear hM hG H3 HB5
      go_wp2_with fail
      refine (count_any H4.out).mono ?_
      rintro e w_ ⟨rfl, rfl⟩
      rw [E8.out]
      go_wp2
      go_ret
      exact ⟨rfl, HB6.out⟩
theorem bitsEdges_walk (w : World) (p : Int) (wp : (Lit.int .u16 p).wf = true) (b : Int) (wb : (Lit.int .i64 b).wf = true) (hT : Tab w) :
    Calls Tryd.prog 7 #[.int .u16 p, .int .i64 b] w fun e w' => e = .returned (.bool true) ∧ Below w.heap.size w w' := by
  have h1 := wf_u16 wp
  have h2 := wf_i64 wb
  by_cases hp : p = 0
  · subst hp; exact bitsEdges_zero w b hT
  · by_cases hb : 0 ≤ b ∧ b < plc p
    · exact bitsEdges_pos w p (by omega) h1.2 b (plc p + b) h2.1 h2.2 (.inl ⟨hb.1, hb.2, rfl⟩) hT
    · exact bitsEdges_pos w p (by omega) h1.2 b b h2.1 h2.2 (.inr ⟨hb, rfl⟩) hT
end Go.Proofs.YtdfpmgpdkajhkaaDoor
