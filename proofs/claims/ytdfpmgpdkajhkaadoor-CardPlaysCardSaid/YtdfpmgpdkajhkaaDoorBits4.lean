/-
  Contracts of package bits: TrailingZeros64, Next, Between, Count. Premises in each theorem.
-/
import Derived.Test.YtdfpmgpdkajhkaaDoorBits3
import Derived.ScopeJumps
import Derived.WalkMore
import Derived.Outline
import Derived.Deep.Cut
namespace Go.Proofs.YtdfpmgpdkajhkaaDoor
open Go.RowKit
set_option maxHeartbeats 400000 in
theorem tz_core (x k idx : Nat) (w : World) (hx0 : ((x : Int) == 0) = false)
    (key : IntKind.u64.wrap (bits BinOp.and IntKind.u64 (x : Int) (IntKind.u64.wrap (-(x : Int))) * 285870213051353865) / 288230376151711744 = (idx : Int))
    (hi : idx < 64) (hk : k < 64) (hcell : w.cell? ⟨0, idx, none⟩ = some (.int .u8 k)) :
    Calls Tryd.prog 65 #[.int .u64 x] w fun e w' => e = .returned (.int .i64 k) ∧ w = w' := by
  go_enter Tryd.func65, Tryd.ntmps65
  go_wp2_with (simp only [key])
  go_ret
  exact ⟨rfl, rfl⟩
/-- math/bits.TrailingZeros64, where a bit is set. -/
theorem tz_any {w : World} (hT : Tab w) (x : Nat) (hx : x < 18446744073709551616) (h0 : x ≠ 0) : Calls Tryd.prog 65 #[.int .u64 x] w fun e w' => e = .returned (.int .i64 (Lib.ctz 64 x)) ∧ w = w' := by
  obtain ⟨hlow, hk⟩ := Lib.lowest_bit 64 x h0 hx
  obtain ⟨hi, htab⟩ := Lib.deBruijn64_at _ hk
  have hcell := hT.1 _ hi
  rw [htab] at hcell
  exact tz_core x _ _ w (by simp; omega) (tz64_key x _ hx h0 hlow) hi hk hcell
theorem ctz_bits (x : Nat) (h0 : x ≠ 0) (hx : x < 2 ^ 64) : x.testBit (Lib.ctz 64 x) = true ∧ ∀ i, i < Lib.ctz 64 x → x.testBit i = false := by
  obtain ⟨m, hm, hk⟩ := Lib.ctzFrom_spec 64 x (by omega) hx
  have e : Lib.ctz 64 x = Lib.ctzFrom 64 x := by unfold Lib.ctz; rw [if_neg h0]
  rw [e]
  generalize Lib.ctzFrom 64 x = k at hm
  subst hm
  constructor
  · rw [Nat.mul_comm, Nat.testBit_mul_two_pow]; simp [Nat.testBit_zero]
  · intro i hi
    rw [Nat.mul_comm, Nat.testBit_mul_two_pow]; simp; omega
theorem low_bit (M m j : Nat) : (wd M (m / 64) / 2 ^ (m % 64)).testBit j = (decide (m % 64 + j < 64) && M.testBit (m + j)) := by
  rw [Nat.testBit_div_two_pow, wd_testBit]
  have e : 64 * (m / 64) + (j + m % 64) = m + j := by omega
  have e2 : j + m % 64 = m % 64 + j := by omega
  rw [e, e2]
theorem next_skip64 {n M : Nat} (hM : M < 2 ^ n) (m : Nat) (hu : wd M (m / 64) / 2 ^ (m % 64) = 0) : nextM n M m = nextM n M (((m / 64 + 1) * 64 : Nat) : Int) := by
  refine nextM_skip hM (by omega) fun i h1 h2 => ?_
  obtain ⟨j, rfl⟩ : ∃ j, i = m + j := ⟨i - m, by omega⟩
  have := low_bit M m j
  rw [hu, Nat.zero_testBit] at this
  have h3 : m % 64 + j < 64 := by omega
  simpa [h3] using this.symm
theorem next_here {n M : Nat} (hM : M < 2 ^ n) (m : Nat) (hu : wd M (m / 64) / 2 ^ (m % 64) ≠ 0) : nextM n M m = ((m + Lib.ctz 64 (wd M (m / 64) / 2 ^ (m % 64)) : Nat) : Int) := by
  have hlt : wd M (m / 64) / 2 ^ (m % 64) < 2 ^ 64 := Nat.lt_of_le_of_lt (Nat.div_le_self _ _) (wd_lt M _)
  obtain ⟨h1, h2⟩ := ctz_bits _ hu hlt
  rw [low_bit] at h1
  simp only [Bool.and_eq_true] at h1
  refine nextM_eq (by omega) hM h1.2 fun i i1 i2 => ?_
  obtain ⟨j, rfl⟩ : ∃ j, i = m + j := ⟨i - m, by omega⟩
  have := h2 j (by omega)
  rw [low_bit] at this
  have h3 : m % 64 + j < 64 := by have := h1.1; simp at this; omega
  simpa [h3] using this
theorem ctz_lt (x : Nat) (h0 : x ≠ 0) (hx : x < 2 ^ 64) : Lib.ctz 64 x < 64 := (Lib.lowest_bit 64 x h0 hx).2
theorem next_out {n M : Nat} (hM : M < 2 ^ n) (m : Nat) (h : n ≤ m) : nextM n M m = -1 := nextM_none hM fun i hi => bit_ge hM (by omega)
set_option maxRecDepth 100000 in
set_option maxHeartbeats 2000000 in
/-- Next, from every place. -/
theorem next_any {w : World} {b g n M : Nat} (h : BM w b g n M) (x : Int) : Calls Tryd.prog 33 #[.pointer (some ⟨b, 0, none⟩), .int .i64 x] w fun e w' => e = .returned (.int .i64 (nextM n M x)) ∧ w = w' := by
  obtain ⟨m0, hm0⟩ : ∃ m0 : Nat, (if x < 0 then 0 else x) = (m0 : Int) := ⟨x.toNat, by split <;> omega⟩
  have HS : Hid (nextM n M (m0 : Int) = nextM n M x) := by
    show nextM n M (m0 : Int) = nextM n M x
    by_cases hx : x < 0
    · rw [if_pos hx] at hm0; rw [← hm0, nextM_neg x (by omega)]
    · rw [if_neg hx] at hm0; rw [hm0]
  go_enter Tryd.func33, Tryd.ntmps33
  go_wp2
  refine wp_scope_jumps 0 (fun a' w' => w = w' ∧ ∃ (m : Nat) (u5 u6 u7 u8 u9 u10 u11 u12 u13 u14 u15 u16 u17 u18 u19 u20 u21 u22 u23 u24 u25 u26 u27 u28 u29 u30 u31 u32 : Value), a' = { tmps := #[.pointer (some ⟨b, 0, none⟩), .int .i64 (m : Nat), undef, undef, .int .i64 0, u5, u6, u7, u8, u9, u10, u11, u12, u13, u14, u15, u16, u17, u18, u19, u20, u21, u22, u23, u24, u25, u26, u27, u28, u29, u30, u31, u32], defers := [] } ∧ Hid (nextM n M m = nextM n M x) ∧ m < n + 64) (fun a' _ => 5000 - (intOf (a'.tmps.getD 1 undef)).toNat) rfl ?_ ?_
  · go_upto_region 2 with (fail)
    go_step3
    clear hm0
    by_cases hmn : m0 < n
    · have e : decide (0 ≤ (m0 : Int) ∧ (m0 : Int) < n) = true := decide_eq_true (by omega)
      have hw := h.word (i := m0 / 64) (by omega)
      have c0 := h.cell0
      have c1 := h.cell1
      have hle := h.le
      have hT := Lib.hid h.tab
      obtain ⟨L, hL'⟩ : ∃ L, L = (n + 63) / 64 := ⟨_, rfl⟩
      have hL : m0 / 64 < L := by omega
      rw [← hL'] at c0
      clear hL'
      have hlt := h.lt
      have hwl := wd_lt M (m0 / 64)
      by_cases hu : wd M (m0 / 64) / 2 ^ (m0 % 64) = 0
      · have hz : (((wd M (m0 / 64) : Nat) : Int) / 2 ^ (m0 % 64) != 0) = false := by
          rw [show (((wd M (m0 / 64) : Nat) : Int) / 2 ^ (m0 % 64)) = ((wd M (m0 / 64) / 2 ^ (m0 % 64) : Nat) : Int) by simp, hu]; rfl
        have HN := Lib.hid (next_skip64 hlt m0 hu)
        clear hu hlt h hwl
        generalize wd M (m0 / 64) = u at hw hz
        go_wp2_with (go_at_call 64; refine (there_at _ b n m0 c1).mono ?_; rintro e w' ⟨rfl, rfl⟩; rw [e])
        go_step3
        have e1 : (((m0 : Nat) : Int) / 64 + 1) * 64 = (((m0 / 64 + 1) * 64 : Nat) : Int) := by omega
        rw [e1]
        exact ⟨rfl, ⟨rfl, (m0 / 64 + 1) * 64, _, _, _, _, _, _, _, _, _, _, _, _, _, _, _, _, _, _, _, _, _, _, _, _, _, _, _, _, rfl, Lib.hid (HN.out.symm.trans HS.out), by omega⟩⟩
      · have hz : (((wd M (m0 / 64) : Nat) : Int) / 2 ^ (m0 % 64) != 0) = true := by
          rw [show (((wd M (m0 / 64) : Nat) : Int) / 2 ^ (m0 % 64)) = ((wd M (m0 / 64) / 2 ^ (m0 % 64) : Nat) : Int) by simp]
          simp only [bne_iff_ne]; omega
        have HN := Lib.hid (HS.out.symm.trans (next_here hlt m0 hu))
        have hu' : wd M (m0 / 64) / 2 ^ (m0 % 64) < 18446744073709551616 := Nat.lt_of_le_of_lt (Nat.div_le_self _ _) hwl
        have HU := Lib.hid hu
        have hc := ctz_lt _ hu hu'
        have HU' := Lib.hid hu'
        clear hu hlt h hwl hu'
        generalize wd M (m0 / 64) = u at hw hz HN HU HU' hc
        obtain ⟨c, hcc⟩ : ∃ c, c = Lib.ctz 64 (u / 2 ^ (m0 % 64)) := ⟨_, rfl⟩
        have HC := Lib.hid hcc
        rw [← hcc] at hc
        clear hcc
        go_wp2_with (first | (go_at_call 64; refine (there_at _ b n m0 c1).mono ?_; rintro e w' ⟨rfl, rfl⟩; rw [e]) | (go_at_call 65; (rw [show ((u : Int) / 2 ^ (m0 % 64)) = ((u / 2 ^ (m0 % 64) : Nat) : Int) by simp]); refine (tz_any hT.out _ HU'.out HU.out).mono ?_; rintro e w' ⟨rfl, rfl⟩; rw [← HC.out]))
        try simp only [Exit.jump]
        go_ret
        exact ⟨by rw [HN.out, ← HC.out]; rfl, rfl⟩
    · have e : decide (0 ≤ (m0 : Int) ∧ (m0 : Int) < n) = false := decide_eq_false (by omega)
      have c1 := h.cell1
      have HN := Lib.hid (HS.out.symm.trans (next_out h.lt m0 (by omega)))
      clear h
      go_wp2_with (go_at_call 64; refine (there_at _ b n m0 c1).mono ?_; rintro e w' ⟨rfl, rfl⟩; rw [e])
      try simp only [Exit.jump]
      go_ret
      exact ⟨by rw [HN.out]; rfl, rfl⟩
  · rintro a' w' ⟨rfl, m, u5, u6, u7, u8, u9, u10, u11, u12, u13, u14, u15, u16, u17, u18, u19, u20, u21, u22, u23, u24, u25, u26, u27, u28, u29, u30, u31, u32, rfl, HS', hm⟩
    clear hm0 HS
    have HS := Lib.hid HS'.out
    clear HS'
    by_cases hmn : m < n
    · have e : decide (0 ≤ (m : Int) ∧ (m : Int) < n) = true := decide_eq_true (by omega)
      have hw := h.word (i := m / 64) (by omega)
      have c0 := h.cell0
      have c1 := h.cell1
      have hle := h.le
      have hT := Lib.hid h.tab
      obtain ⟨L, hL'⟩ : ∃ L, L = (n + 63) / 64 := ⟨_, rfl⟩
      have hL : m / 64 < L := by omega
      rw [← hL'] at c0
      clear hL'
      have hlt := h.lt
      have hwl := wd_lt M (m / 64)
      by_cases hu : wd M (m / 64) / 2 ^ (m % 64) = 0
      · have hz : (((wd M (m / 64) : Nat) : Int) / 2 ^ (m % 64) != 0) = false := by
          rw [show (((wd M (m / 64) : Nat) : Int) / 2 ^ (m % 64)) = ((wd M (m / 64) / 2 ^ (m % 64) : Nat) : Int) by simp, hu]; rfl
        have HN := Lib.hid (next_skip64 hlt m hu)
        clear hu hlt h hwl
        generalize wd M (m / 64) = u at hw hz
        go_wp2_with (go_at_call 64; refine (there_at _ b n m c1).mono ?_; rintro e w' ⟨rfl, rfl⟩; rw [e])
        go_step3
        have e1 : (((m : Nat) : Int) / 64 + 1) * 64 = (((m / 64 + 1) * 64 : Nat) : Int) := by omega
        rw [e1]
        exact ⟨rfl, ⟨rfl, (m / 64 + 1) * 64, _, _, _, _, _, _, _, _, _, _, _, _, _, _, _, _, _, _, _, _, _, _, _, _, _, _, _, _, rfl, Lib.hid (HN.out.symm.trans HS.out), by omega⟩, by simp [intOf]; omega⟩
      · have hz : (((wd M (m / 64) : Nat) : Int) / 2 ^ (m % 64) != 0) = true := by
          rw [show (((wd M (m / 64) : Nat) : Int) / 2 ^ (m % 64)) = ((wd M (m / 64) / 2 ^ (m % 64) : Nat) : Int) by simp]
          simp only [bne_iff_ne]; omega
        have HN := Lib.hid (HS.out.symm.trans (next_here hlt m hu))
        have hu' : wd M (m / 64) / 2 ^ (m % 64) < 18446744073709551616 := Nat.lt_of_le_of_lt (Nat.div_le_self _ _) hwl
        have HU := Lib.hid hu
        have hc := ctz_lt _ hu hu'
        have HU' := Lib.hid hu'
        clear hu hlt h hwl hu'
        generalize wd M (m / 64) = u at hw hz HN HU HU' hc
        obtain ⟨c, hcc⟩ : ∃ c, c = Lib.ctz 64 (u / 2 ^ (m % 64)) := ⟨_, rfl⟩
        have HC := Lib.hid hcc
        rw [← hcc] at hc
        clear hcc
        go_wp2_with (first | (go_at_call 64; refine (there_at _ b n m c1).mono ?_; rintro e w' ⟨rfl, rfl⟩; rw [e]) | (go_at_call 65; (rw [show ((u : Int) / 2 ^ (m % 64)) = ((u / 2 ^ (m % 64) : Nat) : Int) by simp]); refine (tz_any hT.out _ HU'.out HU.out).mono ?_; rintro e w' ⟨rfl, rfl⟩; rw [← HC.out]))
        try simp only [Exit.jump]
        go_ret
        exact ⟨by rw [HN.out, ← HC.out]; rfl, rfl⟩
    · have e : decide (0 ≤ (m : Int) ∧ (m : Int) < n) = false := decide_eq_false (by omega)
      have c1 := h.cell1
      have HN := Lib.hid (HS.out.symm.trans (next_out h.lt m (by omega)))
      clear h
      go_wp2_with (go_at_call 64; refine (there_at _ b n m c1).mono ?_; rintro e w' ⟨rfl, rfl⟩; rw [e])
      try simp only [Exit.jump]
      go_ret
      exact ⟨by rw [HN.out]; rfl, rfl⟩
end Go.Proofs.YtdfpmgpdkajhkaaDoor
