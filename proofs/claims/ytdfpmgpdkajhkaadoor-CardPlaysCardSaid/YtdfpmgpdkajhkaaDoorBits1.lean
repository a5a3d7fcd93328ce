/-
  Contracts of package bits' functions that only read: Len, there, Has, for a nil map and for a map whose fields lie in block b and whose words lie in block g. Premises in each theorem.
-/
import Derived.Test.YtdfpmgpdkajhkaaDoorBlk
import Derived.Test.YtdfpmgpdkajhkaaDoorChecked
import Derived.WalkSpells
import Derived.Laws.BitsAllLaws
import Derived.WalkLawsBesides
namespace Go.Proofs.YtdfpmgpdkajhkaaDoor
open Go.RowKit
set_option maxHeartbeats 400000 in
theorem len_nil (w : World) : Calls Tryd.prog 37 #[.pointer none] w fun e w' => e = .returned (.int .i64 0) ∧ w = w' := by
  go_enter Tryd.func37, Tryd.ntmps37
  go_wp2
  go_ret
  exact ⟨rfl, rfl⟩
set_option maxHeartbeats 400000 in
theorem len_at (w : World) (b : Nat) (n : Int) (h : w.cell? ⟨b, 1, none⟩ = some (.int .i64 n)) : Calls Tryd.prog 37 #[.pointer (some ⟨b, 0, none⟩)] w fun e w' => e = .returned (.int .i64 n) ∧ w = w' := by
  go_enter Tryd.func37, Tryd.ntmps37
  go_wp2
  go_ret
  exact ⟨rfl, rfl⟩
set_option maxHeartbeats 400000 in
theorem there_nil (w : World) (x : Int) : Calls Tryd.prog 64 #[.pointer none, .int .i64 x] w fun e w' => e = .returned (.bool false) ∧ w = w' := by
  go_enter Tryd.func64, Tryd.ntmps64
  by_cases h : x ≥ 0
  · have h2 : decide (x < 0) = false := decide_eq_false (by omega)
    go_wp2_with (go_at_call 37; refine (len_nil _).mono ?_; rintro e w' ⟨rfl, rfl⟩)
    go_ret
    exact ⟨by simp [*], rfl⟩
  · go_wp2
    go_ret
    exact ⟨by simp [*], rfl⟩
set_option maxHeartbeats 400000 in
theorem there_at (w : World) (b : Nat) (n x : Int) (h : w.cell? ⟨b, 1, none⟩ = some (.int .i64 n)) : Calls Tryd.prog 64 #[.pointer (some ⟨b, 0, none⟩), .int .i64 x] w fun e w' => e = .returned (.bool (decide (0 ≤ x ∧ x < n))) ∧ w = w' := by
  go_enter Tryd.func64, Tryd.ntmps64
  by_cases h0 : x ≥ 0
  · go_wp2_with (go_at_call 37; refine (len_at _ b n h).mono ?_; rintro e w' ⟨rfl, rfl⟩)
    go_ret
    exact ⟨by simp [*], rfl⟩
  · go_wp2
    go_ret
    exact ⟨by simp [*] <;> omega, rfl⟩
set_option maxHeartbeats 400000 in
theorem has_no (w : World) (b : Nat) (n x : Int) (h : w.cell? ⟨b, 1, none⟩ = some (.int .i64 n)) (hx : ¬ (0 ≤ x ∧ x < n)) : Calls Tryd.prog 34 #[.pointer (some ⟨b, 0, none⟩), .int .i64 x] w fun e w' => e = .returned (.bool false) ∧ w = w' := by
  have e := decide_eq_false hx
  go_enter Tryd.func34, Tryd.ntmps34
  go_wp2_with (go_at_call 64; refine (there_at _ b n x h).mono ?_; rintro e w' ⟨rfl, rfl⟩; try rw [decide_eq_false hx])
  go_ret
  exact ⟨rfl, rfl⟩
set_option maxHeartbeats 400000 in
theorem has_at (w : World) (b g L : Nat) (n : Int) (k u : Nat) (h0 : w.cell? ⟨b, 0, none⟩ = some (.slice (some ⟨g, 0, none⟩) L L)) (h : w.cell? ⟨b, 1, none⟩ = some (.int .i64 n)) (hk : (k : Int) < n) (hn : n ≤ 4096) (hL : k / 64 < L)
    (hu : w.cell? ⟨g, k / 64, none⟩ = some (.int .u64 u)) (hu2 : u < 18446744073709551616) : Calls Tryd.prog 34 #[.pointer (some ⟨b, 0, none⟩), .int .i64 (k : Nat)] w fun e w' => e = .returned (.bool (u.testBit (k % 64))) ∧ w = w' := by
  have e : decide (0 ≤ (k : Int) ∧ (k : Int) < n) = true := decide_eq_true (by omega)
  go_enter Tryd.func34, Tryd.ntmps34
  go_wp2_with (go_at_call 64; refine (there_at _ b n k h).mono ?_; rintro e w' ⟨rfl, rfl⟩; try rw [e])
  go_ret
  have q : (bits BinOp.and IntKind.u64 ((u : Int) / 2 ^ (k % 64)) 1 == 1) = u.testBit (k % 64) := by
    have e1 : ((u : Int) / 2 ^ (k % 64)) = ((u / 2 ^ (k % 64) : Nat) : Int) := by simp
    have e2 := u64_and_nat (a := u / 2 ^ (k % 64)) (b := 1) (Nat.lt_of_le_of_lt (Nat.div_le_self _ _) hu2) (by omega)
    rw [e1]
    rw [show bits BinOp.and IntKind.u64 ((u / 2 ^ (k % 64) : Nat) : Int) 1 = _ from e2]
    rw [Nat.testBit, Nat.shiftRight_eq_div_pow]
    rw [Nat.and_one_is_mod, Nat.and_comm, Nat.and_one_is_mod]
    rcases Nat.mod_two_eq_zero_or_one (u / 2 ^ (k % 64)) with h | h <;> rw [h] <;> rfl
  exact ⟨congrArg (fun v => Ending.returned (.bool v)) q, rfl⟩
end Go.Proofs.YtdfpmgpdkajhkaaDoor
