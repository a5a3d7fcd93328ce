/-
  The contracts of package head's functions and of the reference gleaningref04's: what each returns for all arguments (case by case), memory below the heap's old size unchanged. The cases' premises stand in each theorem.
-/
import Derived.Test.YtlhbfeddgopfjaaRows
import Derived.WalkKit
import Derived.WalkSpells
import Derived.WalkLawsBesides
import Derived.Test.YtlhbfeddgopfjaaBlk
namespace Go.Proofs.Ytlhbfeddgopfjaa
open Go.RowKit

/-- From 0 on, below another one. -/
def wn (n e : Int) : Bool := decide (0 ≤ n ∧ n < e)
theorem wn_yes {n e : Int} (h : 0 ≤ n) (k : n < e) : wn n e = true := decide_eq_true ⟨h, k⟩
theorem wn_no {n e : Int} (h : ¬ (0 ≤ n ∧ n < e)) : wn n e = false := decide_eq_false h
theorem wn_true {n e : Int} (h : wn n e = true) : 0 ≤ n ∧ n < e := of_decide_eq_true h
/-- Can a head be? -/
def hr (c a f : Int) (i d : Bool) : Bool := wn c 64 && wn a 8 && wn f 4096 && !(i && d)
set_option maxHeartbeats 400000 in
theorem within_any (n e : Int) (w : World) :
    Calls Try.prog 56 #[.int .i64 n, .int .i64 e] w fun x w' => x = .returned (.bool (wn n e)) ∧ w = w' := by
  by_cases h : 0 ≤ n
  · by_cases k : n < e
    all_goals
      go_enter Try.func56, Try.ntmps56
      go_wp2
      go_ret
      exact ⟨ret_bool' (by unfold wn; simp [h]; try omega), rfl⟩
  · have r := (wn_no (n := n) (e := e) (by omega)).symm
    have dd : decide (0 ≤ n) = false := decide_eq_false h
    clear h
    have R := Lib.hid r
    clear r
    go_enter Try.func56, Try.ntmps56
    go_wp2
    go_ret
    exact ⟨ret_bool' R.out, rfl⟩
set_option maxHeartbeats 1000000 in
theorem hright_any (c a f : Int) (m i d : Bool) (w : World) :
    Calls Try.prog 40 #[.agg #[.int .i64 c, .int .i64 a, .int .i64 f, .bool m, .bool i, .bool d]] w fun x w' => x = .returned (.bool (hr c a f i d)) ∧ Below w.heap.size w w' := by
  cases h1 : wn c 64 <;> cases h2 : wn a 8 <;> cases h3 : wn f 4096 <;> cases i
  all_goals
    go_enter Try.func40, Try.ntmps40
    go_wp2_with (go_at_call 56; refine (within_any _ _ _).mono ?_; rintro e w1 ⟨rfl, rfl⟩)
    go_ret
    exact ⟨ret_bool' (by unfold hr; rw [h1, h2, h3]; simp), (by repeat (first | exact Below.refl _ _ | refine Below.drew ?_ | refine Below.alloc ?_ (by first | exact Nat.le_refl _ | (simp; done) | (simp; omega) | omega) _ | refine Below.setCell ?_ (by first | (simp; done) | (simp; omega) | omega) _ | (apply bstep; rotate_left; assumption; (first | exact Nat.le_refl _ | (focus (simp; done)) | (focus (simp; omega)) | omega))))⟩
set_option maxHeartbeats 2000000 in
theorem rhright_any (c a f : Int) (m i d : Bool) (w : World) :
    Calls Try.prog 39 #[.agg #[.int .i64 c, .int .i64 a, .int .i64 f, .bool m, .bool i, .bool d]] w fun x w' => x = .returned (.bool (hr c a f i d)) ∧ Below w.heap.size w w' := by
  have fin : ∀ x W, x = hr c a f i d → W = w.alloc (.cells #[.int .i64 c, .int .i64 a, .int .i64 f, .bool m, .bool i, .bool d] 41) → (Ending.returned (.bool x) = .returned (.bool (hr c a f i d)) ∧ Below w.heap.size w W) :=
    fun x W h k => ⟨ret_bool' h, k ▸ (Below.refl _ _).alloc (Nat.le_refl _) _⟩
  by_cases h0 : 0 ≤ c
  rotate_left
  · have k : false = hr c a f i d := by
      unfold hr; rw [wn_no (n := c) (e := 64) (by omega)]; simp
    have dd : decide (0 ≤ c) = false := decide_eq_false h0
    clear h0
    have K := Lib.hid k
    clear k
    go_enter Try.func39, Try.ntmps39
    go_wp2
    go_ret
    exact fin _ _ K.out rfl
  by_cases h1 : c ≤ 63
  rotate_left
  · have k : false = hr c a f i d := by
      unfold hr; rw [wn_no (n := c) (e := 64) (by omega)]; simp
    have dd : decide (c ≤ 63) = false := decide_eq_false h1
    clear h1
    have K := Lib.hid k
    clear k
    go_enter Try.func39, Try.ntmps39
    go_wp2
    go_ret
    exact fin _ _ K.out rfl
  by_cases h2 : 0 ≤ a
  rotate_left
  · have k : false = hr c a f i d := by
      unfold hr; rw [wn_no (n := a) (e := 8) (by omega)]; simp
    have dd : decide (0 ≤ a) = false := decide_eq_false h2
    clear h2
    have K := Lib.hid k
    clear k
    go_enter Try.func39, Try.ntmps39
    go_wp2
    go_ret
    exact fin _ _ K.out rfl
  by_cases h3 : a ≤ 7
  rotate_left
  · have k : false = hr c a f i d := by
      unfold hr; rw [wn_no (n := a) (e := 8) (by omega)]; simp
    have dd : decide (a ≤ 7) = false := decide_eq_false h3
    clear h3
    have K := Lib.hid k
    clear k
    go_enter Try.func39, Try.ntmps39
    go_wp2
    go_ret
    exact fin _ _ K.out rfl
  by_cases h4 : 0 ≤ f
  rotate_left
  · have k : false = hr c a f i d := by
      unfold hr; rw [wn_no (n := f) (e := 4096) (by omega)]; simp
    have dd : decide (0 ≤ f) = false := decide_eq_false h4
    clear h4
    have K := Lib.hid k
    clear k
    go_enter Try.func39, Try.ntmps39
    go_wp2
    go_ret
    exact fin _ _ K.out rfl
  by_cases h5 : f ≤ 4095
  rotate_left
  · have k : false = hr c a f i d := by
      unfold hr; rw [wn_no (n := f) (e := 4096) (by omega)]; simp
    have dd : decide (f ≤ 4095) = false := decide_eq_false h5
    clear h5
    have K := Lib.hid k
    clear k
    go_enter Try.func39, Try.ntmps39
    go_wp2
    go_ret
    exact fin _ _ K.out rfl
  have k1 := wn_yes h0 (show c < 64 by omega)
  have k2 := wn_yes h2 (show a < 8 by omega)
  have k3 := wn_yes h4 (show f < 4096 by omega)
  have k : (!(i && d)) = hr c a f i d := by unfold hr; rw [k1, k2, k3]; simp
  clear k1 k2 k3
  have K := Lib.hid k
  clear k
  cases i <;> cases d
  all_goals
    go_enter Try.func39, Try.ntmps39
    go_wp2
    go_ret
    exact fin _ _ K.out rfl
/-- A bit, if it is set. -/
def bt' (b : Bool) (n : Int) : Int := if b then n else 0
set_option maxHeartbeats 400000 in
theorem bit_any (b : Bool) (k n : Int) (h : k = 10 ∧ n = 1024 ∨ k = 11 ∧ n = 2048 ∨ k = 12 ∧ n = 4096) (w : World) :
    Calls Try.prog 55 #[.bool b, .int .i64 k] w fun x w' => x = .returned (.int .i64 (bt' b n)) ∧ w = w' := by
  rcases h with ⟨rfl, rfl⟩ | ⟨rfl, rfl⟩ | ⟨rfl, rfl⟩ <;> cases b
  all_goals
    go_enter Try.func55, Try.ntmps55
    go_wp2
    go_ret
    exact ⟨ret_int' (by decide), rfl⟩
end Go.Proofs.Ytlhbfeddgopfjaa
