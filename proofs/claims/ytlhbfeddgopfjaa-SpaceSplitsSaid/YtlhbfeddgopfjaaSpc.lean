/-
  The contracts of package space's functions New, Right, Used, Room, Take, Has, Empty and of the law's own awake: what each returns for all int arguments (case by case), memory below the heap's old size unchanged. The cases' premises stand in each theorem.
-/
import Derived.Test.YtlhbfeddgopfjaaRows
import Derived.WalkKit
import Derived.WalkSpells
import Derived.WalkLawsBesides
import Derived.Lib.Hide
import Derived.Test.YtlhbfeddgopfjaaBlk
import Derived.Deep.QuietTactic
import Derived.BigQuiet
namespace Go.Proofs.Ytlhbfeddgopfjaa
open Go.RowKit
/-- Can a space be? -/
def rt (a b c : Int) : Bool := decide (0 ≤ a ∧ a ≤ b ∧ b ≤ c ∧ c ≤ 4096)
theorem rt_yes {a b c : Int} (h0 : 0 ≤ a) (h1 : a ≤ b) (h2 : b ≤ c) (h3 : c ≤ 4096) : rt a b c = true := decide_eq_true ⟨h0, h1, h2, h3⟩
theorem rt_no {a b c : Int} (h : ¬ (0 ≤ a ∧ a ≤ b ∧ b ≤ c ∧ c ≤ 4096)) : rt a b c = false := decide_eq_false h
theorem rt_true {a b c : Int} (h : rt a b c = true) : 0 ≤ a ∧ a ≤ b ∧ b ≤ c ∧ c ≤ 4096 := of_decide_eq_true h
theorem rt_false {a b c : Int} (h : rt a b c = false) : ¬ (0 ≤ a ∧ a ≤ b ∧ b ≤ c ∧ c ≤ 4096) := of_decide_eq_false h
set_option maxHeartbeats 400000 in
theorem right_any (a b c : Int) (w : World) :
    Calls Try.prog 48 #[.agg #[.int .i64 a, .int .i64 b, .int .i64 c]] w fun e w' => e = .returned (.bool (rt a b c)) ∧ Below w.heap.size w w' := by
  have fin : ∀ x, x = rt a b c → (Ending.returned (.bool x) = .returned (.bool (rt a b c)) ∧ Below w.heap.size w (w.alloc (.cells #[.int .i64 a, .int .i64 b, .int .i64 c] 31))) :=
    fun x h => ⟨ret_bool' h, (Below.refl _ _).alloc (Nat.le_refl _) _⟩
  by_cases h0 : 0 ≤ a
  · by_cases h1 : a ≤ b
    · by_cases h2 : b ≤ c
      · have k : decide (c ≤ 4096) = rt a b c := by unfold rt; simp [h0, h1, h2]
        have K := Lib.hid k
        clear k
        go_enter Try.func48, Try.ntmps48
        go_wp2
        go_ret
        exact fin _ K.out
      · have k := (rt_no (a := a) (b := b) (c := c) (by omega)).symm
        have d : decide (b ≤ c) = false := decide_eq_false h2
        clear h2
        have K := Lib.hid k
        clear k
        go_enter Try.func48, Try.ntmps48
        go_wp2
        go_ret
        exact fin _ K.out
    · have k := (rt_no (a := a) (b := b) (c := c) (by omega)).symm
      have d : decide (a ≤ b) = false := decide_eq_false h1
      clear h1
      have K := Lib.hid k
      clear k
      go_enter Try.func48, Try.ntmps48
      go_wp2
      go_ret
      exact fin _ K.out
  · have k := (rt_no (a := a) (b := b) (c := c) (by omega)).symm
    have d : decide (0 ≤ a) = false := decide_eq_false h0
    clear h0
    have K := Lib.hid k
    clear k
    go_enter Try.func48, Try.ntmps48
    go_wp2
    go_ret
    exact fin _ K.out
/-- The words that are left. -/
def rm (a b c : Int) : Int := if rt a b c then c - b else 0
/-- The words that were taken. -/
def us (a b c : Int) : Int := if rt a b c then b - a else 0
set_option maxHeartbeats 400000 in
theorem room_any (a b c : Int) (w : World) :
    Calls Try.prog 35 #[.agg #[.int .i64 a, .int .i64 b, .int .i64 c]] w fun e w' => e = .returned (.int .i64 (rm a b c)) ∧ Below w.heap.size w w' := by
  cases h : rt a b c
  · have k : 0 = rm a b c := by unfold rm; simp [h]
    have K := Lib.hid k
    clear k
    go_enter Try.func35, Try.ntmps35
    go_wp2_with (go_at_call 48; refine (right_any _ _ _ _).mono ?_; rintro e w1 ⟨rfl, hb⟩; obtain ⟨hc, hf⟩ := bcell hb; have hz := hb.size; try simp at hz)
    go_ret
    exact ⟨ret_int' K.out, (by repeat (first | exact Below.refl _ _ | refine Below.drew ?_ | refine Below.alloc ?_ (by first | exact Nat.le_refl _ | (simp; done) | (simp; omega) | omega) _ | refine Below.setCell ?_ (by first | (simp; done) | (simp; omega) | omega) _ | (apply bstep; rotate_left; assumption; (first | exact Nat.le_refl _ | (focus (simp; done)) | (focus (simp; omega)) | omega))))⟩
  · have k : c - b = rm a b c := by unfold rm; simp [h]
    have K := Lib.hid k
    clear k
    obtain ⟨g1, g2, g3, g4⟩ := rt_true h
    go_enter Try.func35, Try.ntmps35
    go_wp2_with (go_at_call 48; refine (right_any _ _ _ _).mono ?_; rintro e w1 ⟨rfl, hb⟩; obtain ⟨hc, hf⟩ := bcell hb; have hz := hb.size; try simp at hz)
    go_ret
    exact ⟨ret_int' K.out, (by repeat (first | exact Below.refl _ _ | refine Below.drew ?_ | refine Below.alloc ?_ (by first | exact Nat.le_refl _ | (simp; done) | (simp; omega) | omega) _ | refine Below.setCell ?_ (by first | (simp; done) | (simp; omega) | omega) _ | (apply bstep; rotate_left; assumption; (first | exact Nat.le_refl _ | (focus (simp; done)) | (focus (simp; omega)) | omega))))⟩
set_option maxHeartbeats 400000 in
theorem used_any (a b c : Int) (w : World) :
    Calls Try.prog 36 #[.agg #[.int .i64 a, .int .i64 b, .int .i64 c]] w fun e w' => e = .returned (.int .i64 (us a b c)) ∧ Below w.heap.size w w' := by
  cases h : rt a b c
  · have k : 0 = us a b c := by unfold us; simp [h]
    have K := Lib.hid k
    clear k
    go_enter Try.func36, Try.ntmps36
    go_wp2_with (go_at_call 48; refine (right_any _ _ _ _).mono ?_; rintro e w1 ⟨rfl, hb⟩; obtain ⟨hc, hf⟩ := bcell hb; have hz := hb.size; try simp at hz)
    go_ret
    exact ⟨ret_int' K.out, (by repeat (first | exact Below.refl _ _ | refine Below.drew ?_ | refine Below.alloc ?_ (by first | exact Nat.le_refl _ | (simp; done) | (simp; omega) | omega) _ | refine Below.setCell ?_ (by first | (simp; done) | (simp; omega) | omega) _ | (apply bstep; rotate_left; assumption; (first | exact Nat.le_refl _ | (focus (simp; done)) | (focus (simp; omega)) | omega))))⟩
  · have k : b - a = us a b c := by unfold us; simp [h]
    have K := Lib.hid k
    clear k
    obtain ⟨g1, g2, g3, g4⟩ := rt_true h
    go_enter Try.func36, Try.ntmps36
    go_wp2_with (go_at_call 48; refine (right_any _ _ _ _).mono ?_; rintro e w1 ⟨rfl, hb⟩; obtain ⟨hc, hf⟩ := bcell hb; have hz := hb.size; try simp at hz)
    go_ret
    exact ⟨ret_int' K.out, (by repeat (first | exact Below.refl _ _ | refine Below.drew ?_ | refine Below.alloc ?_ (by first | exact Nat.le_refl _ | (simp; done) | (simp; omega) | omega) _ | refine Below.setCell ?_ (by first | (simp; done) | (simp; omega) | omega) _ | (apply bstep; rotate_left; assumption; (first | exact Nat.le_refl _ | (focus (simp; done)) | (focus (simp; omega)) | omega))))⟩
/-- Was an address taken? -/
def hs (a b c x : Int) : Bool := rt a b c && decide (a ≤ x ∧ x < b)
set_option maxHeartbeats 400000 in
theorem has_any (a b c x : Int) (w : World) :
    Calls Try.prog 34 #[.agg #[.int .i64 a, .int .i64 b, .int .i64 c], .int .i64 x] w fun e w' => e = .returned (.bool (hs a b c x)) ∧ Below w.heap.size w w' := by
  cases h : rt a b c
  · have k : false = hs a b c x := by unfold hs; simp [h]
    have K := Lib.hid k
    clear k
    go_enter Try.func34, Try.ntmps34
    go_wp2_with (go_at_call 48; refine (right_any _ _ _ _).mono ?_; rintro e w1 ⟨rfl, hb⟩; obtain ⟨hc, hf⟩ := bcell hb; have hz := hb.size; try simp at hz)
    go_ret
    exact ⟨ret_bool' K.out, (by repeat (first | exact Below.refl _ _ | refine Below.drew ?_ | refine Below.alloc ?_ (by first | exact Nat.le_refl _ | (simp; done) | (simp; omega) | omega) _ | refine Below.setCell ?_ (by first | (simp; done) | (simp; omega) | omega) _ | (apply bstep; rotate_left; assumption; (first | exact Nat.le_refl _ | (focus (simp; done)) | (focus (simp; omega)) | omega))))⟩
  · by_cases h1 : a ≤ x
    · have k : decide (x < b) = hs a b c x := by unfold hs; simp [h, h1]
      have K := Lib.hid k
      clear k
      go_enter Try.func34, Try.ntmps34
      go_wp2_with (go_at_call 48; refine (right_any _ _ _ _).mono ?_; rintro e w1 ⟨rfl, hb⟩; obtain ⟨hc, hf⟩ := bcell hb; have hz := hb.size; try simp at hz)
      go_ret
      exact ⟨ret_bool' K.out, (by repeat (first | exact Below.refl _ _ | refine Below.drew ?_ | refine Below.alloc ?_ (by first | exact Nat.le_refl _ | (simp; done) | (simp; omega) | omega) _ | refine Below.setCell ?_ (by first | (simp; done) | (simp; omega) | omega) _ | (apply bstep; rotate_left; assumption; (first | exact Nat.le_refl _ | (focus (simp; done)) | (focus (simp; omega)) | omega))))⟩
    · have k : false = hs a b c x := by unfold hs; simp [h, h1]
      have d : decide (a ≤ x) = false := decide_eq_false h1
      have K := Lib.hid k
      clear k h1
      go_enter Try.func34, Try.ntmps34
      go_wp2_with (go_at_call 48; refine (right_any _ _ _ _).mono ?_; rintro e w1 ⟨rfl, hb⟩; obtain ⟨hc, hf⟩ := bcell hb; have hz := hb.size; try simp at hz)
      go_ret
      exact ⟨ret_bool' K.out, (by repeat (first | exact Below.refl _ _ | refine Below.drew ?_ | refine Below.alloc ?_ (by first | exact Nat.le_refl _ | (simp; done) | (simp; omega) | omega) _ | refine Below.setCell ?_ (by first | (simp; done) | (simp; omega) | omega) _ | (apply bstep; rotate_left; assumption; (first | exact Nat.le_refl _ | (focus (simp; done)) | (focus (simp; omega)) | omega))))⟩

set_option maxHeartbeats 400000 in
theorem new_ok (a n : Int) (w : World) (h0 : 0 ≤ a) (h1 : 0 ≤ n) (h2 : a + n ≤ 4096) :
    Calls Try.prog 32 #[.int .i64 a, .int .i64 n] w fun e w' => e = .returned (.tuple #[.agg #[.int .i64 a, .int .i64 a, .int .i64 (a + n)], .int .i64 0]) ∧ Below w.heap.size w w' := by
  go_enter Try.func32, Try.ntmps32
  go_wp2
  exact bodyPost_ret (v := .tuple #[.agg #[.int .i64 a, .int .i64 a, .int .i64 (a + n)], .int .i64 0]) (by simp [results, Try.results32, go_sem]) rfl ⟨rfl, (by repeat (first | exact Below.refl _ _ | refine Below.drew ?_ | refine Below.alloc ?_ (by first | exact Nat.le_refl _ | (simp; done) | (simp; omega) | omega) _ | refine Below.setCell ?_ (by first | (simp; done) | (simp; omega) | omega) _ | (apply bstep; rotate_left; assumption; (first | exact Nat.le_refl _ | (focus (simp; done)) | (focus (simp; omega)) | omega))))⟩
set_option maxHeartbeats 400000 in
theorem new_no (a n : Int) (w : World) (h : a < 0 ∨ n < 0 ∨ 4096 < a ∨ (0 ≤ a ∧ a ≤ 4096 ∧ 4096 < a + n)) :
    Calls Try.prog 32 #[.int .i64 a, .int .i64 n] w fun e w' => e = .returned (.tuple #[.agg #[.int .i64 0, .int .i64 0, .int .i64 0], .int .i64 1]) ∧ Below w.heap.size w w' := by
  by_cases h0 : a < 0
  · clear h
    go_enter Try.func32, Try.ntmps32
    go_wp2
    exact bodyPost_ret (v := .tuple #[.agg #[.int .i64 0, .int .i64 0, .int .i64 0], .int .i64 1]) (by simp [results, Try.results32, go_sem]) rfl ⟨rfl, (by repeat (first | exact Below.refl _ _ | refine Below.drew ?_ | refine Below.alloc ?_ (by first | exact Nat.le_refl _ | (simp; done) | (simp; omega) | omega) _ | refine Below.setCell ?_ (by first | (simp; done) | (simp; omega) | omega) _ | (apply bstep; rotate_left; assumption; (first | exact Nat.le_refl _ | (focus (simp; done)) | (focus (simp; omega)) | omega))))⟩
  · have d0 : decide (a < 0) = false := decide_eq_false h0
    by_cases h1 : n < 0
    · clear h
      go_enter Try.func32, Try.ntmps32
      go_wp2
      exact bodyPost_ret (v := .tuple #[.agg #[.int .i64 0, .int .i64 0, .int .i64 0], .int .i64 1]) (by simp [results, Try.results32, go_sem]) rfl ⟨rfl, (by repeat (first | exact Below.refl _ _ | refine Below.drew ?_ | refine Below.alloc ?_ (by first | exact Nat.le_refl _ | (simp; done) | (simp; omega) | omega) _ | refine Below.setCell ?_ (by first | (simp; done) | (simp; omega) | omega) _ | (apply bstep; rotate_left; assumption; (first | exact Nat.le_refl _ | (focus (simp; done)) | (focus (simp; omega)) | omega))))⟩
    · have d1 : decide (n < 0) = false := decide_eq_false h1
      by_cases h2 : 4096 < a
      · clear h
        go_enter Try.func32, Try.ntmps32
        go_wp2
        exact bodyPost_ret (v := .tuple #[.agg #[.int .i64 0, .int .i64 0, .int .i64 0], .int .i64 1]) (by simp [results, Try.results32, go_sem]) rfl ⟨rfl, (by repeat (first | exact Below.refl _ _ | refine Below.drew ?_ | refine Below.alloc ?_ (by first | exact Nat.le_refl _ | (simp; done) | (simp; omega) | omega) _ | refine Below.setCell ?_ (by first | (simp; done) | (simp; omega) | omega) _ | (apply bstep; rotate_left; assumption; (first | exact Nat.le_refl _ | (focus (simp; done)) | (focus (simp; omega)) | omega))))⟩
      · have d2 : decide (4096 < a) = false := decide_eq_false h2
        have h3 : 4096 - a < n := by omega
        have g0 : 0 ≤ a := by omega
        have g2 : a ≤ 4096 := by omega
        clear h
        go_enter Try.func32, Try.ntmps32
        go_wp2
        exact bodyPost_ret (v := .tuple #[.agg #[.int .i64 0, .int .i64 0, .int .i64 0], .int .i64 1]) (by simp [results, Try.results32, go_sem]) rfl ⟨rfl, (by repeat (first | exact Below.refl _ _ | refine Below.drew ?_ | refine Below.alloc ?_ (by first | exact Nat.le_refl _ | (simp; done) | (simp; omega) | omega) _ | refine Below.setCell ?_ (by first | (simp; done) | (simp; omega) | omega) _ | (apply bstep; rotate_left; assumption; (first | exact Nat.le_refl _ | (focus (simp; done)) | (focus (simp; omega)) | omega))))⟩
set_option maxHeartbeats 400000 in
theorem take_ok (a b c n : Int) (w : World) (h0 : 0 ≤ a) (h1 : a ≤ b) (h2 : b ≤ c) (h3 : c ≤ 4096) (h4 : 1 ≤ n) (h5 : b + n ≤ c) :
    Calls Try.prog 33 #[.agg #[.int .i64 a, .int .i64 b, .int .i64 c], .int .i64 n] w fun e w' => e = .returned (.tuple #[.int .i64 b, .agg #[.int .i64 a, .int .i64 (b + n), .int .i64 c], .int .i64 0]) ∧ Below w.heap.size w w' := by
  have hr := rt_yes h0 h1 h2 h3
  have g : rm a b c = c - b := by unfold rm; simp [hr]
  have g2 : decide (rm a b c < n) = false := decide_eq_false (by omega)
  clear g
  go_enter Try.func33, Try.ntmps33
  go_wp2_with (first | (go_at_call 48; refine (right_any _ _ _ _).mono ?_; rintro e w1 ⟨rfl, hb⟩; obtain ⟨hc, hf⟩ := bcell hb; have hz := hb.size; try simp at hz; try (have hz0 : w.heap.size < w1.heap.size := (by omega)); try (have hz1 : w.heap.size + 1 < w1.heap.size := (by omega))) | (go_at_call 35; refine (room_any _ _ _ _).mono ?_; rintro e w1 ⟨rfl, hb⟩; obtain ⟨hc, hf⟩ := bcell hb; have hz := hb.size; try simp at hz; try (have hz0 : w.heap.size < w1.heap.size := (by omega)); try (have hz1 : w.heap.size + 1 < w1.heap.size := (by omega))))
  go_region
  go_wp2
  exact bodyPost_ret (v := .tuple #[.int .i64 b, .agg #[.int .i64 a, .int .i64 (b + n), .int .i64 c], .int .i64 0]) (by simp [results, Try.results33, go_sem, *]) rfl ⟨rfl, (by repeat (first | exact Below.refl _ _ | refine Below.drew ?_ | refine Below.alloc ?_ (by first | exact Nat.le_refl _ | (simp; done) | (simp; omega) | omega) _ | refine Below.setCell ?_ (by first | (simp; done) | (simp; omega) | omega) _ | (apply bstep; rotate_left; assumption; (first | exact Nat.le_refl _ | (focus (simp; done)) | (focus (simp; omega)) | omega))))⟩
set_option maxHeartbeats 400000 in
theorem take_arg (a b c n : Int) (w : World) (h : n < 1 ∨ rt a b c = false) :
    Calls Try.prog 33 #[.agg #[.int .i64 a, .int .i64 b, .int .i64 c], .int .i64 n] w fun e w' => e = .returned (.tuple #[.int .i64 0, .agg #[.int .i64 0, .int .i64 0, .int .i64 0], .int .i64 1]) ∧ Below w.heap.size w w' := by
  by_cases h0 : n < 1
  · clear h
    go_enter Try.func33, Try.ntmps33
    go_wp2
    exact bodyPost_ret (v := .tuple #[.int .i64 0, .agg #[.int .i64 0, .int .i64 0, .int .i64 0], .int .i64 1]) (by simp [results, Try.results33, go_sem, *]) rfl ⟨rfl, (by repeat (first | exact Below.refl _ _ | refine Below.drew ?_ | refine Below.alloc ?_ (by first | exact Nat.le_refl _ | (simp; done) | (simp; omega) | omega) _ | refine Below.setCell ?_ (by first | (simp; done) | (simp; omega) | omega) _ | (apply bstep; rotate_left; assumption; (first | exact Nat.le_refl _ | (focus (simp; done)) | (focus (simp; omega)) | omega))))⟩
  · have hr : rt a b c = false := h.resolve_left h0
    have d0 : decide (n < 1) = false := decide_eq_false h0
    clear h
    go_enter Try.func33, Try.ntmps33
    go_wp2_with (go_at_call 48; refine (right_any _ _ _ _).mono ?_; rintro e w1 ⟨rfl, hb⟩; obtain ⟨hc, hf⟩ := bcell hb; have hz := hb.size; try simp at hz; try (have hz0 : w.heap.size < w1.heap.size := (by omega)); try (have hz1 : w.heap.size + 1 < w1.heap.size := (by omega)))
    exact bodyPost_ret (v := .tuple #[.int .i64 0, .agg #[.int .i64 0, .int .i64 0, .int .i64 0], .int .i64 1]) (by simp [results, Try.results33, go_sem, *]) rfl ⟨rfl, (by repeat (first | exact Below.refl _ _ | refine Below.drew ?_ | refine Below.alloc ?_ (by first | exact Nat.le_refl _ | (simp; done) | (simp; omega) | omega) _ | refine Below.setCell ?_ (by first | (simp; done) | (simp; omega) | omega) _ | (apply bstep; rotate_left; assumption; (first | exact Nat.le_refl _ | (focus (simp; done)) | (focus (simp; omega)) | omega))))⟩
set_option maxHeartbeats 400000 in
theorem take_full (a b c n : Int) (w : World) (h0 : 1 ≤ n) (hr : rt a b c = true) (h1 : c < b + n) :
    Calls Try.prog 33 #[.agg #[.int .i64 a, .int .i64 b, .int .i64 c], .int .i64 n] w fun e w' => e = .returned (.tuple #[.int .i64 0, .agg #[.int .i64 0, .int .i64 0, .int .i64 0], .int .i64 3]) ∧ Below w.heap.size w w' := by
  have g : rm a b c = c - b := by unfold rm; simp [hr]
  have g2 : rm a b c < n := by omega
  clear g
  go_enter Try.func33, Try.ntmps33
  go_wp2_with (first | (go_at_call 48; refine (right_any _ _ _ _).mono ?_; rintro e w1 ⟨rfl, hb⟩; obtain ⟨hc, hf⟩ := bcell hb; have hz := hb.size; try simp at hz; try (have hz0 : w.heap.size < w1.heap.size := (by omega)); try (have hz1 : w.heap.size + 1 < w1.heap.size := (by omega))) | (go_at_call 35; refine (room_any _ _ _ _).mono ?_; rintro e w1 ⟨rfl, hb⟩; obtain ⟨hc, hf⟩ := bcell hb; have hz := hb.size; try simp at hz; try (have hz0 : w.heap.size < w1.heap.size := (by omega)); try (have hz1 : w.heap.size + 1 < w1.heap.size := (by omega))))
  exact bodyPost_ret (v := .tuple #[.int .i64 0, .agg #[.int .i64 0, .int .i64 0, .int .i64 0], .int .i64 3]) (by simp [results, Try.results33, go_sem, *]) rfl ⟨rfl, (by repeat (first | exact Below.refl _ _ | refine Below.drew ?_ | refine Below.alloc ?_ (by first | exact Nat.le_refl _ | (simp; done) | (simp; omega) | omega) _ | refine Below.setCell ?_ (by first | (simp; done) | (simp; omega) | omega) _ | (apply bstep; rotate_left; assumption; (first | exact Nat.le_refl _ | (focus (simp; done)) | (focus (simp; omega)) | omega))))⟩
set_option maxHeartbeats 400000 in
theorem empty_yes (a b c : Int) (w : World) (hr : rt a b c = true) :
    Calls Try.prog 50 #[.agg #[.int .i64 a, .int .i64 b, .int .i64 c]] w fun e w' => e = .returned (.agg #[.int .i64 a, .int .i64 a, .int .i64 c]) ∧ Below w.heap.size w w' := by
  go_enter Try.func50, Try.ntmps50
  go_wp2_with (go_at_call 48; refine (right_any _ _ _ _).mono ?_; rintro e w1 ⟨rfl, hb⟩; obtain ⟨hc, hf⟩ := bcell hb; have hz := hb.size; try simp at hz; try (have hz0 : w.heap.size < w1.heap.size := (by omega)); try (have hz1 : w.heap.size + 1 < w1.heap.size := (by omega)))
  exact bodyPost_ret (v := .agg #[.int .i64 a, .int .i64 a, .int .i64 c]) (by simp [results, Try.results50, go_sem, *]) rfl ⟨rfl, (by repeat (first | exact Below.refl _ _ | refine Below.drew ?_ | refine Below.alloc ?_ (by first | exact Nat.le_refl _ | (simp; done) | (simp; omega) | omega) _ | refine Below.setCell ?_ (by first | (simp; done) | (simp; omega) | omega) _ | (apply bstep; rotate_left; assumption; (first | exact Nat.le_refl _ | (focus (simp; done)) | (focus (simp; omega)) | omega))))⟩
set_option maxHeartbeats 400000 in
theorem empty_no (a b c : Int) (w : World) (hr : rt a b c = false) :
    Calls Try.prog 50 #[.agg #[.int .i64 a, .int .i64 b, .int .i64 c]] w fun e w' => e = .returned (.agg #[.int .i64 0, .int .i64 0, .int .i64 0]) ∧ Below w.heap.size w w' := by
  go_enter Try.func50, Try.ntmps50
  go_wp2_with (go_at_call 48; refine (right_any _ _ _ _).mono ?_; rintro e w1 ⟨rfl, hb⟩; obtain ⟨hc, hf⟩ := bcell hb; have hz := hb.size; try simp at hz; try (have hz0 : w.heap.size < w1.heap.size := (by omega)); try (have hz1 : w.heap.size + 1 < w1.heap.size := (by omega)))
  exact bodyPost_ret (v := .agg #[.int .i64 0, .int .i64 0, .int .i64 0]) (by simp [results, Try.results50, go_sem, *]) rfl ⟨rfl, (by repeat (first | exact Below.refl _ _ | refine Below.drew ?_ | refine Below.alloc ?_ (by first | exact Nat.le_refl _ | (simp; done) | (simp; omega) | omega) _ | refine Below.setCell ?_ (by first | (simp; done) | (simp; omega) | omega) _ | (apply bstep; rotate_left; assumption; (first | exact Nat.le_refl _ | (focus (simp; done)) | (focus (simp; omega)) | omega))))⟩
theorem hs_yes {a b c x : Int} (hr : rt a b c = true) (h1 : a ≤ x) (h2 : x < b) : hs a b c x = true := by unfold hs; simp [hr, h1, h2]
theorem hs_no {a b c x : Int} (h : x < a ∨ b ≤ x) : hs a b c x = false := by
  unfold hs
  rw [Bool.and_eq_false_iff]
  exact .inr (decide_eq_false (by omega))
/-- A struct of three numbers, in memory. -/
abbrev sp3 (x y z : Int) : Array Value := #[.int .i64 x, .int .i64 y, .int .i64 z]
theorem Blk.store3 {w : World} {b : Nat} {x y z x' y' z' : Int} {t : TypeId} (h : Blk w b (sp3 x y z) t) :
    Blk (((w.setCell ⟨b, 0, none⟩ (.int .i64 x')).setCell ⟨b, 1, none⟩ (.int .i64 y')).setCell ⟨b, 2, none⟩ (.int .i64 z')) b (sp3 x' y' z') t := by
  simpa using ((h.set (i := 0) (.int .i64 x')).set (i := 1) (.int .i64 y')).set (i := 2) (.int .i64 z')
theorem Below.store3 {B : Nat} {a w : World} (h : Below B a w) {b : Nat} (hb : B ≤ b) (u v x : Value) : Below B a (((w.setCell ⟨b, 0, none⟩ u).setCell ⟨b, 1, none⟩ v).setCell ⟨b, 2, none⟩ x) :=
  ((h.setCell (p := ⟨b, 0, none⟩) hb u).setCell (p := ⟨b, 1, none⟩) hb v).setCell (p := ⟨b, 2, none⟩) hb x
set_option maxHeartbeats 400000 in
theorem sawake_any (w : World) : Calls Try.prog 31 #[] w fun e w' => e = .returned (.bool true) ∧ Below w.heap.size w w' := by
  have f1 : rm 10 13 15 = 2 := by decide
  have f2 : hs 10 13 15 12 = true := by decide
  have f3 : hs 10 13 15 13 = false := by decide
  go_enter Try.func31, Try.ntmps31
  go_wp2_with fail
  refine (new_ok _ _ _ (by decide) (by decide) (by decide)).mono ?_
  rintro e w1 ⟨rfl, hb1⟩
  have hz1 := hb1.size
  go_wp2_with fail
  refine (take_ok _ _ _ _ _ (by decide) (by decide) (by decide) (by decide) (by decide) (by decide)).mono ?_
  rintro e w2 ⟨rfl, hb2⟩
  have hz2 := hb2.size
  simp at hz2
  go_wp2_with fail
  refine (room_any _ _ _ _).mono ?_
  rintro e w3 ⟨rfl, hb3⟩
  obtain ⟨hc3, hf3⟩ := bcell hb3
  have hz3 := hb3.size
  simp at hz3
  have hy3 : w2.heap.size < w3.heap.size := by omega
  go_wp2_with fail
  refine (has_any _ _ _ _ _).mono ?_
  rintro e w4 ⟨rfl, hb4⟩
  obtain ⟨hc4, hf4⟩ := bcell hb4
  have hz4 := hb4.size
  go_wp2_with fail
  refine (has_any _ _ _ _ _).mono ?_
  rintro e w5 ⟨rfl, hb5⟩
  have hz5 := hb5.size
  go_wp2
  go_ret
  exact ⟨rfl, (by repeat (first | exact Below.refl _ _ | refine Below.drew ?_ | refine Below.alloc ?_ (by first | exact Nat.le_refl _ | (simp; done) | (simp; omega) | omega) _ | refine Below.setCell ?_ (by first | (simp; done) | (simp; omega) | omega) _ | (apply bstep; rotate_left; assumption; (first | exact Nat.le_refl _ | (focus (simp; done)) | (focus (simp; omega)) | omega))))⟩
end Go.Proofs.Ytlhbfeddgopfjaa
