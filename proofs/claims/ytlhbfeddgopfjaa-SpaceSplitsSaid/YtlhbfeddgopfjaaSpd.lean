/-
  More contracts of package space and those of the reference gleaningref02 (Right, Take, New, Has), each for all int arguments by opaque functions of the arguments; memory below the heap's old size unchanged. No condition.
-/
import Derived.Test.YtlhbfeddgopfjaaSpc
namespace Go.Proofs.Ytlhbfeddgopfjaa
open Go.RowKit
/-- Take: the address, the space's three numbers, the error. -/
def tkA (x y z n : Int) : Int := if n < 1 ∨ rt x y z = false then 0 else if z < y + n then 0 else y
def tkF (x y z n : Int) : Int := if n < 1 ∨ rt x y z = false then 0 else if z < y + n then 0 else x
def tkT (x y z n : Int) : Int := if n < 1 ∨ rt x y z = false then 0 else if z < y + n then 0 else y + n
def tkE (x y z n : Int) : Int := if n < 1 ∨ rt x y z = false then 0 else if z < y + n then 0 else z
def tkX (x y z n : Int) : Int := if n < 1 ∨ rt x y z = false then 1 else if z < y + n then 3 else 0
/-- New: its beginning, its end, the error. -/
def nwF (a n : Int) : Int := if a < 0 ∨ n < 0 ∨ 4096 < a + n then 0 else a
def nwE (a n : Int) : Int := if a < 0 ∨ n < 0 ∨ 4096 < a + n then 0 else a + n
def nwX (a n : Int) : Int := if a < 0 ∨ n < 0 ∨ 4096 < a + n then 1 else 0
/-- Empty. -/
def emF (x y z : Int) : Int := if rt x y z then x else 0
def emE (x y z : Int) : Int := if rt x y z then z else 0
theorem take_any (x y z n : Int) (w : World) :
    Calls Try.prog 33 #[.agg #[.int .i64 x, .int .i64 y, .int .i64 z], .int .i64 n] w fun e w' => e = .returned (.tuple #[.int .i64 (tkA x y z n), .agg #[.int .i64 (tkF x y z n), .int .i64 (tkT x y z n), .int .i64 (tkE x y z n)], .int .i64 (tkX x y z n)]) ∧ Below w.heap.size w w' := by
  unfold tkA tkF tkT tkE tkX
  by_cases h : n < 1 ∨ rt x y z = false
  · simp only [if_pos h]
    exact take_arg x y z n w h
  · simp only [if_neg h]
    have h1 : ¬ n < 1 := fun k => h (.inl k)
    have h2 : rt x y z = true := by cases k : rt x y z; exact absurd (.inr k) h; rfl
    obtain ⟨b0, b1, b2, b3⟩ := rt_true h2
    by_cases k : z < y + n
    · simp only [if_pos k]
      exact take_full x y z n w (by omega) h2 k
    · simp only [if_neg k]
      exact take_ok x y z n w b0 b1 b2 b3 (by omega) (by omega)
theorem new_any (a n : Int) (w : World) :
    Calls Try.prog 32 #[.int .i64 a, .int .i64 n] w fun e w' => e = .returned (.tuple #[.agg #[.int .i64 (nwF a n), .int .i64 (nwF a n), .int .i64 (nwE a n)], .int .i64 (nwX a n)]) ∧ Below w.heap.size w w' := by
  unfold nwF nwE nwX
  by_cases h : a < 0 ∨ n < 0 ∨ 4096 < a + n
  · simp only [if_pos h]
    exact new_no a n w (by omega)
  · simp only [if_neg h]
    exact new_ok a n w (by omega) (by omega) (by omega)
theorem empty_any (x y z : Int) (w : World) :
    Calls Try.prog 50 #[.agg #[.int .i64 x, .int .i64 y, .int .i64 z]] w fun e w' => e = .returned (.agg #[.int .i64 (emF x y z), .int .i64 (emF x y z), .int .i64 (emE x y z)]) ∧ Below w.heap.size w w' := by
  unfold emF emE
  cases h : rt x y z
  · exact empty_no x y z w h
  · exact empty_yes x y z w h
set_option maxHeartbeats 400000 in
theorem rright_any (a b c : Int) (w : World) :
    Calls Try.prog 45 #[.agg #[.int .i64 a, .int .i64 b, .int .i64 c]] w fun e w' => e = .returned (.bool (rt a b c)) ∧ Below w.heap.size w w' := by
  have fin : ∀ x, x = rt a b c → (Ending.returned (.bool x) = .returned (.bool (rt a b c)) ∧ Below w.heap.size w (w.alloc (.cells #[.int .i64 a, .int .i64 b, .int .i64 c] 58))) :=
    fun x h => ⟨ret_bool' h, (Below.refl _ _).alloc (Nat.le_refl _) _⟩
  by_cases h0 : 0 ≤ a
  · by_cases h1 : a ≤ b
    · by_cases h2 : b ≤ c
      · have k : decide (c ≤ 4096) = rt a b c := by unfold rt; simp [h0, h1, h2]
        have K := Lib.hid k
        clear k
        go_enter Try.func45, Try.ntmps45
        go_wp2
        go_ret
        exact fin _ K.out
      · have k := (rt_no (a := a) (b := b) (c := c) (by omega)).symm
        have d : decide (b ≤ c) = false := decide_eq_false h2
        clear h2
        have K := Lib.hid k
        clear k
        go_enter Try.func45, Try.ntmps45
        go_wp2
        go_ret
        exact fin _ K.out
    · have k := (rt_no (a := a) (b := b) (c := c) (by omega)).symm
      have d : decide (a ≤ b) = false := decide_eq_false h1
      clear h1
      have K := Lib.hid k
      clear k
      go_enter Try.func45, Try.ntmps45
      go_wp2
      go_ret
      exact fin _ K.out
  · have k := (rt_no (a := a) (b := b) (c := c) (by omega)).symm
    have d : decide (0 ≤ a) = false := decide_eq_false h0
    clear h0
    have K := Lib.hid k
    clear k
    go_enter Try.func45, Try.ntmps45
    go_wp2
    go_ret
    exact fin _ K.out
set_option maxHeartbeats 400000 in
theorem rhas_any (a b c x : Int) (w : World) :
    Calls Try.prog 49 #[.agg #[.int .i64 a, .int .i64 b, .int .i64 c], .int .i64 x] w fun e w' => e = .returned (.bool (hs a b c x)) ∧ Below w.heap.size w w' := by
  cases h : rt a b c
  · have k : false = hs a b c x := by unfold hs; simp [h]
    have K := Lib.hid k
    clear k
    go_enter Try.func49, Try.ntmps49
    go_wp2_with (go_at_call 45; refine (rright_any _ _ _ _).mono ?_; rintro e w1 ⟨rfl, hb⟩; obtain ⟨hc, hf⟩ := bcell hb; have hz := hb.size; try simp at hz)
    go_ret
    exact ⟨ret_bool' K.out, (by repeat (first | exact Below.refl _ _ | refine Below.drew ?_ | refine Below.alloc ?_ (by first | exact Nat.le_refl _ | (simp; done) | (simp; omega) | omega) _ | refine Below.setCell ?_ (by first | (simp; done) | (simp; omega) | omega) _ | (apply bstep; rotate_left; assumption; (first | exact Nat.le_refl _ | (focus (simp; done)) | (focus (simp; omega)) | omega))))⟩
  · by_cases h1 : a ≤ x
    · have k : decide (x < b) = hs a b c x := by unfold hs; simp [h, h1]
      have K := Lib.hid k
      clear k
      go_enter Try.func49, Try.ntmps49
      go_wp2_with (go_at_call 45; refine (rright_any _ _ _ _).mono ?_; rintro e w1 ⟨rfl, hb⟩; obtain ⟨hc, hf⟩ := bcell hb; have hz := hb.size; try simp at hz)
      go_ret
      exact ⟨ret_bool' K.out, (by repeat (first | exact Below.refl _ _ | refine Below.drew ?_ | refine Below.alloc ?_ (by first | exact Nat.le_refl _ | (simp; done) | (simp; omega) | omega) _ | refine Below.setCell ?_ (by first | (simp; done) | (simp; omega) | omega) _ | (apply bstep; rotate_left; assumption; (first | exact Nat.le_refl _ | (focus (simp; done)) | (focus (simp; omega)) | omega))))⟩
    · have k : false = hs a b c x := by unfold hs; simp [h, h1]
      have d : decide (a ≤ x) = false := decide_eq_false h1
      have K := Lib.hid k
      clear k h1
      go_enter Try.func49, Try.ntmps49
      go_wp2_with (go_at_call 45; refine (rright_any _ _ _ _).mono ?_; rintro e w1 ⟨rfl, hb⟩; obtain ⟨hc, hf⟩ := bcell hb; have hz := hb.size; try simp at hz)
      go_ret
      exact ⟨ret_bool' K.out, (by repeat (first | exact Below.refl _ _ | refine Below.drew ?_ | refine Below.alloc ?_ (by first | exact Nat.le_refl _ | (simp; done) | (simp; omega) | omega) _ | refine Below.setCell ?_ (by first | (simp; done) | (simp; omega) | omega) _ | (apply bstep; rotate_left; assumption; (first | exact Nat.le_refl _ | (focus (simp; done)) | (focus (simp; omega)) | omega))))⟩

set_option maxHeartbeats 400000 in
theorem rnew_ok (a n : Int) (w : World) (h0 : 0 ≤ a) (h1 : 0 ≤ n) (h2 : a + n ≤ 4096) :
    Calls Try.prog 47 #[.int .i64 a, .int .i64 n] w fun e w' => e = .returned (.tuple #[.agg #[.int .i64 a, .int .i64 a, .int .i64 (a + n)], .int .i64 0]) ∧ Below w.heap.size w w' := by
  go_enter Try.func47, Try.ntmps47
  go_wp2
  exact bodyPost_ret (v := .tuple #[.agg #[.int .i64 a, .int .i64 a, .int .i64 (a + n)], .int .i64 0]) (by simp [results, Try.results47, go_sem]) rfl ⟨rfl, (by repeat (first | exact Below.refl _ _ | refine Below.drew ?_ | refine Below.alloc ?_ (by first | exact Nat.le_refl _ | (simp; done) | (simp; omega) | omega) _ | refine Below.setCell ?_ (by first | (simp; done) | (simp; omega) | omega) _ | (apply bstep; rotate_left; assumption; (first | exact Nat.le_refl _ | (focus (simp; done)) | (focus (simp; omega)) | omega))))⟩
set_option maxHeartbeats 400000 in
theorem rnew_no (a n : Int) (w : World) (h : a < 0 ∨ n < 0 ∨ 4096 < a ∨ (0 ≤ a ∧ a ≤ 4096 ∧ 4096 < a + n)) :
    Calls Try.prog 47 #[.int .i64 a, .int .i64 n] w fun e w' => e = .returned (.tuple #[.agg #[.int .i64 0, .int .i64 0, .int .i64 0], .int .i64 1]) ∧ Below w.heap.size w w' := by
  by_cases h0 : a < 0
  · clear h
    go_enter Try.func47, Try.ntmps47
    go_wp2
    exact bodyPost_ret (v := .tuple #[.agg #[.int .i64 0, .int .i64 0, .int .i64 0], .int .i64 1]) (by simp [results, Try.results47, go_sem]) rfl ⟨rfl, (by repeat (first | exact Below.refl _ _ | refine Below.drew ?_ | refine Below.alloc ?_ (by first | exact Nat.le_refl _ | (simp; done) | (simp; omega) | omega) _ | refine Below.setCell ?_ (by first | (simp; done) | (simp; omega) | omega) _ | (apply bstep; rotate_left; assumption; (first | exact Nat.le_refl _ | (focus (simp; done)) | (focus (simp; omega)) | omega))))⟩
  · have d0 : decide (a < 0) = false := decide_eq_false h0
    by_cases h1 : n < 0
    · clear h
      go_enter Try.func47, Try.ntmps47
      go_wp2
      exact bodyPost_ret (v := .tuple #[.agg #[.int .i64 0, .int .i64 0, .int .i64 0], .int .i64 1]) (by simp [results, Try.results47, go_sem]) rfl ⟨rfl, (by repeat (first | exact Below.refl _ _ | refine Below.drew ?_ | refine Below.alloc ?_ (by first | exact Nat.le_refl _ | (simp; done) | (simp; omega) | omega) _ | refine Below.setCell ?_ (by first | (simp; done) | (simp; omega) | omega) _ | (apply bstep; rotate_left; assumption; (first | exact Nat.le_refl _ | (focus (simp; done)) | (focus (simp; omega)) | omega))))⟩
    · have d1 : decide (n < 0) = false := decide_eq_false h1
      by_cases h2 : 4096 < a
      · clear h
        go_enter Try.func47, Try.ntmps47
        go_wp2
        exact bodyPost_ret (v := .tuple #[.agg #[.int .i64 0, .int .i64 0, .int .i64 0], .int .i64 1]) (by simp [results, Try.results47, go_sem]) rfl ⟨rfl, (by repeat (first | exact Below.refl _ _ | refine Below.drew ?_ | refine Below.alloc ?_ (by first | exact Nat.le_refl _ | (simp; done) | (simp; omega) | omega) _ | refine Below.setCell ?_ (by first | (simp; done) | (simp; omega) | omega) _ | (apply bstep; rotate_left; assumption; (first | exact Nat.le_refl _ | (focus (simp; done)) | (focus (simp; omega)) | omega))))⟩
      · have d2 : decide (4096 < a) = false := decide_eq_false h2
        have h3 : 4096 - a < n := by omega
        have g0 : 0 ≤ a := by omega
        have g2 : a ≤ 4096 := by omega
        clear h
        go_enter Try.func47, Try.ntmps47
        go_wp2
        exact bodyPost_ret (v := .tuple #[.agg #[.int .i64 0, .int .i64 0, .int .i64 0], .int .i64 1]) (by simp [results, Try.results47, go_sem]) rfl ⟨rfl, (by repeat (first | exact Below.refl _ _ | refine Below.drew ?_ | refine Below.alloc ?_ (by first | exact Nat.le_refl _ | (simp; done) | (simp; omega) | omega) _ | refine Below.setCell ?_ (by first | (simp; done) | (simp; omega) | omega) _ | (apply bstep; rotate_left; assumption; (first | exact Nat.le_refl _ | (focus (simp; done)) | (focus (simp; omega)) | omega))))⟩
set_option maxHeartbeats 400000 in
theorem rtake_arg (a b c n : Int) (w : World) (h : n < 1 ∨ rt a b c = false) :
    Calls Try.prog 46 #[.agg #[.int .i64 a, .int .i64 b, .int .i64 c], .int .i64 n] w fun e w' => e = .returned (.tuple #[.int .i64 0, .agg #[.int .i64 0, .int .i64 0, .int .i64 0], .int .i64 1]) ∧ Below w.heap.size w w' := by
  by_cases h0 : n < 1
  · clear h
    go_enter Try.func46, Try.ntmps46
    go_wp2
    exact bodyPost_ret (v := .tuple #[.int .i64 0, .agg #[.int .i64 0, .int .i64 0, .int .i64 0], .int .i64 1]) (by simp [results, Try.results46, go_sem, *]) rfl ⟨rfl, (by repeat (first | exact Below.refl _ _ | refine Below.drew ?_ | refine Below.alloc ?_ (by first | exact Nat.le_refl _ | (simp; done) | (simp; omega) | omega) _ | refine Below.setCell ?_ (by first | (simp; done) | (simp; omega) | omega) _ | (apply bstep; rotate_left; assumption; (first | exact Nat.le_refl _ | (focus (simp; done)) | (focus (simp; omega)) | omega))))⟩
  · have hr : rt a b c = false := h.resolve_left h0
    have d0 : decide (n < 1) = false := decide_eq_false h0
    clear h
    go_enter Try.func46, Try.ntmps46
    go_wp2_with (go_at_call 45; refine (rright_any _ _ _ _).mono ?_; rintro e w1 ⟨rfl, hb⟩; obtain ⟨hc, hf⟩ := bcell hb; have hz := hb.size; try simp at hz; try (have hz0 : w.heap.size < w1.heap.size := (by omega)); try (have hz1 : w.heap.size + 1 < w1.heap.size := (by omega)))
    exact bodyPost_ret (v := .tuple #[.int .i64 0, .agg #[.int .i64 0, .int .i64 0, .int .i64 0], .int .i64 1]) (by simp [results, Try.results46, go_sem, *]) rfl ⟨rfl, (by repeat (first | exact Below.refl _ _ | refine Below.drew ?_ | refine Below.alloc ?_ (by first | exact Nat.le_refl _ | (simp; done) | (simp; omega) | omega) _ | refine Below.setCell ?_ (by first | (simp; done) | (simp; omega) | omega) _ | (apply bstep; rotate_left; assumption; (first | exact Nat.le_refl _ | (focus (simp; done)) | (focus (simp; omega)) | omega))))⟩
set_option maxHeartbeats 400000 in
theorem rtake_ok (a b c n : Int) (w : World) (h0 : 0 ≤ a) (h1 : a ≤ b) (h2 : b ≤ c) (h3 : c ≤ 4096) (h4 : 1 ≤ n) (h5 : b + n ≤ c) :
    Calls Try.prog 46 #[.agg #[.int .i64 a, .int .i64 b, .int .i64 c], .int .i64 n] w fun e w' => e = .returned (.tuple #[.int .i64 b, .agg #[.int .i64 a, .int .i64 (b + n), .int .i64 c], .int .i64 0]) ∧ Below w.heap.size w w' := by
  have hr := rt_yes h0 h1 h2 h3
  have g2 : n ≤ c - b := by omega
  go_enter Try.func46, Try.ntmps46
  go_wp2_with (go_at_call 45; refine (rright_any _ _ _ _).mono ?_; rintro e w1 ⟨rfl, hb⟩; obtain ⟨hc, hf⟩ := bcell hb; have hz := hb.size; try simp at hz; try (have hz0 : w.heap.size < w1.heap.size := (by omega)); try (have hz1 : w.heap.size + 1 < w1.heap.size := (by omega)))
  go_region
  go_wp2
  exact bodyPost_ret (v := .tuple #[.int .i64 b, .agg #[.int .i64 a, .int .i64 (b + n), .int .i64 c], .int .i64 0]) (by simp [results, Try.results46, go_sem, *]) rfl ⟨rfl, (by repeat (first | exact Below.refl _ _ | refine Below.drew ?_ | refine Below.alloc ?_ (by first | exact Nat.le_refl _ | (simp; done) | (simp; omega) | omega) _ | refine Below.setCell ?_ (by first | (simp; done) | (simp; omega) | omega) _ | (apply bstep; rotate_left; assumption; (first | exact Nat.le_refl _ | (focus (simp; done)) | (focus (simp; omega)) | omega))))⟩
set_option maxHeartbeats 400000 in
theorem rtake_full (a b c n : Int) (w : World) (h0 : 1 ≤ n) (hr : rt a b c = true) (h1 : c < b + n) :
    Calls Try.prog 46 #[.agg #[.int .i64 a, .int .i64 b, .int .i64 c], .int .i64 n] w fun e w' => e = .returned (.tuple #[.int .i64 0, .agg #[.int .i64 0, .int .i64 0, .int .i64 0], .int .i64 3]) ∧ Below w.heap.size w w' := by
  obtain ⟨b0, b1, b2, b3⟩ := rt_true hr
  have g2 : c - b < n := by omega
  go_enter Try.func46, Try.ntmps46
  go_wp2_with (go_at_call 45; refine (rright_any _ _ _ _).mono ?_; rintro e w1 ⟨rfl, hb⟩; obtain ⟨hc, hf⟩ := bcell hb; have hz := hb.size; try simp at hz; try (have hz0 : w.heap.size < w1.heap.size := (by omega)); try (have hz1 : w.heap.size + 1 < w1.heap.size := (by omega)))
  exact bodyPost_ret (v := .tuple #[.int .i64 0, .agg #[.int .i64 0, .int .i64 0, .int .i64 0], .int .i64 3]) (by simp [results, Try.results46, go_sem, *]) rfl ⟨rfl, (by repeat (first | exact Below.refl _ _ | refine Below.drew ?_ | refine Below.alloc ?_ (by first | exact Nat.le_refl _ | (simp; done) | (simp; omega) | omega) _ | refine Below.setCell ?_ (by first | (simp; done) | (simp; omega) | omega) _ | (apply bstep; rotate_left; assumption; (first | exact Nat.le_refl _ | (focus (simp; done)) | (focus (simp; omega)) | omega))))⟩
theorem rtake_any (x y z n : Int) (w : World) :
    Calls Try.prog 46 #[.agg #[.int .i64 x, .int .i64 y, .int .i64 z], .int .i64 n] w fun e w' => e = .returned (.tuple #[.int .i64 (tkA x y z n), .agg #[.int .i64 (tkF x y z n), .int .i64 (tkT x y z n), .int .i64 (tkE x y z n)], .int .i64 (tkX x y z n)]) ∧ Below w.heap.size w w' := by
  unfold tkA tkF tkT tkE tkX
  by_cases h : n < 1 ∨ rt x y z = false
  · simp only [if_pos h]
    exact rtake_arg x y z n w h
  · simp only [if_neg h]
    have h1 : ¬ n < 1 := fun k => h (.inl k)
    have h2 : rt x y z = true := by cases k : rt x y z; exact absurd (.inr k) h; rfl
    obtain ⟨b0, b1, b2, b3⟩ := rt_true h2
    by_cases k : z < y + n
    · simp only [if_pos k]
      exact rtake_full x y z n w (by omega) h2 k
    · simp only [if_neg k]
      exact rtake_ok x y z n w b0 b1 b2 b3 (by omega) (by omega)
theorem rnew_any (a n : Int) (w : World) :
    Calls Try.prog 47 #[.int .i64 a, .int .i64 n] w fun e w' => e = .returned (.tuple #[.agg #[.int .i64 (nwF a n), .int .i64 (nwF a n), .int .i64 (nwE a n)], .int .i64 (nwX a n)]) ∧ Below w.heap.size w w' := by
  unfold nwF nwE nwX
  by_cases h : a < 0 ∨ n < 0 ∨ 4096 < a + n
  · simp only [if_pos h]
    exact rnew_no a n w (by omega)
  · simp only [if_neg h]
    exact rnew_ok a n w (by omega) (by omega) (by omega)
end Go.Proofs.Ytlhbfeddgopfjaa
