/-
  The contracts of package policy's functions and of the reference's (gleaningref11), each for all int arguments: what each returns, the world unchanged. No condition but the ranges that stand in rfits_any.
-/
import Derived.Test.YtlhbfeddgopfjaaRows
import Derived.WalkKit
import Derived.WalkSpells
import Derived.WalkLawsBesides
import Derived.Lib.Hide
import Derived.Deep.QuietTactic
import Derived.BigQuiet
namespace Go.Proofs.Ytlhbfeddgopfjaa
open Go.RowKit
def hd (n : Int) : Int := max 0 (min n 1099511627776)
def ml (a b : Int) : Int := min (hd a * hd b) 1099511627776
theorem hd_range (n : Int) : 0 ≤ hd n ∧ hd n ≤ 1099511627776 := by unfold hd; omega
theorem mul_range (a b : Int) : 0 ≤ hd a * hd b ∧ hd a * hd b ≤ 1208925819614629174706176 := by
  have ha := hd_range a
  have hb := hd_range b
  refine ⟨Int.mul_nonneg ha.1 hb.1, ?_⟩
  have h := Int.mul_le_mul ha.2 hb.2 hb.1 (by decide : (0 : Int) ≤ 1099511627776)
  have e : (1099511627776 : Int) * 1099511627776 = 1208925819614629174706176 := by decide
  omega
theorem ret_int {k : IntKind} {a b : Int} (h : a = b) : Ending.returned (.int k a) = .returned (.int k b) := by rw [h]
set_option maxHeartbeats 400000 in
theorem held_any (a : Int) (w : World) :
    Calls Try.prog 53 #[.int .i64 a] w fun e w' => e = .returned (.int .i64 (hd a)) ∧ w = w' := by
  by_cases h : 1099511627776 < a
  · go_enter Try.func53, Try.ntmps53
    go_wp2
    go_ret
    exact ⟨ret_int (by unfold hd; omega), rfl⟩
  · by_cases k : 0 < a
    all_goals
      go_enter Try.func53, Try.ntmps53
      go_wp2
      go_ret
      exact ⟨ret_int (by unfold hd; omega), rfl⟩
set_option maxHeartbeats 400000 in
theorem add_any (a b : Int) (w : World) :
    Calls Try.prog 21 #[.int .i64 a, .int .i64 b] w fun e w' => e = .returned (.int .i64 (min (hd a + hd b) 1099511627776)) ∧ w = w' := by
  have ha := hd_range a
  have hb := hd_range b
  by_cases h : 1099511627776 < hd a + hd b
  all_goals
    go_enter Try.func21, Try.ntmps21
    go_wp2_with (go_at_call 53; refine (held_any _ _).mono ?_; rintro e w' ⟨rfl, rfl⟩)
    go_ret
    exact ⟨ret_int (by omega), rfl⟩

theorem hd_mono {a b : Int} (h : a ≤ b) : hd a ≤ hd b := by unfold hd; omega
theorem hd_same {a : Int} (h : 0 ≤ a) (h' : a ≤ 1099511627776) : hd a = a := by unfold hd; omega
theorem hd_hd (a : Int) : hd (hd a) = hd a := hd_same (hd_range a).1 (hd_range a).2
theorem ml_range (a b : Int) : 0 ≤ ml a b ∧ ml a b ≤ 1099511627776 := by
  have := mul_range a b
  unfold ml; omega
theorem ml_comm (a b : Int) : ml a b = ml b a := by unfold ml; rw [Int.mul_comm]
theorem ml_mono {a b c d : Int} (h : a ≤ c) (k : b ≤ d) : ml a b ≤ ml c d := by
  have := Int.mul_le_mul (hd_mono h) (hd_mono k) (hd_range b).1 (hd_range c).1
  unfold ml; omega
theorem ml_hd (a b : Int) : ml (hd a) (hd b) = ml a b := by unfold ml; rw [hd_hd, hd_hd]
theorem ml_over {a b : Int} (h : 0 < hd a) (k : 1099511627776 / hd a < hd b) : 1099511627776 = ml a b := by
  have := (Int.ediv_lt_iff_lt_mul h).1 k
  rw [Int.mul_comm] at this
  unfold ml
  omega
theorem ml_under {a b : Int} (h : 0 < hd a) (k : hd b ≤ 1099511627776 / hd a) : wrap64 (hd a * hd b) = ml a b := by
  have := (Int.le_ediv_iff_mul_le h).1 k
  have hm := mul_range a b
  rw [Int.mul_comm] at this
  unfold ml wrap64
  omega
theorem ml_none {a b : Int} (h : ¬ 0 < hd a) : wrap64 (hd a * hd b) = ml a b := by
  have ha := hd_range a
  have e : hd a = 0 := by omega
  unfold ml
  rw [e, Int.zero_mul]
  unfold wrap64
  omega
set_option maxHeartbeats 400000 in
theorem mul_any (a b : Int) (w : World) :
    Calls Try.prog 23 #[.int .i64 a, .int .i64 b] w fun e w' => e = .returned (.int .i64 (ml a b)) ∧ w = w' := by
  have ha := hd_range a
  have hb := hd_range b
  by_cases h : 0 < hd a
  · by_cases k : 1099511627776 / hd a < hd b
    all_goals
      go_enter Try.func23, Try.ntmps23
      go_wp2_with (go_at_call 53; refine (held_any _ _).mono ?_; rintro e w' ⟨rfl, rfl⟩)
      go_ret
      first | exact ⟨ret_int (ml_over h k), rfl⟩ | exact ⟨ret_int (ml_under h (by omega)), rfl⟩
  · go_enter Try.func23, Try.ntmps23
    go_wp2_with (go_at_call 53; refine (held_any _ _).mono ?_; rintro e w' ⟨rfl, rfl⟩)
    go_ret
    exact ⟨ret_int (ml_none (by omega)), rfl⟩
set_option maxHeartbeats 400000 in
theorem most_any (a b : Int) (w : World) :
    Calls Try.prog 25 #[.int .i64 a, .int .i64 b] w fun e w' => e = .returned (.int .i64 (ml a b)) ∧ w = w' := by
  go_enter Try.func25, Try.ntmps25
  go_wp2_with (go_at_call 23; refine (mul_any _ _ _).mono ?_; rintro e w' ⟨rfl, rfl⟩)
  go_ret
  exact ⟨rfl, rfl⟩
/-- How many ticks have gone by. -/
def sn (a b : Int) : Int := max 0 (hd a - hd b)
theorem sn_range (a b : Int) : 0 ≤ sn a b ∧ sn a b ≤ 1099511627776 := by
  have ha := hd_range a
  have hb := hd_range b
  unfold sn; omega
set_option maxHeartbeats 400000 in
theorem since_any (a b : Int) (w : World) :
    Calls Try.prog 26 #[.int .i64 a, .int .i64 b] w fun e w' => e = .returned (.int .i64 (sn a b)) ∧ w = w' := by
  have ha := hd_range a
  have hb := hd_range b
  by_cases h : 0 < hd a - hd b
  all_goals
    go_enter Try.func26, Try.ntmps26
    go_wp2_with (go_at_call 53; refine (held_any _ _).mono ?_; rintro e w' ⟨rfl, rfl⟩)
    go_ret
    exact ⟨ret_int (by unfold sn; omega), rfl⟩
/-- Is it kept? -/
def kp (n l r f : Int) : Bool := decide (sn n l ≤ ml r f)
set_option maxHeartbeats 400000 in
theorem keeps_any (n l r f : Int) (w : World) :
    Calls Try.prog 28 #[.int .i64 n, .int .i64 l, .int .i64 r, .int .i64 f] w fun e w' => e = .returned (.bool (kp n l r f)) ∧ w = w' := by
  go_enter Try.func28, Try.ntmps28
  go_wp2_with (first | (go_at_call 26; refine (since_any _ _ _).mono ?_; rintro e w' ⟨rfl, rfl⟩) | (go_at_call 25; refine (most_any _ _ _).mono ?_; rintro e w' ⟨rfl, rfl⟩))
  go_ret
  exact ⟨rfl, rfl⟩
theorem kp1 : kp 10 3 1 7 = true := by decide
theorem kp2 : kp 11 3 1 7 = false := by decide
theorem ad1 : min (hd 3 + hd 4) 1099511627776 = 7 := by decide
theorem ml1 : ml 3 4 = 12 := by decide
set_option maxHeartbeats 400000 in
theorem awake_any (w : World) :
    Calls Try.prog 20 #[] w fun e w' => e = .returned (.bool true) ∧ w = w' := by
  have h1 := kp1
  have h2 := kp2
  have h3 := ad1
  have h4 := ml1
  go_enter Try.func20, Try.ntmps20
  go_wp2_with (first | (go_at_call 28; refine (keeps_any _ _ _ _ _).mono ?_; rintro e w' ⟨rfl, rfl⟩) | (go_at_call 21; refine (add_any _ _ _).mono ?_; rintro e w' ⟨rfl, rfl⟩) | (go_at_call 23; refine (mul_any _ _ _).mono ?_; rintro e w' ⟨rfl, rfl⟩))
  go_ret
  exact ⟨rfl, rfl⟩

set_option maxHeartbeats 400000 in
theorem rheld_any (a : Int) (w : World) :
    Calls Try.prog 30 #[.int .i64 a] w fun e w' => e = .returned (.int .i64 (hd a)) ∧ w = w' := by
  by_cases h : 1099511627776 < a
  · go_enter Try.func30, Try.ntmps30
    go_wp2
    go_ret
    exact ⟨ret_int (by unfold hd; omega), rfl⟩
  · by_cases k : 0 < a
    all_goals
      go_enter Try.func30, Try.ntmps30
      go_wp2
      go_ret
      exact ⟨ret_int (by unfold hd; omega), rfl⟩
set_option maxHeartbeats 400000 in
theorem radd_any (a b : Int) (w : World) :
    Calls Try.prog 22 #[.int .i64 a, .int .i64 b] w fun e w' => e = .returned (.int .i64 (min (hd a + hd b) 1099511627776)) ∧ w = w' := by
  have ha := hd_range a
  have hb := hd_range b
  rcases Int.lt_or_le (hd a + hd b) 1099511627776 with _ | _
  all_goals
    go_enter Try.func22, Try.ntmps22
    go_wp2_with (go_at_call 30; refine (rheld_any _ _).mono ?_; rintro e w' ⟨rfl, rfl⟩)
    go_ret
    exact ⟨ret_int (by omega), rfl⟩
set_option maxHeartbeats 400000 in
theorem rsince_any (a b : Int) (w : World) :
    Calls Try.prog 27 #[.int .i64 a, .int .i64 b] w fun e w' => e = .returned (.int .i64 (sn a b)) ∧ w = w' := by
  have ha := hd_range a
  have hb := hd_range b
  by_cases h : 0 < hd a - hd b
  all_goals
    go_enter Try.func27, Try.ntmps27
    go_wp2_with (go_at_call 30; refine (rheld_any _ _).mono ?_; rintro e w' ⟨rfl, rfl⟩)
    go_ret
    exact ⟨ret_int (by unfold sn; omega), rfl⟩
/-- Is a product of ticks at most n? -/
def ft (a b n : Int) : Bool := decide (a * b ≤ n)
theorem ret_bool {a b : Bool} (h : a = b) : Ending.returned (.bool a) = .returned (.bool b) := by rw [h]
theorem ft_zero_left {b n : Int} (hn : 0 ≤ n) : true = ft 0 b n := by unfold ft; simp [hn]
theorem ft_zero_right {a n : Int} (hn : 0 ≤ n) : true = ft a 0 n := by unfold ft; simp [hn]
theorem ft_div {a b n : Int} (ha : 0 < a) : decide (b ≤ n / a) = ft a b n := by
  unfold ft
  have h2 := Int.le_ediv_iff_mul_le (a := b) (b := n) ha
  rw [Int.mul_comm] at h2
  exact decide_eq_decide.2 h2
set_option maxHeartbeats 400000 in
theorem rfits_any (a b n : Int) (w : World) (ha : 0 ≤ a) (ha' : a ≤ 1099511627776) (hb : 0 ≤ b) (hn : 0 ≤ n) (hn' : n ≤ 1099511627776) :
    Calls Try.prog 54 #[.int .i64 a, .int .i64 b, .int .i64 n] w fun e w' => e = .returned (.bool (ft a b n)) ∧ w = w' := by
  by_cases h : a = 0
  · subst h
    go_enter Try.func54, Try.ntmps54
    go_wp2
    go_ret
    exact ⟨ret_bool (ft_zero_left hn), rfl⟩
  · have h1 : (a == 0) = false := beq_eq_false_iff_ne.2 h
    have hq0 : 0 ≤ n / a := Int.ediv_nonneg hn ha
    have hq1 : n / a ≤ n := Int.ediv_le_self _ hn
    have ha0 : 0 < a := by omega
    by_cases k : b = 0
    · subst k
      go_enter Try.func54, Try.ntmps54
      go_wp2
      go_ret
      exact ⟨ret_bool (ft_zero_right hn), rfl⟩
    · have h2 : (b == 0) = false := beq_eq_false_iff_ne.2 k
      go_enter Try.func54, Try.ntmps54
      go_wp2
      go_ret
      exact ⟨ret_bool (ft_div ha0), rfl⟩
theorem ft_yes {a b : Int} (h : ft (hd a) (hd b) 1099511627776 = true) : wrap64 (hd a * hd b) = ml a b := by
  have hm := mul_range a b
  unfold ft at h
  have := of_decide_eq_true h
  unfold ml wrap64
  omega
theorem ft_no {a b : Int} (h : ft (hd a) (hd b) 1099511627776 = false) : 1099511627776 = ml a b := by
  have hm := mul_range a b
  unfold ft at h
  have := of_decide_eq_false h
  unfold ml
  omega
set_option maxHeartbeats 400000 in
theorem rmul_any (a b : Int) (w : World) :
    Calls Try.prog 24 #[.int .i64 a, .int .i64 b] w fun e w' => e = .returned (.int .i64 (ml a b)) ∧ w = w' := by
  have ha := hd_range a
  have hb := hd_range b
  cases h : ft (hd a) (hd b) 1099511627776
  all_goals
    go_enter Try.func24, Try.ntmps24
    go_wp2_with (first | (go_at_call 30; refine (rheld_any _ _).mono ?_; rintro e w' ⟨rfl, rfl⟩) | (go_at_call 54; refine (rfits_any _ _ _ _ ha.1 ha.2 hb.1 (by decide) (by decide)).mono ?_; rintro e w' ⟨rfl, rfl⟩))
    go_ret
    first | exact ⟨ret_int (ft_yes h), rfl⟩ | exact ⟨ret_int (ft_no h), rfl⟩
theorem kp_zero {n l r f : Int} (h : sn n l = 0) : true = kp n l r f := by
  have := ml_range r f
  unfold kp
  rw [h]
  simp [this.1]
theorem kp_fits {n l r f : Int} (_h : ¬ sn n l = 0) : (!ft (hd r) (hd f) (sn n l - 1)) = kp n l r f := by
  have := sn_range n l
  have hm := mul_range r f
  unfold kp ft
  rw [← decide_not]
  apply decide_eq_decide.2
  unfold ml
  omega
set_option maxHeartbeats 400000 in
theorem rkeeps_any (n l r f : Int) (w : World) :
    Calls Try.prog 29 #[.int .i64 n, .int .i64 l, .int .i64 r, .int .i64 f] w fun e w' => e = .returned (.bool (kp n l r f)) ∧ w = w' := by
  have hr := hd_range r
  have hf := hd_range f
  have hs := sn_range n l
  by_cases h : sn n l = 0
  · have h1 : (sn n l == 0) = true := beq_iff_eq.2 h
    have H := Lib.hid h
    clear h
    go_enter Try.func29, Try.ntmps29
    go_wp2_with (first | (go_at_call 27; refine (rsince_any _ _ _).mono ?_; rintro e w' ⟨rfl, rfl⟩))
    go_ret
    exact ⟨ret_bool (kp_zero H.out), rfl⟩
  · have h1 : (sn n l == 0) = false := beq_eq_false_iff_ne.2 h
    have H := Lib.hid h
    have h2 : 1 ≤ sn n l := by omega
    clear h
    go_enter Try.func29, Try.ntmps29
    go_wp2_with (first | (go_at_call 27; refine (rsince_any _ _ _).mono ?_; rintro e w' ⟨rfl, rfl⟩) | (go_at_call 30; refine (rheld_any _ _).mono ?_; rintro e w' ⟨rfl, rfl⟩) | (go_at_call 54; refine (rfits_any _ _ _ _ hr.1 hr.2 hf.1 (by omega) (by omega)).mono ?_; rintro e w' ⟨rfl, rfl⟩))
    go_ret
    exact ⟨ret_bool (kp_fits H.out), rfl⟩
end Go.Proofs.Ytlhbfeddgopfjaa
