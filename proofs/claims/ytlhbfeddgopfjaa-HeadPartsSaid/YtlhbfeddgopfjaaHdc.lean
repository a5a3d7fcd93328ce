/-
  The contracts of head.Of, head.Older and the reference's Word and Of. The cases' premises stand in each theorem; memory below the heap's old size is unchanged.
-/
import Derived.Test.YtlhbfeddgopfjaaHdb
import Derived.Deep.RegionHeld3
namespace Go.Proofs.Ytlhbfeddgopfjaa
open Go.RowKit
/-- What Of reads off a word. -/
def ofb (n k : Int) : Bool := bits .and .i64 (n / (if k = 10 then 1024 else if k = 11 then 2048 else 4096)) 1 == 1
def ocl (n : Int) : Int := bits .and .i64 n 63
def oag (n : Int) : Int := bits .and .i64 (n / 64) 15
def ofw (n : Int) : Int := n / 8192
def ohr (n : Int) : Bool := hr (ocl n) (oag n) (ofw n) (ofb n 11) (ofb n 12)
set_option maxHeartbeats 400000 in
theorem ofbit_any (n k : Int) (b : Nat) (w : World) (hk : k = 10 ∨ k = 11 ∨ k = 12) (hc : w.cell? ⟨b, 0, none⟩ = some (.int .i64 n)) :
    Calls Try.prog 57 #[.int .i64 k, .pointer (some ⟨b, 0, none⟩)] w fun x w' => x = .returned (.bool (ofb n k)) ∧ w' = w := by
  rcases hk with rfl | rfl | rfl
  all_goals
    go_enter Try.func57, Try.ntmps57
    go_wp2
    go_ret
    exact ⟨ret_bool' (by unfold ofb; simp), rfl⟩
set_option maxHeartbeats 400000 in
theorem rword_any (c a f : Int) (m i d : Bool) (w : World) (h : hr c a f i d = true) :
    Calls Try.prog 41 #[.agg #[.int .i64 c, .int .i64 a, .int .i64 f, .bool m, .bool i, .bool d]] w fun x w' => x = .returned (.int .i64 (wd c a f m i d)) ∧ Below w.heap.size w w' := by
  obtain ⟨⟨b0, b1⟩, ⟨b2, b3⟩, ⟨b4, b5⟩, _⟩ := hr_true h
  cases m <;> cases i <;> cases d
  all_goals
    go_enter Try.func41, Try.ntmps41
    go_wp2
    go_ret
    exact ⟨ret_int' (by unfold wd bt'; simp; try omega), (Below.refl _ _).alloc (Nat.le_refl _) _⟩
theorem ret_head {c a a' f : Int} {m i d : Bool} (h : a = a') : Ending.returned (.agg #[.int .i64 c, .int .i64 a, .int .i64 f, .bool m, .bool i, .bool d]) = .returned (.agg #[.int .i64 c, .int .i64 a', .int .i64 f, .bool m, .bool i, .bool d]) := by rw [h]
set_option maxHeartbeats 400000 in
theorem older_any (c a f : Int) (m i d : Bool) (w : World) (h : 0 ≤ a ∧ a ≤ 7) :
    Calls Try.prog 44 #[.agg #[.int .i64 c, .int .i64 a, .int .i64 f, .bool m, .bool i, .bool d]] w fun x w' => x = .returned (.agg #[.int .i64 c, .int .i64 (min (a + 1) 7), .int .i64 f, .bool m, .bool i, .bool d]) ∧ Below w.heap.size w w' := by
  obtain ⟨h0, h1⟩ := h
  by_cases k : a = 7
  · subst k
    go_enter Try.func44, Try.ntmps44
    go_wp2
    exact bodyPost_ret (v := .agg #[.int .i64 c, .int .i64 7, .int .i64 f, .bool m, .bool i, .bool d]) (by simp [results, Try.results44, go_sem]) rfl ⟨ret_head (by omega), (by repeat (first | exact Below.refl _ _ | refine Below.drew ?_ | refine Below.alloc ?_ (by first | exact Nat.le_refl _ | (simp; done) | (simp; omega) | omega) _ | refine Below.setCell ?_ (by first | (simp; done) | (simp; omega) | omega) _ | (apply bstep; rotate_left; assumption; (first | exact Nat.le_refl _ | (focus (simp; done)) | (focus (simp; omega)) | omega))))⟩
  · have k' : a < 7 := by omega
    go_enter Try.func44, Try.ntmps44
    go_wp2
    exact bodyPost_ret (v := .agg #[.int .i64 c, .int .i64 (a + 1), .int .i64 f, .bool m, .bool i, .bool d]) (by simp [results, Try.results44, go_sem]) rfl ⟨ret_head (by omega), (by repeat (first | exact Below.refl _ _ | refine Below.drew ?_ | refine Below.alloc ?_ (by first | exact Nat.le_refl _ | (simp; done) | (simp; omega) | omega) _ | refine Below.setCell ?_ (by first | (simp; done) | (simp; omega) | omega) _ | (apply bstep; rotate_left; assumption; (first | exact Nat.le_refl _ | (focus (simp; done)) | (focus (simp; omega)) | omega))))⟩
set_option maxHeartbeats 2000000 in
theorem of_yesr (n : Int) (w : World) (h : hr (bits .and .i64 n 63) (bits .and .i64 (n / 64) 15) (n / 8192) (ofb n 11) (ofb n 12) = true) :
    Calls Try.prog 42 #[.int .i64 n] w fun x w' => x = .returned (.tuple #[.agg #[.int .i64 (bits .and .i64 n 63), .int .i64 (bits .and .i64 (n / 64) 15), .int .i64 (n / 8192), .bool (ofb n 10), .bool (ofb n 11), .bool (ofb n 12)], .int .i64 0]) ∧ Below w.heap.size w w' := by
  go_enter Try.func42, Try.ntmps42
  go_wp2_with fail
  go_region_held3 (fun w' => w'.cell? ⟨w.heap.size, 0, none⟩ = some (.int .i64 n)) (go_keep)
    (first | (go_at_call 57; refine (ofbit_any n _ _ _ (by decide) (by assumption)).mono ?_; rintro e w' ⟨rfl, rfl⟩))
  all_goals
    rename_i hHeld
    go_wp2_with fail
    refine (hright_any _ _ _ _ _ _ _).mono ?_
    rintro e w1 ⟨rfl, hb⟩
    obtain ⟨hc, hf⟩ := bcell hb
    have hz := hb.size
    simp at hz
    have hz0 : w.heap.size + 1 < w1.heap.size := by omega
    have hz1 : w.heap.size + 2 < w1.heap.size := by omega
    have HB := Lib.hid (((((Below.refl w.heap.size w).alloc (Nat.le_refl _) _).alloc (by simp) _).alloc (by simp; omega) _).drew.trans (hb.mono (by simp; omega)))
    clear hb hHeld
    go_wp2
    exact bodyPost_ret (v := .tuple #[.agg #[.int .i64 (bits .and .i64 n 63), .int .i64 (bits .and .i64 (n / 64) 15), .int .i64 (n / 8192), .bool (ofb n 10), .bool (ofb n 11), .bool (ofb n 12)], .int .i64 0]) (by simp [results, Try.results42, go_sem, *]) rfl ⟨rfl, (by repeat (first | with_reducible exact HB.out | (with_reducible refine Below.setCell ?_ (by simp) _)))⟩
set_option maxHeartbeats 2000000 in
theorem of_nor (n : Int) (w : World) (h : hr (bits .and .i64 n 63) (bits .and .i64 (n / 64) 15) (n / 8192) (ofb n 11) (ofb n 12) = false) :
    Calls Try.prog 42 #[.int .i64 n] w fun x w' => x = .returned (.tuple #[.agg #[.int .i64 0, .int .i64 0, .int .i64 0, .bool false, .bool false, .bool false], .int .i64 12]) ∧ Below w.heap.size w w' := by
  go_enter Try.func42, Try.ntmps42
  go_wp2_with fail
  go_region_held3 (fun w' => w'.cell? ⟨w.heap.size, 0, none⟩ = some (.int .i64 n)) (go_keep)
    (first | (go_at_call 57; refine (ofbit_any n _ _ _ (by decide) (by assumption)).mono ?_; rintro e w' ⟨rfl, rfl⟩))
  all_goals
    rename_i hHeld
    go_wp2_with fail
    refine (hright_any _ _ _ _ _ _ _).mono ?_
    rintro e w1 ⟨rfl, hb⟩
    obtain ⟨hc, hf⟩ := bcell hb
    have hz := hb.size
    simp at hz
    have hz0 : w.heap.size + 1 < w1.heap.size := by omega
    have hz1 : w.heap.size + 2 < w1.heap.size := by omega
    have HB := Lib.hid (((((Below.refl w.heap.size w).alloc (Nat.le_refl _) _).alloc (by simp) _).alloc (by simp; omega) _).drew.trans (hb.mono (by simp; omega)))
    clear hb hHeld
    go_wp2
    exact bodyPost_ret (v := .tuple #[.agg #[.int .i64 0, .int .i64 0, .int .i64 0, .bool false, .bool false, .bool false], .int .i64 12]) (by simp [results, Try.results42, go_sem, *]) rfl ⟨rfl, (by repeat (first | with_reducible exact HB.out | (with_reducible refine Below.setCell ?_ (by simp) _)))⟩
theorem of_yes (n : Int) (w : World) (h : ohr n = true) :
    Calls Try.prog 42 #[.int .i64 n] w fun x w' => x = .returned (.tuple #[.agg #[.int .i64 (ocl n), .int .i64 (oag n), .int .i64 (ofw n), .bool (ofb n 10), .bool (ofb n 11), .bool (ofb n 12)], .int .i64 0]) ∧ Below w.heap.size w w' := of_yesr n w h
theorem of_no (n : Int) (w : World) (h : ohr n = false) :
    Calls Try.prog 42 #[.int .i64 n] w fun x w' => x = .returned (.tuple #[.agg #[.int .i64 0, .int .i64 0, .int .i64 0, .bool false, .bool false, .bool false], .int .i64 12]) ∧ Below w.heap.size w w' := of_nor n w h
end Go.Proofs.Ytlhbfeddgopfjaa
