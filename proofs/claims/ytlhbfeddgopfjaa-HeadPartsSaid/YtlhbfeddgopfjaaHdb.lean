/-
  The contracts of head.Word, head.Of, head.Older, the reference's Word and Of, and of the law's own awake. The cases' premises stand in each theorem; memory below the heap's old size is unchanged.
-/
import Derived.Test.YtlhbfeddgopfjaaHda
namespace Go.Proofs.Ytlhbfeddgopfjaa
open Go.RowKit

/-- A head's word. -/
def wd (c a f : Int) (m i d : Bool) : Int := c + 64 * a + 8192 * f + bt' m 1024 + bt' i 2048 + bt' d 4096
theorem hr_true {c a f : Int} {i d : Bool} (h : hr c a f i d = true) : (0 ≤ c ∧ c < 64) ∧ (0 ≤ a ∧ a < 8) ∧ (0 ≤ f ∧ f < 4096) ∧ ¬ (i = true ∧ d = true) := by
  unfold hr at h
  simp only [Bool.and_eq_true] at h
  obtain ⟨⟨⟨h1, h2⟩, h3⟩, h4⟩ := h
  refine ⟨wn_true h1, wn_true h2, wn_true h3, ?_⟩
  rintro ⟨rfl, rfl⟩
  simp at h4
theorem wraps_i64 (n : Int) (h₀ : 0 ≤ n) (h₁ : n < 2 ^ 63) : IntKind.i64.wrap n = n := by rw [IntKind.wrap_i64]; omega
theorem bits_or_comm (k : IntKind) (x y : Int) : bits .or k x y = bits .or k y x := by
  simp only [bits]
  rw [BitVec.or_comm]
theorem or_join (i : Nat) (x y : Int) (hx0 : 0 ≤ x) (hx : x < 2 ^ i) (hx1 : x < 2 ^ 63) (hy0 : 0 ≤ y) (hy : y < 2 ^ 63) (hm : y % 2 ^ i = 0) : bits .or .i64 x y = x + y := by
  rw [bits_or_comm, bits_join .i64 63 (by decide) wraps_i64 i y x hy0 hm hy hx0 hx hx1]
  omega
theorem bt_cases (b : Bool) (n : Int) : bt' b n = 0 ∨ bt' b n = n := by cases b <;> simp [bt']
/-- The bit at place k. -/
def bv (b : Bool) (k : Int) : Int := bt' b (if k = 10 then 1024 else if k = 11 then 2048 else 4096)
theorem bit_bw (b : Bool) (k : Int) (h : k = 10 ∨ k = 11 ∨ k = 12) (w : World) :
    Calls Try.prog 55 #[.bool b, .int .i64 k] w fun x w' => x = .returned (.int .i64 (bv b k)) ∧ Below w.heap.size w w' := by
  rcases h with rfl | rfl | rfl
  · exact (bit_any b 10 1024 (.inl ⟨rfl, rfl⟩) w).mono fun _ _ h => ⟨h.1, h.2 ▸ Below.refl _ _⟩
  · exact (bit_any b 11 2048 (.inr (.inl ⟨rfl, rfl⟩)) w).mono fun _ _ h => ⟨h.1, h.2 ▸ Below.refl _ _⟩
  · exact (bit_any b 12 4096 (.inr (.inr ⟨rfl, rfl⟩)) w).mono fun _ _ h => ⟨h.1, h.2 ▸ Below.refl _ _⟩
set_option maxHeartbeats 400000 in
theorem word_no (c a f : Int) (m i d : Bool) (w : World) (h : hr c a f i d = false) :
    Calls Try.prog 38 #[.agg #[.int .i64 c, .int .i64 a, .int .i64 f, .bool m, .bool i, .bool d]] w fun x w' => x = .returned (.tuple #[.int .i64 0, .int .i64 1]) ∧ Below w.heap.size w w' := by
  go_enter Try.func38, Try.ntmps38
  go_wp2_with (go_at_call 40; refine (hright_any _ _ _ _ _ _ _).mono ?_; rintro e w1 ⟨rfl, hb⟩)
  go_ret2
  exact ⟨rfl, (by repeat (first | exact Below.refl _ _ | refine Below.drew ?_ | refine Below.alloc ?_ (by first | exact Nat.le_refl _ | (simp; done) | (simp; omega) | omega) _ | refine Below.setCell ?_ (by first | (simp; done) | (simp; omega) | omega) _ | (apply bstep; rotate_left; assumption; (first | exact Nat.le_refl _ | (focus (simp; done)) | (focus (simp; omega)) | omega))))⟩
theorem bv_10 (b : Bool) : bv b 10 = bt' b 1024 := rfl
theorem bv_11 (b : Bool) : bv b 11 = bt' b 2048 := rfl
theorem bv_12 (b : Bool) : bv b 12 = bt' b 4096 := rfl
theorem word_or {c a f : Int} (m i d : Bool) (b0 : 0 ≤ c) (b1 : c < 64) (b2 : 0 ≤ a) (b3 : a < 8) (b4 : 0 ≤ f) (b5 : f < 4096) :
    bits .or .i64 (bits .or .i64 (bits .or .i64 (bits .or .i64 (bits .or .i64 c (a * 64)) (bv m 10)) (bv i 11)) (bv d 12)) (f * 8192) = wd c a f m i d := by
  rw [bv_10, bv_11, bv_12]
  have h1 := bt_cases m 1024
  have h2 := bt_cases i 2048
  have h3 := bt_cases d 4096
  rw [or_join 6 c (a * 64) b0 (by omega) (by omega) (by omega) (by omega) (by omega)]
  rw [or_join 10 (c + a * 64) (bt' m 1024) (by omega) (by omega) (by omega) (by omega) (by omega) (by omega)]
  rw [or_join 11 (c + a * 64 + bt' m 1024) (bt' i 2048) (by omega) (by omega) (by omega) (by omega) (by omega) (by omega)]
  rw [or_join 12 (c + a * 64 + bt' m 1024 + bt' i 2048) (bt' d 4096) (by omega) (by omega) (by omega) (by omega) (by omega) (by omega)]
  rw [or_join 13 (c + a * 64 + bt' m 1024 + bt' i 2048 + bt' d 4096) (f * 8192) (by omega) (by omega) (by omega) (by omega) (by omega) (by omega)]
  unfold wd
  omega
theorem ret_pair {x y z u : Int} (h : x = y) (k : z = u) : Ending.returned (.tuple #[.int .i64 x, .int .i64 z]) = .returned (.tuple #[.int .i64 y, .int .i64 u]) := by rw [h, k]
set_option maxHeartbeats 1000000 in
theorem word_yes (c a f : Int) (m i d : Bool) (w : World) (h : hr c a f i d = true) :
    Calls Try.prog 38 #[.agg #[.int .i64 c, .int .i64 a, .int .i64 f, .bool m, .bool i, .bool d]] w fun x w' => x = .returned (.tuple #[.int .i64 (wd c a f m i d), .int .i64 0]) ∧ Below w.heap.size w w' := by
  obtain ⟨⟨b0, b1⟩, ⟨b2, b3⟩, ⟨b4, b5⟩, _⟩ := hr_true h
  go_enter Try.func38, Try.ntmps38
  go_wp2_with fail
  refine (hright_any _ _ _ _ _ _ _).mono ?_
  rintro e w1 ⟨rfl, hb⟩
  have N_h := Lib.hid ((Blk.new' (k := w.heap.size) (by simp) #[.int .i64 c, .int .i64 a, .int .i64 f, .bool m, .bool i, .bool d] 42).below hb (by first | assumption | (simp; done) | (simp; omega) | omega))
  have N_HB := Lib.hid (((Below.refl w.heap.size w).alloc (by first | exact Nat.le_refl _ | assumption | (simp; done) | (simp; omega) | omega) _).trans (hb.mono (by first | exact Nat.le_refl _ | assumption | (simp; done) | (simp; omega) | omega)))
  clear hb
  have S_h := Lib.hid N_h.out
  clear N_h
  have HB_ := Lib.hid N_HB.out
  clear N_HB
  have hz_ : w.heap.size ≤ w1.heap.size := HB_.out.size
  have hl_h : w.heap.size < w1.heap.size := S_h.out.lt
  have c_h_0 : w1.cell? ⟨w.heap.size, 0, none⟩ = some (.int .i64 c) := S_h.out.cell (i := 0) rfl
  have c_h_1 : w1.cell? ⟨w.heap.size, 1, none⟩ = some (.int .i64 a) := S_h.out.cell (i := 1) rfl
  have c_h_2 : w1.cell? ⟨w.heap.size, 2, none⟩ = some (.int .i64 f) := S_h.out.cell (i := 2) rfl
  have c_h_3 : w1.cell? ⟨w.heap.size, 3, none⟩ = some (.bool m) := S_h.out.cell (i := 3) rfl
  have c_h_4 : w1.cell? ⟨w.heap.size, 4, none⟩ = some (.bool i) := S_h.out.cell (i := 4) rfl
  have c_h_5 : w1.cell? ⟨w.heap.size, 5, none⟩ = some (.bool d) := S_h.out.cell (i := 5) rfl
  have hq_ := bw_cell w1
  go_wp2_with fail
  refine wp_region_bw (by kernel_rfl) (by kernel_rfl) ?_
  repeat go_big_quiet_step ((go_at_call 55; exact calls_bw (bit_bw _ _ (by decide) _)))
  with_reducible refine wpQuiet_nil ?_
  rintro ⟨w2, hb⟩
  dsimp only
  clear hq_
  go_wp2
  go_ret2
  exact ⟨ret_pair (word_or m i d b0 b1 b2 b3 b4 b5) rfl, HB_.out.trans (hb.mono hz_)⟩
end Go.Proofs.Ytlhbfeddgopfjaa
