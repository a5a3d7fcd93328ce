/-
  The contracts of the reference's Of, of head.Of at words of 25 bits, and of the law's own awake. The cases' premises stand in each theorem; memory below the heap's old size is unchanged.
-/
import Derived.Test.YtlhbfeddgopfjaaHdc
namespace Go.Proofs.Ytlhbfeddgopfjaa
open Go.RowKit
/-- What a word of 25 bits tells. -/
def rbt (n k : Int) : Bool := n / k % 2 == 1
def rhr (n : Int) : Bool := hr (n % 64) (n / 64 % 16) (n / 8192) (rbt n 2048) (rbt n 4096)
theorem ocl_in {n : Int} (h0 : 0 ≤ n) (h1 : n < 33554432) : ocl n = n % 64 := bits_mask .i64 63 (by decide) wraps_i64 6 (by decide) n h0 (by omega)
theorem oag_in {n : Int} (h0 : 0 ≤ n) (h1 : n < 33554432) : oag n = n / 64 % 16 := bits_mask .i64 63 (by decide) wraps_i64 4 (by decide) (n / 64) (by omega) (by omega)
theorem ofb_in {n : Int} (h0 : 0 ≤ n) (h1 : n < 33554432) : ofb n 10 = rbt n 1024 ∧ ofb n 11 = rbt n 2048 ∧ ofb n 12 = rbt n 4096 := by
  have e : ∀ x : Int, 0 ≤ x → x < 2 ^ 63 → bits .and .i64 x 1 = x % 2 := fun x k0 k1 => bits_mask .i64 63 (by decide) wraps_i64 1 (by decide) x k0 k1
  refine ⟨?_, ?_, ?_⟩
  · unfold ofb rbt
    rw [if_pos rfl, e (n / 1024) (by omega) (by omega)]
  · unfold ofb rbt
    rw [if_neg (by decide), if_pos rfl, e (n / 2048) (by omega) (by omega)]
  · unfold ofb rbt
    rw [if_neg (by decide), if_neg (by decide), e (n / 4096) (by omega) (by omega)]
theorem ohr_in {n : Int} (h0 : 0 ≤ n) (h1 : n < 33554432) : ohr n = rhr n := by
  obtain ⟨_, e2, e3⟩ := ofb_in h0 h1
  unfold ohr rhr
  rw [ocl_in h0 h1, oag_in h0 h1, e2, e3]
  rfl
theorem ohr_out {n : Int} (h : n < 0 ∨ 33554432 ≤ n) : ohr n = false := by
  have k : wn (ofw n) 4096 = false := wn_no (by unfold ofw; omega)
  unfold ohr hr
  rw [k]
  simp
theorem of_in (n : Int) (w : World) (h0 : 0 ≤ n) (h1 : n < 33554432) (h : rhr n = true) :
    Calls Try.prog 42 #[.int .i64 n] w fun x w' => x = .returned (.tuple #[.agg #[.int .i64 (n % 64), .int .i64 (n / 64 % 16), .int .i64 (n / 8192), .bool (rbt n 1024), .bool (rbt n 2048), .bool (rbt n 4096)], .int .i64 0]) ∧ Below w.heap.size w w' := by
  obtain ⟨e1, e2, e3⟩ := ofb_in h0 h1
  rw [← ocl_in h0 h1, ← oag_in h0 h1, ← e1, ← e2, ← e3]
  exact of_yes n w (by rw [ohr_in h0 h1]; exact h)
set_option maxHeartbeats 1000000 in
theorem rof_low (n : Int) (w : World) (h : n < 0) :
    Calls Try.prog 43 #[.int .i64 n] w fun x w' => x = .returned (.tuple #[.agg #[.int .i64 0, .int .i64 0, .int .i64 0, .bool false, .bool false, .bool false], .int .i64 12]) ∧ Below w.heap.size w w' := by
  go_enter Try.func43, Try.ntmps43
  go_wp2
  exact bodyPost_ret (v := .tuple #[.agg #[.int .i64 0, .int .i64 0, .int .i64 0, .bool false, .bool false, .bool false], .int .i64 12]) (by simp [results, Try.results43, go_sem]) rfl ⟨rfl, (Below.refl _ _).alloc (Nat.le_refl _) _⟩
set_option maxHeartbeats 1000000 in
theorem rof_high (n : Int) (w : World) (h : 33554432 ≤ n) :
    Calls Try.prog 43 #[.int .i64 n] w fun x w' => x = .returned (.tuple #[.agg #[.int .i64 0, .int .i64 0, .int .i64 0, .bool false, .bool false, .bool false], .int .i64 12]) ∧ Below w.heap.size w w' := by
  have d : decide (n < 0) = false := decide_eq_false (by omega)
  go_enter Try.func43, Try.ntmps43
  go_wp2
  exact bodyPost_ret (v := .tuple #[.agg #[.int .i64 0, .int .i64 0, .int .i64 0, .bool false, .bool false, .bool false], .int .i64 12]) (by simp [results, Try.results43, go_sem]) rfl ⟨rfl, (Below.refl _ _).alloc (Nat.le_refl _) _⟩
set_option maxHeartbeats 1000000 in
theorem rof_yesr (n : Int) (w : World) (h0 : 0 ≤ n) (h1 : n < 33554432) (h : hr (n % 64) (n / 64 % 16) (n / 8192) (n / 2048 % 2 == 1) (n / 4096 % 2 == 1) = true) :
    Calls Try.prog 43 #[.int .i64 n] w fun x w' => x = .returned (.tuple #[.agg #[.int .i64 (n % 64), .int .i64 (n / 64 % 16), .int .i64 (n / 8192), .bool (n / 1024 % 2 == 1), .bool (n / 2048 % 2 == 1), .bool (n / 4096 % 2 == 1)], .int .i64 0]) ∧ Below w.heap.size w w' := by
  have d : decide (n < 0) = false := decide_eq_false (by omega)
  go_enter Try.func43, Try.ntmps43
  go_wp2_with fail
  refine (rhright_any _ _ _ _ _ _ _).mono ?_
  rintro e w1 ⟨rfl, hb⟩
  have N_z := Lib.hid (((Blk.new' (k := w.heap.size) (by simp) #[.int .i64 0, .int .i64 0, .int .i64 0, .bool false, .bool false, .bool false] 41).alloc _).below hb (by first | assumption | (simp; done) | (simp; omega) | omega))
  have N_h := Lib.hid ((Blk.new' (k := w.heap.size + 1) (by simp) #[.int .i64 (n % 64), .int .i64 (n / 64 % 16), .int .i64 (n / 8192), .bool (n / 1024 % 2 == 1), .bool (n / 2048 % 2 == 1), .bool (n / 4096 % 2 == 1)] 41).below hb (by first | assumption | (simp; done) | (simp; omega) | omega))
  have N_HB := Lib.hid ((((Below.refl w.heap.size w).alloc (by first | exact Nat.le_refl _ | assumption | (simp; done) | (simp; omega) | omega) _).alloc (by first | exact Nat.le_refl _ | assumption | (simp; done) | (simp; omega) | omega) _).trans (hb.mono (by first | exact Nat.le_refl _ | assumption | (simp; done) | (simp; omega) | omega)))
  clear hb
  have S_z := Lib.hid N_z.out
  clear N_z
  have S_h := Lib.hid N_h.out
  clear N_h
  have HB_ := Lib.hid N_HB.out
  clear N_HB
  have hz_ : w.heap.size ≤ w1.heap.size := HB_.out.size
  have hl_z : w.heap.size < w1.heap.size := S_z.out.lt
  have c_z_0 : w1.cell? ⟨w.heap.size, 0, none⟩ = some (.int .i64 0) := S_z.out.cell (i := 0) rfl
  have c_z_1 : w1.cell? ⟨w.heap.size, 1, none⟩ = some (.int .i64 0) := S_z.out.cell (i := 1) rfl
  have c_z_2 : w1.cell? ⟨w.heap.size, 2, none⟩ = some (.int .i64 0) := S_z.out.cell (i := 2) rfl
  have c_z_3 : w1.cell? ⟨w.heap.size, 3, none⟩ = some (.bool false) := S_z.out.cell (i := 3) rfl
  have c_z_4 : w1.cell? ⟨w.heap.size, 4, none⟩ = some (.bool false) := S_z.out.cell (i := 4) rfl
  have c_z_5 : w1.cell? ⟨w.heap.size, 5, none⟩ = some (.bool false) := S_z.out.cell (i := 5) rfl
  have hl_h : w.heap.size + 1 < w1.heap.size := S_h.out.lt
  have c_h_0 : w1.cell? ⟨w.heap.size + 1, 0, none⟩ = some (.int .i64 (n % 64)) := S_h.out.cell (i := 0) rfl
  have c_h_1 : w1.cell? ⟨w.heap.size + 1, 1, none⟩ = some (.int .i64 (n / 64 % 16)) := S_h.out.cell (i := 1) rfl
  have c_h_2 : w1.cell? ⟨w.heap.size + 1, 2, none⟩ = some (.int .i64 (n / 8192)) := S_h.out.cell (i := 2) rfl
  have c_h_3 : w1.cell? ⟨w.heap.size + 1, 3, none⟩ = some (.bool (n / 1024 % 2 == 1)) := S_h.out.cell (i := 3) rfl
  have c_h_4 : w1.cell? ⟨w.heap.size + 1, 4, none⟩ = some (.bool (n / 2048 % 2 == 1)) := S_h.out.cell (i := 4) rfl
  have c_h_5 : w1.cell? ⟨w.heap.size + 1, 5, none⟩ = some (.bool (n / 4096 % 2 == 1)) := S_h.out.cell (i := 5) rfl
  have f_z : ∀ o, w1.frozen? ⟨w.heap.size, o, none⟩ = false := fun o => S_z.out.free o
  go_wp2
  exact bodyPost_ret (v := .tuple #[.agg #[.int .i64 (n % 64), .int .i64 (n / 64 % 16), .int .i64 (n / 8192), .bool (n / 1024 % 2 == 1), .bool (n / 2048 % 2 == 1), .bool (n / 4096 % 2 == 1)], .int .i64 0]) (by simp [results, Try.results43, go_sem, *]) rfl ⟨rfl, (by repeat (first | with_reducible exact HB_.out | (with_reducible refine Below.setCell ?_ (by simp) _)))⟩
set_option maxHeartbeats 1000000 in
theorem rof_nor (n : Int) (w : World) (h0 : 0 ≤ n) (h1 : n < 33554432) (h : hr (n % 64) (n / 64 % 16) (n / 8192) (n / 2048 % 2 == 1) (n / 4096 % 2 == 1) = false) :
    Calls Try.prog 43 #[.int .i64 n] w fun x w' => x = .returned (.tuple #[.agg #[.int .i64 0, .int .i64 0, .int .i64 0, .bool false, .bool false, .bool false], .int .i64 12]) ∧ Below w.heap.size w w' := by
  have d : decide (n < 0) = false := decide_eq_false (by omega)
  go_enter Try.func43, Try.ntmps43
  go_wp2_with fail
  refine (rhright_any _ _ _ _ _ _ _).mono ?_
  rintro e w1 ⟨rfl, hb⟩
  have N_z := Lib.hid (((Blk.new' (k := w.heap.size) (by simp) #[.int .i64 0, .int .i64 0, .int .i64 0, .bool false, .bool false, .bool false] 41).alloc _).below hb (by first | assumption | (simp; done) | (simp; omega) | omega))
  have N_h := Lib.hid ((Blk.new' (k := w.heap.size + 1) (by simp) #[.int .i64 (n % 64), .int .i64 (n / 64 % 16), .int .i64 (n / 8192), .bool (n / 1024 % 2 == 1), .bool (n / 2048 % 2 == 1), .bool (n / 4096 % 2 == 1)] 41).below hb (by first | assumption | (simp; done) | (simp; omega) | omega))
  have N_HB := Lib.hid ((((Below.refl w.heap.size w).alloc (by first | exact Nat.le_refl _ | assumption | (simp; done) | (simp; omega) | omega) _).alloc (by first | exact Nat.le_refl _ | assumption | (simp; done) | (simp; omega) | omega) _).trans (hb.mono (by first | exact Nat.le_refl _ | assumption | (simp; done) | (simp; omega) | omega)))
  clear hb
  have S_z := Lib.hid N_z.out
  clear N_z
  have S_h := Lib.hid N_h.out
  clear N_h
  have HB_ := Lib.hid N_HB.out
  clear N_HB
  have hz_ : w.heap.size ≤ w1.heap.size := HB_.out.size
  have hl_z : w.heap.size < w1.heap.size := S_z.out.lt
  have c_z_0 : w1.cell? ⟨w.heap.size, 0, none⟩ = some (.int .i64 0) := S_z.out.cell (i := 0) rfl
  have c_z_1 : w1.cell? ⟨w.heap.size, 1, none⟩ = some (.int .i64 0) := S_z.out.cell (i := 1) rfl
  have c_z_2 : w1.cell? ⟨w.heap.size, 2, none⟩ = some (.int .i64 0) := S_z.out.cell (i := 2) rfl
  have c_z_3 : w1.cell? ⟨w.heap.size, 3, none⟩ = some (.bool false) := S_z.out.cell (i := 3) rfl
  have c_z_4 : w1.cell? ⟨w.heap.size, 4, none⟩ = some (.bool false) := S_z.out.cell (i := 4) rfl
  have c_z_5 : w1.cell? ⟨w.heap.size, 5, none⟩ = some (.bool false) := S_z.out.cell (i := 5) rfl
  have hl_h : w.heap.size + 1 < w1.heap.size := S_h.out.lt
  have c_h_0 : w1.cell? ⟨w.heap.size + 1, 0, none⟩ = some (.int .i64 (n % 64)) := S_h.out.cell (i := 0) rfl
  have c_h_1 : w1.cell? ⟨w.heap.size + 1, 1, none⟩ = some (.int .i64 (n / 64 % 16)) := S_h.out.cell (i := 1) rfl
  have c_h_2 : w1.cell? ⟨w.heap.size + 1, 2, none⟩ = some (.int .i64 (n / 8192)) := S_h.out.cell (i := 2) rfl
  have c_h_3 : w1.cell? ⟨w.heap.size + 1, 3, none⟩ = some (.bool (n / 1024 % 2 == 1)) := S_h.out.cell (i := 3) rfl
  have c_h_4 : w1.cell? ⟨w.heap.size + 1, 4, none⟩ = some (.bool (n / 2048 % 2 == 1)) := S_h.out.cell (i := 4) rfl
  have c_h_5 : w1.cell? ⟨w.heap.size + 1, 5, none⟩ = some (.bool (n / 4096 % 2 == 1)) := S_h.out.cell (i := 5) rfl
  have f_z : ∀ o, w1.frozen? ⟨w.heap.size, o, none⟩ = false := fun o => S_z.out.free o
  go_wp2
  exact bodyPost_ret (v := .tuple #[.agg #[.int .i64 0, .int .i64 0, .int .i64 0, .bool false, .bool false, .bool false], .int .i64 12]) (by simp [results, Try.results43, go_sem, *]) rfl ⟨rfl, (by repeat (first | with_reducible exact HB_.out | (with_reducible refine Below.setCell ?_ (by simp) _)))⟩
theorem rof_yes (n : Int) (w : World) (h0 : 0 ≤ n) (h1 : n < 33554432) (h : rhr n = true) :
    Calls Try.prog 43 #[.int .i64 n] w fun x w' => x = .returned (.tuple #[.agg #[.int .i64 (n % 64), .int .i64 (n / 64 % 16), .int .i64 (n / 8192), .bool (rbt n 1024), .bool (rbt n 2048), .bool (rbt n 4096)], .int .i64 0]) ∧ Below w.heap.size w w' := rof_yesr n w h0 h1 h
theorem rof_no (n : Int) (w : World) (h : ohr n = false) :
    Calls Try.prog 43 #[.int .i64 n] w fun x w' => x = .returned (.tuple #[.agg #[.int .i64 0, .int .i64 0, .int .i64 0, .bool false, .bool false, .bool false], .int .i64 12]) ∧ Below w.heap.size w w' := by
  by_cases h0 : n < 0
  · exact rof_low n w h0
  · by_cases h1 : 33554432 ≤ n
    · exact rof_high n w h1
    · rw [ohr_in (by omega) (by omega)] at h
      exact rof_nor n w (by omega) (by omega) h
theorem wd_3 : wd 3 2 0 false true false = 2179 := by decide
set_option maxHeartbeats 1000000 in
theorem hawake_any (w : World) : Calls Try.prog 37 #[] w fun x w' => x = .returned (.bool true) ∧ Below w.heap.size w w' := by
  have g := wd_3
  have g1 : rbt 2179 2048 = true := by decide
  go_enter Try.func37, Try.ntmps37
  go_wp2_with fail
  refine (word_yes _ _ _ _ _ _ _ (by decide)).mono ?_
  rintro e w1 ⟨rfl, hb⟩
  have N_HB := Lib.hid ((Below.refl w.heap.size w).trans (hb.mono (by first | exact Nat.le_refl _ | assumption | (simp; done) | (simp; omega) | omega)))
  clear hb
  have HB_ := Lib.hid N_HB.out
  clear N_HB
  have hz_ : w.heap.size ≤ w1.heap.size := HB_.out.size
  go_wp2_with fail
  refine (of_in _ _ (by decide) (by decide) (by decide)).mono ?_
  rintro e w2 ⟨rfl, hb⟩
  have N_HB := Lib.hid (HB_.out.trans (hb.mono (by first | exact Nat.le_refl _ | assumption | (simp; done) | (simp; omega) | omega)))
  clear hb HB_ hz_
  have HB_ := Lib.hid N_HB.out
  clear N_HB
  have hz_ : w.heap.size ≤ w2.heap.size := HB_.out.size
  go_wp2
  go_ret
  exact ⟨rfl, HB_.out.alloc hz_ _⟩
end Go.Proofs.Ytlhbfeddgopfjaa
