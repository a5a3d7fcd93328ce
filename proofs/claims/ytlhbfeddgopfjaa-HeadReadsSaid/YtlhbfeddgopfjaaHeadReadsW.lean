/-
  The walk of the law HeadReads: for every int word it returns true, and memory below the heap's old size is unchanged. No condition.
-/
import Derived.Test.YtlhbfeddgopfjaaHde
namespace Go.Proofs.Ytlhbfeddgopfjaa
open Go.RowKit
theorem wd_back {n : Int} (_h0 : 0 ≤ n) : wd (n % 64) (n / 64 % 16) (n / 8192) (rbt n 1024) (rbt n 2048) (rbt n 4096) = n := by
  have e : ∀ k : Int, ∀ v : Int, bt' (rbt n k) v = if n / k % 2 = 1 then v else 0 := fun k v => by
    unfold bt' rbt
    by_cases h : n / k % 2 = 1 <;> simp [h]
  unfold wd
  rw [e, e, e]
  (repeat' split) <;> omega
theorem wd_zero : wd 0 0 0 false false false = 0 := by decide
theorem ohr_range {n : Int} (h : ohr n = true) : 0 ≤ n ∧ n < 33554432 := by
  by_cases k : n < 0 ∨ 33554432 ≤ n
  · rw [ohr_out k] at h
    exact absurd h (by decide)
  · omega
set_option maxHeartbeats 2000000 in
set_option maxRecDepth 100000 in
theorem hreads_yes (w : World) (n : Int) (h0 : 0 ≤ n) (h1 : n < 33554432) (h : rhr n = true) :
    Calls Try.prog 10 #[.int .i64 n] w fun x w' => x = .returned (.bool true) ∧ Below w.heap.size w w' := by
  have b := wd_back h0
  go_enter Try.func10, Try.ntmps10
  go_wp2_with fail
  refine (hawake_any _).mono ?_
  rintro e w1 ⟨rfl, hb⟩
  have N_HB := Lib.hid ((Below.refl w.heap.size w).trans (hb.mono (by first | exact Nat.le_refl _ | assumption | (simp; done) | (simp; omega) | omega)))
  clear hb
  have HB_ := Lib.hid N_HB.out
  clear N_HB
  have hz_ : w.heap.size ≤ w1.heap.size := HB_.out.size
  go_wp2_with fail
  refine (of_in n _ h0 h1 h).mono ?_
  rintro e w2 ⟨rfl, hb⟩
  have N_HB := Lib.hid (HB_.out.trans (hb.mono (by first | exact Nat.le_refl _ | assumption | (simp; done) | (simp; omega) | omega)))
  clear hb HB_ hz_
  have HB_ := Lib.hid N_HB.out
  clear N_HB
  have hz_ : w.heap.size ≤ w2.heap.size := HB_.out.size
  go_wp2_with fail
  refine (rof_yes n _ h0 h1 h).mono ?_
  rintro e w3 ⟨rfl, hb⟩
  have N_h := Lib.hid ((Blk.new' (k := w2.heap.size) (by simp) #[.int .i64 (n % 64), .int .i64 (n / 64 % 16), .int .i64 (n / 8192), .bool (rbt n 1024), .bool (rbt n 2048), .bool (rbt n 4096)] 42).below hb (by first | assumption | (simp; done) | (simp; omega) | omega))
  have N_HB := Lib.hid ((HB_.out.alloc (by first | exact Nat.le_refl _ | assumption | (simp; done) | (simp; omega) | omega) _).trans (hb.mono (by first | exact Nat.le_refl _ | assumption | (simp; done) | (simp; omega) | omega)))
  clear hb HB_ hz_
  have S_h := Lib.hid N_h.out
  clear N_h
  have HB_ := Lib.hid N_HB.out
  clear N_HB
  have hz_ : w.heap.size ≤ w3.heap.size := HB_.out.size
  have hl_h : w2.heap.size < w3.heap.size := S_h.out.lt
  have c_h_0 : w3.cell? ⟨w2.heap.size, 0, none⟩ = some (.int .i64 (n % 64)) := S_h.out.cell (i := 0) rfl
  have c_h_1 : w3.cell? ⟨w2.heap.size, 1, none⟩ = some (.int .i64 (n / 64 % 16)) := S_h.out.cell (i := 1) rfl
  have c_h_2 : w3.cell? ⟨w2.heap.size, 2, none⟩ = some (.int .i64 (n / 8192)) := S_h.out.cell (i := 2) rfl
  have c_h_3 : w3.cell? ⟨w2.heap.size, 3, none⟩ = some (.bool (rbt n 1024)) := S_h.out.cell (i := 3) rfl
  have c_h_4 : w3.cell? ⟨w2.heap.size, 4, none⟩ = some (.bool (rbt n 2048)) := S_h.out.cell (i := 4) rfl
  have c_h_5 : w3.cell? ⟨w2.heap.size, 5, none⟩ = some (.bool (rbt n 4096)) := S_h.out.cell (i := 5) rfl
  go_wp2_with fail
  refine (word_yes _ _ _ _ _ _ _ h).mono ?_
  rintro e w4 ⟨rfl, hb⟩
  have N_h := Lib.hid (((S_h.out).alloc _).below hb (by first | assumption | (simp; done) | (simp; omega) | omega))
  have N_x := Lib.hid ((Blk.new' (k := w3.heap.size) (by simp) #[.int .i64 (n % 64), .int .i64 (n / 64 % 16), .int .i64 (n / 8192), .bool (rbt n 1024), .bool (rbt n 2048), .bool (rbt n 4096)] 41).below hb (by first | assumption | (simp; done) | (simp; omega) | omega))
  have N_HB := Lib.hid ((HB_.out.alloc (by first | exact Nat.le_refl _ | assumption | (simp; done) | (simp; omega) | omega) _).trans (hb.mono (by first | exact Nat.le_refl _ | assumption | (simp; done) | (simp; omega) | omega)))
  clear hb S_h hl_h c_h_0 c_h_1 c_h_2 c_h_3 c_h_4 c_h_5 HB_ hz_
  have S_h := Lib.hid N_h.out
  clear N_h
  have S_x := Lib.hid N_x.out
  clear N_x
  have HB_ := Lib.hid N_HB.out
  clear N_HB
  have hz_ : w.heap.size ≤ w4.heap.size := HB_.out.size
  have hl_h : w2.heap.size < w4.heap.size := S_h.out.lt
  have c_h_0 : w4.cell? ⟨w2.heap.size, 0, none⟩ = some (.int .i64 (n % 64)) := S_h.out.cell (i := 0) rfl
  have c_h_1 : w4.cell? ⟨w2.heap.size, 1, none⟩ = some (.int .i64 (n / 64 % 16)) := S_h.out.cell (i := 1) rfl
  have c_h_2 : w4.cell? ⟨w2.heap.size, 2, none⟩ = some (.int .i64 (n / 8192)) := S_h.out.cell (i := 2) rfl
  have c_h_3 : w4.cell? ⟨w2.heap.size, 3, none⟩ = some (.bool (rbt n 1024)) := S_h.out.cell (i := 3) rfl
  have c_h_4 : w4.cell? ⟨w2.heap.size, 4, none⟩ = some (.bool (rbt n 2048)) := S_h.out.cell (i := 4) rfl
  have c_h_5 : w4.cell? ⟨w2.heap.size, 5, none⟩ = some (.bool (rbt n 4096)) := S_h.out.cell (i := 5) rfl
  have hl_x : w3.heap.size < w4.heap.size := S_x.out.lt
  have c_x_0 : w4.cell? ⟨w3.heap.size, 0, none⟩ = some (.int .i64 (n % 64)) := S_x.out.cell (i := 0) rfl
  have c_x_1 : w4.cell? ⟨w3.heap.size, 1, none⟩ = some (.int .i64 (n / 64 % 16)) := S_x.out.cell (i := 1) rfl
  have c_x_2 : w4.cell? ⟨w3.heap.size, 2, none⟩ = some (.int .i64 (n / 8192)) := S_x.out.cell (i := 2) rfl
  have c_x_3 : w4.cell? ⟨w3.heap.size, 3, none⟩ = some (.bool (rbt n 1024)) := S_x.out.cell (i := 3) rfl
  have c_x_4 : w4.cell? ⟨w3.heap.size, 4, none⟩ = some (.bool (rbt n 2048)) := S_x.out.cell (i := 4) rfl
  have c_x_5 : w4.cell? ⟨w3.heap.size, 5, none⟩ = some (.bool (rbt n 4096)) := S_x.out.cell (i := 5) rfl
  go_wp2
  go_ret
  exact ⟨rfl, HB_.out⟩
set_option maxHeartbeats 2000000 in
set_option maxRecDepth 100000 in
theorem hreads_no (w : World) (n : Int) (h : ohr n = false) :
    Calls Try.prog 10 #[.int .i64 n] w fun x w' => x = .returned (.bool true) ∧ Below w.heap.size w w' := by
  go_enter Try.func10, Try.ntmps10
  go_wp2_with fail
  refine (hawake_any _).mono ?_
  rintro e w1 ⟨rfl, hb⟩
  have N_HB := Lib.hid ((Below.refl w.heap.size w).trans (hb.mono (by first | exact Nat.le_refl _ | assumption | (simp; done) | (simp; omega) | omega)))
  clear hb
  have HB_ := Lib.hid N_HB.out
  clear N_HB
  have hz_ : w.heap.size ≤ w1.heap.size := HB_.out.size
  go_wp2_with fail
  refine (of_no n _ h).mono ?_
  rintro e w2 ⟨rfl, hb⟩
  have N_HB := Lib.hid (HB_.out.trans (hb.mono (by first | exact Nat.le_refl _ | assumption | (simp; done) | (simp; omega) | omega)))
  clear hb HB_ hz_
  have HB_ := Lib.hid N_HB.out
  clear N_HB
  have hz_ : w.heap.size ≤ w2.heap.size := HB_.out.size
  go_wp2_with fail
  refine (rof_no n _ h).mono ?_
  rintro e w3 ⟨rfl, hb⟩
  have N_h := Lib.hid ((Blk.new' (k := w2.heap.size) (by simp) #[.int .i64 0, .int .i64 0, .int .i64 0, .bool false, .bool false, .bool false] 42).below hb (by first | assumption | (simp; done) | (simp; omega) | omega))
  have N_HB := Lib.hid ((HB_.out.alloc (by first | exact Nat.le_refl _ | assumption | (simp; done) | (simp; omega) | omega) _).trans (hb.mono (by first | exact Nat.le_refl _ | assumption | (simp; done) | (simp; omega) | omega)))
  clear hb HB_ hz_
  have S_h := Lib.hid N_h.out
  clear N_h
  have HB_ := Lib.hid N_HB.out
  clear N_HB
  have hz_ : w.heap.size ≤ w3.heap.size := HB_.out.size
  have hl_h : w2.heap.size < w3.heap.size := S_h.out.lt
  have c_h_0 : w3.cell? ⟨w2.heap.size, 0, none⟩ = some (.int .i64 0) := S_h.out.cell (i := 0) rfl
  have c_h_1 : w3.cell? ⟨w2.heap.size, 1, none⟩ = some (.int .i64 0) := S_h.out.cell (i := 1) rfl
  have c_h_2 : w3.cell? ⟨w2.heap.size, 2, none⟩ = some (.int .i64 0) := S_h.out.cell (i := 2) rfl
  have c_h_3 : w3.cell? ⟨w2.heap.size, 3, none⟩ = some (.bool false) := S_h.out.cell (i := 3) rfl
  have c_h_4 : w3.cell? ⟨w2.heap.size, 4, none⟩ = some (.bool false) := S_h.out.cell (i := 4) rfl
  have c_h_5 : w3.cell? ⟨w2.heap.size, 5, none⟩ = some (.bool false) := S_h.out.cell (i := 5) rfl
  go_wp2_with fail
  refine (word_yes _ _ _ _ _ _ _ (by decide)).mono ?_
  rintro e w4 ⟨rfl, hb⟩
  have N_h := Lib.hid (((S_h.out).alloc _).below hb (by first | assumption | (simp; done) | (simp; omega) | omega))
  have N_x := Lib.hid ((Blk.new' (k := w3.heap.size) (by simp) #[.int .i64 0, .int .i64 0, .int .i64 0, .bool false, .bool false, .bool false] 41).below hb (by first | assumption | (simp; done) | (simp; omega) | omega))
  have N_HB := Lib.hid ((HB_.out.alloc (by first | exact Nat.le_refl _ | assumption | (simp; done) | (simp; omega) | omega) _).trans (hb.mono (by first | exact Nat.le_refl _ | assumption | (simp; done) | (simp; omega) | omega)))
  clear hb S_h hl_h c_h_0 c_h_1 c_h_2 c_h_3 c_h_4 c_h_5 HB_ hz_
  have S_h := Lib.hid N_h.out
  clear N_h
  have S_x := Lib.hid N_x.out
  clear N_x
  have HB_ := Lib.hid N_HB.out
  clear N_HB
  have hz_ : w.heap.size ≤ w4.heap.size := HB_.out.size
  have hl_h : w2.heap.size < w4.heap.size := S_h.out.lt
  have c_h_0 : w4.cell? ⟨w2.heap.size, 0, none⟩ = some (.int .i64 0) := S_h.out.cell (i := 0) rfl
  have c_h_1 : w4.cell? ⟨w2.heap.size, 1, none⟩ = some (.int .i64 0) := S_h.out.cell (i := 1) rfl
  have c_h_2 : w4.cell? ⟨w2.heap.size, 2, none⟩ = some (.int .i64 0) := S_h.out.cell (i := 2) rfl
  have c_h_3 : w4.cell? ⟨w2.heap.size, 3, none⟩ = some (.bool false) := S_h.out.cell (i := 3) rfl
  have c_h_4 : w4.cell? ⟨w2.heap.size, 4, none⟩ = some (.bool false) := S_h.out.cell (i := 4) rfl
  have c_h_5 : w4.cell? ⟨w2.heap.size, 5, none⟩ = some (.bool false) := S_h.out.cell (i := 5) rfl
  have hl_x : w3.heap.size < w4.heap.size := S_x.out.lt
  have c_x_0 : w4.cell? ⟨w3.heap.size, 0, none⟩ = some (.int .i64 0) := S_x.out.cell (i := 0) rfl
  have c_x_1 : w4.cell? ⟨w3.heap.size, 1, none⟩ = some (.int .i64 0) := S_x.out.cell (i := 1) rfl
  have c_x_2 : w4.cell? ⟨w3.heap.size, 2, none⟩ = some (.int .i64 0) := S_x.out.cell (i := 2) rfl
  have c_x_3 : w4.cell? ⟨w3.heap.size, 3, none⟩ = some (.bool false) := S_x.out.cell (i := 3) rfl
  have c_x_4 : w4.cell? ⟨w3.heap.size, 4, none⟩ = some (.bool false) := S_x.out.cell (i := 4) rfl
  have c_x_5 : w4.cell? ⟨w3.heap.size, 5, none⟩ = some (.bool false) := S_x.out.cell (i := 5) rfl
  go_wp2
  go_ret
  exact ⟨rfl, HB_.out⟩
theorem headReads_walk (w : World) (n : Int) (_ : (Lit.int .i64 n).wf = true) :
    Calls Try.prog 10 #[.int .i64 n] w fun x w' => x = .returned (.bool true) ∧ Below w.heap.size w w' := by
  cases h : ohr n
  · exact hreads_no w n h
  · obtain ⟨h0, h1⟩ := ohr_range h
    exact hreads_yes w n h0 h1 (by rw [← ohr_in h0 h1]; exact h)
end Go.Proofs.Ytlhbfeddgopfjaa
