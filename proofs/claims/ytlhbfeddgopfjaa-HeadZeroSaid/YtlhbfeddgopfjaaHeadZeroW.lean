/-
  The walk of the law HeadZero: for every head and every uint32 word it returns true, and memory below the heap's old size is unchanged. No condition.
-/
import Derived.Test.YtlhbfeddgopfjaaHde
import Derived.Test.YtlhbfeddgopfjaaHeadBackW
namespace Go.Proofs.Ytlhbfeddgopfjaa
open Go.RowKit
theorem wd_zero : wd 0 0 0 false false false = 0 := by decide
set_option linter.unusedVariables false in
set_option maxHeartbeats 2000000 in
set_option maxRecDepth 100000 in
theorem hzero_y_in (w : World) (c a f : Int) (m i d : Bool) (n : Int) (n0 : 0 ≤ n) (n2 : n ≤ 4294967295) (h : hr c a f i d = true) (n1 : n < 33554432) (k : rhr n = true) :
    Calls Try.prog 13 #[.agg #[.int .i64 c, .int .i64 a, .int .i64 f, .bool m, .bool i, .bool d], .int .u32 n] w fun x w' => x = .returned (.bool true) ∧ Below w.heap.size w w' := by
  have z := wd_zero
  obtain ⟨r0, r1⟩ := wd_range (m := m) h
  have kk : hr (n % 64) (n / 64 % 16) (n / 8192) (rbt n 2048) (rbt n 4096) = true := k
  go_enter Try.func13, Try.ntmps13
  go_wp2_with fail
  refine (hawake_any _).mono ?_
  rintro e w1 ⟨rfl, hb⟩
  have N_g := Lib.hid ((Blk.new' (k := w.heap.size) (by simp) #[.int .i64 c, .int .i64 a, .int .i64 f, .bool m, .bool i, .bool d] 41).below hb (by first | assumption | (simp; done) | (simp; omega) | omega))
  have N_HB := Lib.hid (((Below.refl w.heap.size w).alloc (by first | exact Nat.le_refl _ | assumption | (simp; done) | (simp; omega) | omega) _).trans (hb.mono (by first | exact Nat.le_refl _ | assumption | (simp; done) | (simp; omega) | omega)))
  clear hb
  have S_g := Lib.hid N_g.out
  clear N_g
  have HB_ := Lib.hid N_HB.out
  clear N_HB
  have hz_ : w.heap.size ≤ w1.heap.size := HB_.out.size
  have hl_g : w.heap.size < w1.heap.size := S_g.out.lt
  have c_g_0 : w1.cell? ⟨w.heap.size, 0, none⟩ = some (.int .i64 c) := S_g.out.cell (i := 0) rfl
  have c_g_1 : w1.cell? ⟨w.heap.size, 1, none⟩ = some (.int .i64 a) := S_g.out.cell (i := 1) rfl
  have c_g_2 : w1.cell? ⟨w.heap.size, 2, none⟩ = some (.int .i64 f) := S_g.out.cell (i := 2) rfl
  have c_g_3 : w1.cell? ⟨w.heap.size, 3, none⟩ = some (.bool m) := S_g.out.cell (i := 3) rfl
  have c_g_4 : w1.cell? ⟨w.heap.size, 4, none⟩ = some (.bool i) := S_g.out.cell (i := 4) rfl
  have c_g_5 : w1.cell? ⟨w.heap.size, 5, none⟩ = some (.bool d) := S_g.out.cell (i := 5) rfl
  go_wp2_with fail
  refine (word_yes _ _ _ _ _ _ _ (by decide)).mono ?_
  rintro e w2 ⟨rfl, hb⟩
  have N_g := Lib.hid ((S_g.out).below hb (by first | assumption | (simp; done) | (simp; omega) | omega))
  have N_HB := Lib.hid (HB_.out.trans (hb.mono (by first | exact Nat.le_refl _ | assumption | (simp; done) | (simp; omega) | omega)))
  clear hb S_g hl_g c_g_0 c_g_1 c_g_2 c_g_3 c_g_4 c_g_5 HB_ hz_
  have S_g := Lib.hid N_g.out
  clear N_g
  have HB_ := Lib.hid N_HB.out
  clear N_HB
  have hz_ : w.heap.size ≤ w2.heap.size := HB_.out.size
  have hl_g : w.heap.size < w2.heap.size := S_g.out.lt
  have c_g_0 : w2.cell? ⟨w.heap.size, 0, none⟩ = some (.int .i64 c) := S_g.out.cell (i := 0) rfl
  have c_g_1 : w2.cell? ⟨w.heap.size, 1, none⟩ = some (.int .i64 a) := S_g.out.cell (i := 1) rfl
  have c_g_2 : w2.cell? ⟨w.heap.size, 2, none⟩ = some (.int .i64 f) := S_g.out.cell (i := 2) rfl
  have c_g_3 : w2.cell? ⟨w.heap.size, 3, none⟩ = some (.bool m) := S_g.out.cell (i := 3) rfl
  have c_g_4 : w2.cell? ⟨w.heap.size, 4, none⟩ = some (.bool i) := S_g.out.cell (i := 4) rfl
  have c_g_5 : w2.cell? ⟨w.heap.size, 5, none⟩ = some (.bool d) := S_g.out.cell (i := 5) rfl
  go_wp2_with fail
  refine (word_yes _ _ _ _ _ _ _ h).mono ?_
  rintro e w3 ⟨rfl, hb⟩
  have N_g := Lib.hid ((S_g.out).below hb (by first | assumption | (simp; done) | (simp; omega) | omega))
  have N_HB := Lib.hid (HB_.out.trans (hb.mono (by first | exact Nat.le_refl _ | assumption | (simp; done) | (simp; omega) | omega)))
  clear hb S_g hl_g c_g_0 c_g_1 c_g_2 c_g_3 c_g_4 c_g_5 HB_ hz_
  have S_g := Lib.hid N_g.out
  clear N_g
  have HB_ := Lib.hid N_HB.out
  clear N_HB
  have hz_ : w.heap.size ≤ w3.heap.size := HB_.out.size
  have hl_g : w.heap.size < w3.heap.size := S_g.out.lt
  have c_g_0 : w3.cell? ⟨w.heap.size, 0, none⟩ = some (.int .i64 c) := S_g.out.cell (i := 0) rfl
  have c_g_1 : w3.cell? ⟨w.heap.size, 1, none⟩ = some (.int .i64 a) := S_g.out.cell (i := 1) rfl
  have c_g_2 : w3.cell? ⟨w.heap.size, 2, none⟩ = some (.int .i64 f) := S_g.out.cell (i := 2) rfl
  have c_g_3 : w3.cell? ⟨w.heap.size, 3, none⟩ = some (.bool m) := S_g.out.cell (i := 3) rfl
  have c_g_4 : w3.cell? ⟨w.heap.size, 4, none⟩ = some (.bool i) := S_g.out.cell (i := 4) rfl
  have c_g_5 : w3.cell? ⟨w.heap.size, 5, none⟩ = some (.bool d) := S_g.out.cell (i := 5) rfl
  go_wp2_with fail
  refine (of_in n _ n0 n1 k).mono ?_
  rintro e w4 ⟨rfl, hb⟩
  have N_g := Lib.hid ((S_g.out).below hb (by first | assumption | (simp; done) | (simp; omega) | omega))
  have N_HB := Lib.hid (HB_.out.trans (hb.mono (by first | exact Nat.le_refl _ | assumption | (simp; done) | (simp; omega) | omega)))
  clear hb S_g hl_g c_g_0 c_g_1 c_g_2 c_g_3 c_g_4 c_g_5 HB_ hz_
  have S_g := Lib.hid N_g.out
  clear N_g
  have HB_ := Lib.hid N_HB.out
  clear N_HB
  have hz_ : w.heap.size ≤ w4.heap.size := HB_.out.size
  have hl_g : w.heap.size < w4.heap.size := S_g.out.lt
  have c_g_0 : w4.cell? ⟨w.heap.size, 0, none⟩ = some (.int .i64 c) := S_g.out.cell (i := 0) rfl
  have c_g_1 : w4.cell? ⟨w.heap.size, 1, none⟩ = some (.int .i64 a) := S_g.out.cell (i := 1) rfl
  have c_g_2 : w4.cell? ⟨w.heap.size, 2, none⟩ = some (.int .i64 f) := S_g.out.cell (i := 2) rfl
  have c_g_3 : w4.cell? ⟨w.heap.size, 3, none⟩ = some (.bool m) := S_g.out.cell (i := 3) rfl
  have c_g_4 : w4.cell? ⟨w.heap.size, 4, none⟩ = some (.bool i) := S_g.out.cell (i := 4) rfl
  have c_g_5 : w4.cell? ⟨w.heap.size, 5, none⟩ = some (.bool d) := S_g.out.cell (i := 5) rfl
  go_wp2_with fail
  refine (hright_any _ _ _ _ _ _ _).mono ?_
  rintro e w5 ⟨rfl, hb⟩
  have N_g := Lib.hid (((S_g.out).alloc _).below hb (by first | assumption | (simp; done) | (simp; omega) | omega))
  have N_x := Lib.hid ((Blk.new' (k := w4.heap.size) (by simp) #[.int .i64 (n % 64), .int .i64 (n / 64 % 16), .int .i64 (n / 8192), .bool (rbt n 1024), .bool (rbt n 2048), .bool (rbt n 4096)] 42).below hb (by first | assumption | (simp; done) | (simp; omega) | omega))
  have N_HB := Lib.hid ((HB_.out.alloc (by first | exact Nat.le_refl _ | assumption | (simp; done) | (simp; omega) | omega) _).trans (hb.mono (by first | exact Nat.le_refl _ | assumption | (simp; done) | (simp; omega) | omega)))
  clear hb S_g hl_g c_g_0 c_g_1 c_g_2 c_g_3 c_g_4 c_g_5 HB_ hz_
  have S_g := Lib.hid N_g.out
  clear N_g
  have S_x := Lib.hid N_x.out
  clear N_x
  have HB_ := Lib.hid N_HB.out
  clear N_HB
  have hz_ : w.heap.size ≤ w5.heap.size := HB_.out.size
  have hl_g : w.heap.size < w5.heap.size := S_g.out.lt
  have c_g_0 : w5.cell? ⟨w.heap.size, 0, none⟩ = some (.int .i64 c) := S_g.out.cell (i := 0) rfl
  have c_g_1 : w5.cell? ⟨w.heap.size, 1, none⟩ = some (.int .i64 a) := S_g.out.cell (i := 1) rfl
  have c_g_2 : w5.cell? ⟨w.heap.size, 2, none⟩ = some (.int .i64 f) := S_g.out.cell (i := 2) rfl
  have c_g_3 : w5.cell? ⟨w.heap.size, 3, none⟩ = some (.bool m) := S_g.out.cell (i := 3) rfl
  have c_g_4 : w5.cell? ⟨w.heap.size, 4, none⟩ = some (.bool i) := S_g.out.cell (i := 4) rfl
  have c_g_5 : w5.cell? ⟨w.heap.size, 5, none⟩ = some (.bool d) := S_g.out.cell (i := 5) rfl
  have hl_x : w4.heap.size < w5.heap.size := S_x.out.lt
  have c_x_0 : w5.cell? ⟨w4.heap.size, 0, none⟩ = some (.int .i64 (n % 64)) := S_x.out.cell (i := 0) rfl
  have c_x_1 : w5.cell? ⟨w4.heap.size, 1, none⟩ = some (.int .i64 (n / 64 % 16)) := S_x.out.cell (i := 1) rfl
  have c_x_2 : w5.cell? ⟨w4.heap.size, 2, none⟩ = some (.int .i64 (n / 8192)) := S_x.out.cell (i := 2) rfl
  have c_x_3 : w5.cell? ⟨w4.heap.size, 3, none⟩ = some (.bool (rbt n 1024)) := S_x.out.cell (i := 3) rfl
  have c_x_4 : w5.cell? ⟨w4.heap.size, 4, none⟩ = some (.bool (rbt n 2048)) := S_x.out.cell (i := 4) rfl
  have c_x_5 : w5.cell? ⟨w4.heap.size, 5, none⟩ = some (.bool (rbt n 4096)) := S_x.out.cell (i := 5) rfl
  go_wp2
  go_ret
  exact ⟨rfl, HB_.out⟩
set_option linter.unusedVariables false in
set_option maxHeartbeats 2000000 in
set_option maxRecDepth 100000 in
theorem hzero_y_no (w : World) (c a f : Int) (m i d : Bool) (n : Int) (n0 : 0 ≤ n) (n2 : n ≤ 4294967295) (h : hr c a f i d = true) (n1 : n < 33554432) (k : ohr n = false) :
    Calls Try.prog 13 #[.agg #[.int .i64 c, .int .i64 a, .int .i64 f, .bool m, .bool i, .bool d], .int .u32 n] w fun x w' => x = .returned (.bool true) ∧ Below w.heap.size w w' := by
  have z := wd_zero
  obtain ⟨r0, r1⟩ := wd_range (m := m) h
  go_enter Try.func13, Try.ntmps13
  go_wp2_with fail
  refine (hawake_any _).mono ?_
  rintro e w1 ⟨rfl, hb⟩
  have N_g := Lib.hid ((Blk.new' (k := w.heap.size) (by simp) #[.int .i64 c, .int .i64 a, .int .i64 f, .bool m, .bool i, .bool d] 41).below hb (by first | assumption | (simp; done) | (simp; omega) | omega))
  have N_HB := Lib.hid (((Below.refl w.heap.size w).alloc (by first | exact Nat.le_refl _ | assumption | (simp; done) | (simp; omega) | omega) _).trans (hb.mono (by first | exact Nat.le_refl _ | assumption | (simp; done) | (simp; omega) | omega)))
  clear hb
  have S_g := Lib.hid N_g.out
  clear N_g
  have HB_ := Lib.hid N_HB.out
  clear N_HB
  have hz_ : w.heap.size ≤ w1.heap.size := HB_.out.size
  have hl_g : w.heap.size < w1.heap.size := S_g.out.lt
  have c_g_0 : w1.cell? ⟨w.heap.size, 0, none⟩ = some (.int .i64 c) := S_g.out.cell (i := 0) rfl
  have c_g_1 : w1.cell? ⟨w.heap.size, 1, none⟩ = some (.int .i64 a) := S_g.out.cell (i := 1) rfl
  have c_g_2 : w1.cell? ⟨w.heap.size, 2, none⟩ = some (.int .i64 f) := S_g.out.cell (i := 2) rfl
  have c_g_3 : w1.cell? ⟨w.heap.size, 3, none⟩ = some (.bool m) := S_g.out.cell (i := 3) rfl
  have c_g_4 : w1.cell? ⟨w.heap.size, 4, none⟩ = some (.bool i) := S_g.out.cell (i := 4) rfl
  have c_g_5 : w1.cell? ⟨w.heap.size, 5, none⟩ = some (.bool d) := S_g.out.cell (i := 5) rfl
  go_wp2_with fail
  refine (word_yes _ _ _ _ _ _ _ (by decide)).mono ?_
  rintro e w2 ⟨rfl, hb⟩
  have N_g := Lib.hid ((S_g.out).below hb (by first | assumption | (simp; done) | (simp; omega) | omega))
  have N_HB := Lib.hid (HB_.out.trans (hb.mono (by first | exact Nat.le_refl _ | assumption | (simp; done) | (simp; omega) | omega)))
  clear hb S_g hl_g c_g_0 c_g_1 c_g_2 c_g_3 c_g_4 c_g_5 HB_ hz_
  have S_g := Lib.hid N_g.out
  clear N_g
  have HB_ := Lib.hid N_HB.out
  clear N_HB
  have hz_ : w.heap.size ≤ w2.heap.size := HB_.out.size
  have hl_g : w.heap.size < w2.heap.size := S_g.out.lt
  have c_g_0 : w2.cell? ⟨w.heap.size, 0, none⟩ = some (.int .i64 c) := S_g.out.cell (i := 0) rfl
  have c_g_1 : w2.cell? ⟨w.heap.size, 1, none⟩ = some (.int .i64 a) := S_g.out.cell (i := 1) rfl
  have c_g_2 : w2.cell? ⟨w.heap.size, 2, none⟩ = some (.int .i64 f) := S_g.out.cell (i := 2) rfl
  have c_g_3 : w2.cell? ⟨w.heap.size, 3, none⟩ = some (.bool m) := S_g.out.cell (i := 3) rfl
  have c_g_4 : w2.cell? ⟨w.heap.size, 4, none⟩ = some (.bool i) := S_g.out.cell (i := 4) rfl
  have c_g_5 : w2.cell? ⟨w.heap.size, 5, none⟩ = some (.bool d) := S_g.out.cell (i := 5) rfl
  go_wp2_with fail
  refine (word_yes _ _ _ _ _ _ _ h).mono ?_
  rintro e w3 ⟨rfl, hb⟩
  have N_g := Lib.hid ((S_g.out).below hb (by first | assumption | (simp; done) | (simp; omega) | omega))
  have N_HB := Lib.hid (HB_.out.trans (hb.mono (by first | exact Nat.le_refl _ | assumption | (simp; done) | (simp; omega) | omega)))
  clear hb S_g hl_g c_g_0 c_g_1 c_g_2 c_g_3 c_g_4 c_g_5 HB_ hz_
  have S_g := Lib.hid N_g.out
  clear N_g
  have HB_ := Lib.hid N_HB.out
  clear N_HB
  have hz_ : w.heap.size ≤ w3.heap.size := HB_.out.size
  have hl_g : w.heap.size < w3.heap.size := S_g.out.lt
  have c_g_0 : w3.cell? ⟨w.heap.size, 0, none⟩ = some (.int .i64 c) := S_g.out.cell (i := 0) rfl
  have c_g_1 : w3.cell? ⟨w.heap.size, 1, none⟩ = some (.int .i64 a) := S_g.out.cell (i := 1) rfl
  have c_g_2 : w3.cell? ⟨w.heap.size, 2, none⟩ = some (.int .i64 f) := S_g.out.cell (i := 2) rfl
  have c_g_3 : w3.cell? ⟨w.heap.size, 3, none⟩ = some (.bool m) := S_g.out.cell (i := 3) rfl
  have c_g_4 : w3.cell? ⟨w.heap.size, 4, none⟩ = some (.bool i) := S_g.out.cell (i := 4) rfl
  have c_g_5 : w3.cell? ⟨w.heap.size, 5, none⟩ = some (.bool d) := S_g.out.cell (i := 5) rfl
  go_wp2_with fail
  refine (of_no n _ k).mono ?_
  rintro e w4 ⟨rfl, hb⟩
  have N_g := Lib.hid ((S_g.out).below hb (by first | assumption | (simp; done) | (simp; omega) | omega))
  have N_HB := Lib.hid (HB_.out.trans (hb.mono (by first | exact Nat.le_refl _ | assumption | (simp; done) | (simp; omega) | omega)))
  clear hb S_g hl_g c_g_0 c_g_1 c_g_2 c_g_3 c_g_4 c_g_5 HB_ hz_
  have S_g := Lib.hid N_g.out
  clear N_g
  have HB_ := Lib.hid N_HB.out
  clear N_HB
  have hz_ : w.heap.size ≤ w4.heap.size := HB_.out.size
  have hl_g : w.heap.size < w4.heap.size := S_g.out.lt
  have c_g_0 : w4.cell? ⟨w.heap.size, 0, none⟩ = some (.int .i64 c) := S_g.out.cell (i := 0) rfl
  have c_g_1 : w4.cell? ⟨w.heap.size, 1, none⟩ = some (.int .i64 a) := S_g.out.cell (i := 1) rfl
  have c_g_2 : w4.cell? ⟨w.heap.size, 2, none⟩ = some (.int .i64 f) := S_g.out.cell (i := 2) rfl
  have c_g_3 : w4.cell? ⟨w.heap.size, 3, none⟩ = some (.bool m) := S_g.out.cell (i := 3) rfl
  have c_g_4 : w4.cell? ⟨w.heap.size, 4, none⟩ = some (.bool i) := S_g.out.cell (i := 4) rfl
  have c_g_5 : w4.cell? ⟨w.heap.size, 5, none⟩ = some (.bool d) := S_g.out.cell (i := 5) rfl
  go_wp2
  go_ret
  exact ⟨rfl, HB_.out.alloc hz_ _⟩
set_option linter.unusedVariables false in
set_option maxHeartbeats 2000000 in
set_option maxRecDepth 100000 in
theorem hzero_y_out (w : World) (c a f : Int) (m i d : Bool) (n : Int) (n0 : 0 ≤ n) (n2 : n ≤ 4294967295) (h : hr c a f i d = true) (n1 : ¬ n < 33554432) (k : ohr n = false) :
    Calls Try.prog 13 #[.agg #[.int .i64 c, .int .i64 a, .int .i64 f, .bool m, .bool i, .bool d], .int .u32 n] w fun x w' => x = .returned (.bool true) ∧ Below w.heap.size w w' := by
  have z := wd_zero
  obtain ⟨r0, r1⟩ := wd_range (m := m) h
  have d0 : decide (n < 33554432) = false := decide_eq_false n1
  clear n1
  go_enter Try.func13, Try.ntmps13
  go_wp2_with fail
  refine (hawake_any _).mono ?_
  rintro e w1 ⟨rfl, hb⟩
  have N_g := Lib.hid ((Blk.new' (k := w.heap.size) (by simp) #[.int .i64 c, .int .i64 a, .int .i64 f, .bool m, .bool i, .bool d] 41).below hb (by first | assumption | (simp; done) | (simp; omega) | omega))
  have N_HB := Lib.hid (((Below.refl w.heap.size w).alloc (by first | exact Nat.le_refl _ | assumption | (simp; done) | (simp; omega) | omega) _).trans (hb.mono (by first | exact Nat.le_refl _ | assumption | (simp; done) | (simp; omega) | omega)))
  clear hb
  have S_g := Lib.hid N_g.out
  clear N_g
  have HB_ := Lib.hid N_HB.out
  clear N_HB
  have hz_ : w.heap.size ≤ w1.heap.size := HB_.out.size
  have hl_g : w.heap.size < w1.heap.size := S_g.out.lt
  have c_g_0 : w1.cell? ⟨w.heap.size, 0, none⟩ = some (.int .i64 c) := S_g.out.cell (i := 0) rfl
  have c_g_1 : w1.cell? ⟨w.heap.size, 1, none⟩ = some (.int .i64 a) := S_g.out.cell (i := 1) rfl
  have c_g_2 : w1.cell? ⟨w.heap.size, 2, none⟩ = some (.int .i64 f) := S_g.out.cell (i := 2) rfl
  have c_g_3 : w1.cell? ⟨w.heap.size, 3, none⟩ = some (.bool m) := S_g.out.cell (i := 3) rfl
  have c_g_4 : w1.cell? ⟨w.heap.size, 4, none⟩ = some (.bool i) := S_g.out.cell (i := 4) rfl
  have c_g_5 : w1.cell? ⟨w.heap.size, 5, none⟩ = some (.bool d) := S_g.out.cell (i := 5) rfl
  go_wp2_with fail
  refine (word_yes _ _ _ _ _ _ _ (by decide)).mono ?_
  rintro e w2 ⟨rfl, hb⟩
  have N_g := Lib.hid ((S_g.out).below hb (by first | assumption | (simp; done) | (simp; omega) | omega))
  have N_HB := Lib.hid (HB_.out.trans (hb.mono (by first | exact Nat.le_refl _ | assumption | (simp; done) | (simp; omega) | omega)))
  clear hb S_g hl_g c_g_0 c_g_1 c_g_2 c_g_3 c_g_4 c_g_5 HB_ hz_
  have S_g := Lib.hid N_g.out
  clear N_g
  have HB_ := Lib.hid N_HB.out
  clear N_HB
  have hz_ : w.heap.size ≤ w2.heap.size := HB_.out.size
  have hl_g : w.heap.size < w2.heap.size := S_g.out.lt
  have c_g_0 : w2.cell? ⟨w.heap.size, 0, none⟩ = some (.int .i64 c) := S_g.out.cell (i := 0) rfl
  have c_g_1 : w2.cell? ⟨w.heap.size, 1, none⟩ = some (.int .i64 a) := S_g.out.cell (i := 1) rfl
  have c_g_2 : w2.cell? ⟨w.heap.size, 2, none⟩ = some (.int .i64 f) := S_g.out.cell (i := 2) rfl
  have c_g_3 : w2.cell? ⟨w.heap.size, 3, none⟩ = some (.bool m) := S_g.out.cell (i := 3) rfl
  have c_g_4 : w2.cell? ⟨w.heap.size, 4, none⟩ = some (.bool i) := S_g.out.cell (i := 4) rfl
  have c_g_5 : w2.cell? ⟨w.heap.size, 5, none⟩ = some (.bool d) := S_g.out.cell (i := 5) rfl
  go_wp2_with fail
  refine (word_yes _ _ _ _ _ _ _ h).mono ?_
  rintro e w3 ⟨rfl, hb⟩
  have N_g := Lib.hid ((S_g.out).below hb (by first | assumption | (simp; done) | (simp; omega) | omega))
  have N_HB := Lib.hid (HB_.out.trans (hb.mono (by first | exact Nat.le_refl _ | assumption | (simp; done) | (simp; omega) | omega)))
  clear hb S_g hl_g c_g_0 c_g_1 c_g_2 c_g_3 c_g_4 c_g_5 HB_ hz_
  have S_g := Lib.hid N_g.out
  clear N_g
  have HB_ := Lib.hid N_HB.out
  clear N_HB
  have hz_ : w.heap.size ≤ w3.heap.size := HB_.out.size
  have hl_g : w.heap.size < w3.heap.size := S_g.out.lt
  have c_g_0 : w3.cell? ⟨w.heap.size, 0, none⟩ = some (.int .i64 c) := S_g.out.cell (i := 0) rfl
  have c_g_1 : w3.cell? ⟨w.heap.size, 1, none⟩ = some (.int .i64 a) := S_g.out.cell (i := 1) rfl
  have c_g_2 : w3.cell? ⟨w.heap.size, 2, none⟩ = some (.int .i64 f) := S_g.out.cell (i := 2) rfl
  have c_g_3 : w3.cell? ⟨w.heap.size, 3, none⟩ = some (.bool m) := S_g.out.cell (i := 3) rfl
  have c_g_4 : w3.cell? ⟨w.heap.size, 4, none⟩ = some (.bool i) := S_g.out.cell (i := 4) rfl
  have c_g_5 : w3.cell? ⟨w.heap.size, 5, none⟩ = some (.bool d) := S_g.out.cell (i := 5) rfl
  go_wp2_with fail
  refine (of_no n _ k).mono ?_
  rintro e w4 ⟨rfl, hb⟩
  have N_g := Lib.hid ((S_g.out).below hb (by first | assumption | (simp; done) | (simp; omega) | omega))
  have N_HB := Lib.hid (HB_.out.trans (hb.mono (by first | exact Nat.le_refl _ | assumption | (simp; done) | (simp; omega) | omega)))
  clear hb S_g hl_g c_g_0 c_g_1 c_g_2 c_g_3 c_g_4 c_g_5 HB_ hz_
  have S_g := Lib.hid N_g.out
  clear N_g
  have HB_ := Lib.hid N_HB.out
  clear N_HB
  have hz_ : w.heap.size ≤ w4.heap.size := HB_.out.size
  have hl_g : w.heap.size < w4.heap.size := S_g.out.lt
  have c_g_0 : w4.cell? ⟨w.heap.size, 0, none⟩ = some (.int .i64 c) := S_g.out.cell (i := 0) rfl
  have c_g_1 : w4.cell? ⟨w.heap.size, 1, none⟩ = some (.int .i64 a) := S_g.out.cell (i := 1) rfl
  have c_g_2 : w4.cell? ⟨w.heap.size, 2, none⟩ = some (.int .i64 f) := S_g.out.cell (i := 2) rfl
  have c_g_3 : w4.cell? ⟨w.heap.size, 3, none⟩ = some (.bool m) := S_g.out.cell (i := 3) rfl
  have c_g_4 : w4.cell? ⟨w.heap.size, 4, none⟩ = some (.bool i) := S_g.out.cell (i := 4) rfl
  have c_g_5 : w4.cell? ⟨w.heap.size, 5, none⟩ = some (.bool d) := S_g.out.cell (i := 5) rfl
  go_wp2
  go_ret
  exact ⟨rfl, HB_.out.alloc hz_ _⟩
set_option linter.unusedVariables false in
set_option maxHeartbeats 2000000 in
set_option maxRecDepth 100000 in
theorem hzero_n_in (w : World) (c a f : Int) (m i d : Bool) (n : Int) (n0 : 0 ≤ n) (n2 : n ≤ 4294967295) (h : hr c a f i d = false) (n1 : n < 33554432) (k : rhr n = true) :
    Calls Try.prog 13 #[.agg #[.int .i64 c, .int .i64 a, .int .i64 f, .bool m, .bool i, .bool d], .int .u32 n] w fun x w' => x = .returned (.bool true) ∧ Below w.heap.size w w' := by
  have z := wd_zero
  have kk : hr (n % 64) (n / 64 % 16) (n / 8192) (rbt n 2048) (rbt n 4096) = true := k
  go_enter Try.func13, Try.ntmps13
  go_wp2_with fail
  refine (hawake_any _).mono ?_
  rintro e w1 ⟨rfl, hb⟩
  have N_g := Lib.hid ((Blk.new' (k := w.heap.size) (by simp) #[.int .i64 c, .int .i64 a, .int .i64 f, .bool m, .bool i, .bool d] 41).below hb (by first | assumption | (simp; done) | (simp; omega) | omega))
  have N_HB := Lib.hid (((Below.refl w.heap.size w).alloc (by first | exact Nat.le_refl _ | assumption | (simp; done) | (simp; omega) | omega) _).trans (hb.mono (by first | exact Nat.le_refl _ | assumption | (simp; done) | (simp; omega) | omega)))
  clear hb
  have S_g := Lib.hid N_g.out
  clear N_g
  have HB_ := Lib.hid N_HB.out
  clear N_HB
  have hz_ : w.heap.size ≤ w1.heap.size := HB_.out.size
  have hl_g : w.heap.size < w1.heap.size := S_g.out.lt
  have c_g_0 : w1.cell? ⟨w.heap.size, 0, none⟩ = some (.int .i64 c) := S_g.out.cell (i := 0) rfl
  have c_g_1 : w1.cell? ⟨w.heap.size, 1, none⟩ = some (.int .i64 a) := S_g.out.cell (i := 1) rfl
  have c_g_2 : w1.cell? ⟨w.heap.size, 2, none⟩ = some (.int .i64 f) := S_g.out.cell (i := 2) rfl
  have c_g_3 : w1.cell? ⟨w.heap.size, 3, none⟩ = some (.bool m) := S_g.out.cell (i := 3) rfl
  have c_g_4 : w1.cell? ⟨w.heap.size, 4, none⟩ = some (.bool i) := S_g.out.cell (i := 4) rfl
  have c_g_5 : w1.cell? ⟨w.heap.size, 5, none⟩ = some (.bool d) := S_g.out.cell (i := 5) rfl
  go_wp2_with fail
  refine (word_yes _ _ _ _ _ _ _ (by decide)).mono ?_
  rintro e w2 ⟨rfl, hb⟩
  have N_g := Lib.hid ((S_g.out).below hb (by first | assumption | (simp; done) | (simp; omega) | omega))
  have N_HB := Lib.hid (HB_.out.trans (hb.mono (by first | exact Nat.le_refl _ | assumption | (simp; done) | (simp; omega) | omega)))
  clear hb S_g hl_g c_g_0 c_g_1 c_g_2 c_g_3 c_g_4 c_g_5 HB_ hz_
  have S_g := Lib.hid N_g.out
  clear N_g
  have HB_ := Lib.hid N_HB.out
  clear N_HB
  have hz_ : w.heap.size ≤ w2.heap.size := HB_.out.size
  have hl_g : w.heap.size < w2.heap.size := S_g.out.lt
  have c_g_0 : w2.cell? ⟨w.heap.size, 0, none⟩ = some (.int .i64 c) := S_g.out.cell (i := 0) rfl
  have c_g_1 : w2.cell? ⟨w.heap.size, 1, none⟩ = some (.int .i64 a) := S_g.out.cell (i := 1) rfl
  have c_g_2 : w2.cell? ⟨w.heap.size, 2, none⟩ = some (.int .i64 f) := S_g.out.cell (i := 2) rfl
  have c_g_3 : w2.cell? ⟨w.heap.size, 3, none⟩ = some (.bool m) := S_g.out.cell (i := 3) rfl
  have c_g_4 : w2.cell? ⟨w.heap.size, 4, none⟩ = some (.bool i) := S_g.out.cell (i := 4) rfl
  have c_g_5 : w2.cell? ⟨w.heap.size, 5, none⟩ = some (.bool d) := S_g.out.cell (i := 5) rfl
  go_wp2_with fail
  refine (word_no _ _ _ _ _ _ _ h).mono ?_
  rintro e w3 ⟨rfl, hb⟩
  have N_g := Lib.hid ((S_g.out).below hb (by first | assumption | (simp; done) | (simp; omega) | omega))
  have N_HB := Lib.hid (HB_.out.trans (hb.mono (by first | exact Nat.le_refl _ | assumption | (simp; done) | (simp; omega) | omega)))
  clear hb S_g hl_g c_g_0 c_g_1 c_g_2 c_g_3 c_g_4 c_g_5 HB_ hz_
  have S_g := Lib.hid N_g.out
  clear N_g
  have HB_ := Lib.hid N_HB.out
  clear N_HB
  have hz_ : w.heap.size ≤ w3.heap.size := HB_.out.size
  have hl_g : w.heap.size < w3.heap.size := S_g.out.lt
  have c_g_0 : w3.cell? ⟨w.heap.size, 0, none⟩ = some (.int .i64 c) := S_g.out.cell (i := 0) rfl
  have c_g_1 : w3.cell? ⟨w.heap.size, 1, none⟩ = some (.int .i64 a) := S_g.out.cell (i := 1) rfl
  have c_g_2 : w3.cell? ⟨w.heap.size, 2, none⟩ = some (.int .i64 f) := S_g.out.cell (i := 2) rfl
  have c_g_3 : w3.cell? ⟨w.heap.size, 3, none⟩ = some (.bool m) := S_g.out.cell (i := 3) rfl
  have c_g_4 : w3.cell? ⟨w.heap.size, 4, none⟩ = some (.bool i) := S_g.out.cell (i := 4) rfl
  have c_g_5 : w3.cell? ⟨w.heap.size, 5, none⟩ = some (.bool d) := S_g.out.cell (i := 5) rfl
  go_wp2_with fail
  refine (of_in n _ n0 n1 k).mono ?_
  rintro e w4 ⟨rfl, hb⟩
  have N_g := Lib.hid ((S_g.out).below hb (by first | assumption | (simp; done) | (simp; omega) | omega))
  have N_HB := Lib.hid (HB_.out.trans (hb.mono (by first | exact Nat.le_refl _ | assumption | (simp; done) | (simp; omega) | omega)))
  clear hb S_g hl_g c_g_0 c_g_1 c_g_2 c_g_3 c_g_4 c_g_5 HB_ hz_
  have S_g := Lib.hid N_g.out
  clear N_g
  have HB_ := Lib.hid N_HB.out
  clear N_HB
  have hz_ : w.heap.size ≤ w4.heap.size := HB_.out.size
  have hl_g : w.heap.size < w4.heap.size := S_g.out.lt
  have c_g_0 : w4.cell? ⟨w.heap.size, 0, none⟩ = some (.int .i64 c) := S_g.out.cell (i := 0) rfl
  have c_g_1 : w4.cell? ⟨w.heap.size, 1, none⟩ = some (.int .i64 a) := S_g.out.cell (i := 1) rfl
  have c_g_2 : w4.cell? ⟨w.heap.size, 2, none⟩ = some (.int .i64 f) := S_g.out.cell (i := 2) rfl
  have c_g_3 : w4.cell? ⟨w.heap.size, 3, none⟩ = some (.bool m) := S_g.out.cell (i := 3) rfl
  have c_g_4 : w4.cell? ⟨w.heap.size, 4, none⟩ = some (.bool i) := S_g.out.cell (i := 4) rfl
  have c_g_5 : w4.cell? ⟨w.heap.size, 5, none⟩ = some (.bool d) := S_g.out.cell (i := 5) rfl
  go_wp2_with fail
  refine (hright_any _ _ _ _ _ _ _).mono ?_
  rintro e w5 ⟨rfl, hb⟩
  have N_g := Lib.hid (((S_g.out).alloc _).below hb (by first | assumption | (simp; done) | (simp; omega) | omega))
  have N_x := Lib.hid ((Blk.new' (k := w4.heap.size) (by simp) #[.int .i64 (n % 64), .int .i64 (n / 64 % 16), .int .i64 (n / 8192), .bool (rbt n 1024), .bool (rbt n 2048), .bool (rbt n 4096)] 42).below hb (by first | assumption | (simp; done) | (simp; omega) | omega))
  have N_HB := Lib.hid ((HB_.out.alloc (by first | exact Nat.le_refl _ | assumption | (simp; done) | (simp; omega) | omega) _).trans (hb.mono (by first | exact Nat.le_refl _ | assumption | (simp; done) | (simp; omega) | omega)))
  clear hb S_g hl_g c_g_0 c_g_1 c_g_2 c_g_3 c_g_4 c_g_5 HB_ hz_
  have S_g := Lib.hid N_g.out
  clear N_g
  have S_x := Lib.hid N_x.out
  clear N_x
  have HB_ := Lib.hid N_HB.out
  clear N_HB
  have hz_ : w.heap.size ≤ w5.heap.size := HB_.out.size
  have hl_g : w.heap.size < w5.heap.size := S_g.out.lt
  have c_g_0 : w5.cell? ⟨w.heap.size, 0, none⟩ = some (.int .i64 c) := S_g.out.cell (i := 0) rfl
  have c_g_1 : w5.cell? ⟨w.heap.size, 1, none⟩ = some (.int .i64 a) := S_g.out.cell (i := 1) rfl
  have c_g_2 : w5.cell? ⟨w.heap.size, 2, none⟩ = some (.int .i64 f) := S_g.out.cell (i := 2) rfl
  have c_g_3 : w5.cell? ⟨w.heap.size, 3, none⟩ = some (.bool m) := S_g.out.cell (i := 3) rfl
  have c_g_4 : w5.cell? ⟨w.heap.size, 4, none⟩ = some (.bool i) := S_g.out.cell (i := 4) rfl
  have c_g_5 : w5.cell? ⟨w.heap.size, 5, none⟩ = some (.bool d) := S_g.out.cell (i := 5) rfl
  have hl_x : w4.heap.size < w5.heap.size := S_x.out.lt
  have c_x_0 : w5.cell? ⟨w4.heap.size, 0, none⟩ = some (.int .i64 (n % 64)) := S_x.out.cell (i := 0) rfl
  have c_x_1 : w5.cell? ⟨w4.heap.size, 1, none⟩ = some (.int .i64 (n / 64 % 16)) := S_x.out.cell (i := 1) rfl
  have c_x_2 : w5.cell? ⟨w4.heap.size, 2, none⟩ = some (.int .i64 (n / 8192)) := S_x.out.cell (i := 2) rfl
  have c_x_3 : w5.cell? ⟨w4.heap.size, 3, none⟩ = some (.bool (rbt n 1024)) := S_x.out.cell (i := 3) rfl
  have c_x_4 : w5.cell? ⟨w4.heap.size, 4, none⟩ = some (.bool (rbt n 2048)) := S_x.out.cell (i := 4) rfl
  have c_x_5 : w5.cell? ⟨w4.heap.size, 5, none⟩ = some (.bool (rbt n 4096)) := S_x.out.cell (i := 5) rfl
  go_wp2
  go_ret
  exact ⟨rfl, HB_.out⟩
set_option linter.unusedVariables false in
set_option maxHeartbeats 2000000 in
set_option maxRecDepth 100000 in
theorem hzero_n_no (w : World) (c a f : Int) (m i d : Bool) (n : Int) (n0 : 0 ≤ n) (n2 : n ≤ 4294967295) (h : hr c a f i d = false) (n1 : n < 33554432) (k : ohr n = false) :
    Calls Try.prog 13 #[.agg #[.int .i64 c, .int .i64 a, .int .i64 f, .bool m, .bool i, .bool d], .int .u32 n] w fun x w' => x = .returned (.bool true) ∧ Below w.heap.size w w' := by
  have z := wd_zero
  go_enter Try.func13, Try.ntmps13
  go_wp2_with fail
  refine (hawake_any _).mono ?_
  rintro e w1 ⟨rfl, hb⟩
  have N_g := Lib.hid ((Blk.new' (k := w.heap.size) (by simp) #[.int .i64 c, .int .i64 a, .int .i64 f, .bool m, .bool i, .bool d] 41).below hb (by first | assumption | (simp; done) | (simp; omega) | omega))
  have N_HB := Lib.hid (((Below.refl w.heap.size w).alloc (by first | exact Nat.le_refl _ | assumption | (simp; done) | (simp; omega) | omega) _).trans (hb.mono (by first | exact Nat.le_refl _ | assumption | (simp; done) | (simp; omega) | omega)))
  clear hb
  have S_g := Lib.hid N_g.out
  clear N_g
  have HB_ := Lib.hid N_HB.out
  clear N_HB
  have hz_ : w.heap.size ≤ w1.heap.size := HB_.out.size
  have hl_g : w.heap.size < w1.heap.size := S_g.out.lt
  have c_g_0 : w1.cell? ⟨w.heap.size, 0, none⟩ = some (.int .i64 c) := S_g.out.cell (i := 0) rfl
  have c_g_1 : w1.cell? ⟨w.heap.size, 1, none⟩ = some (.int .i64 a) := S_g.out.cell (i := 1) rfl
  have c_g_2 : w1.cell? ⟨w.heap.size, 2, none⟩ = some (.int .i64 f) := S_g.out.cell (i := 2) rfl
  have c_g_3 : w1.cell? ⟨w.heap.size, 3, none⟩ = some (.bool m) := S_g.out.cell (i := 3) rfl
  have c_g_4 : w1.cell? ⟨w.heap.size, 4, none⟩ = some (.bool i) := S_g.out.cell (i := 4) rfl
  have c_g_5 : w1.cell? ⟨w.heap.size, 5, none⟩ = some (.bool d) := S_g.out.cell (i := 5) rfl
  go_wp2_with fail
  refine (word_yes _ _ _ _ _ _ _ (by decide)).mono ?_
  rintro e w2 ⟨rfl, hb⟩
  have N_g := Lib.hid ((S_g.out).below hb (by first | assumption | (simp; done) | (simp; omega) | omega))
  have N_HB := Lib.hid (HB_.out.trans (hb.mono (by first | exact Nat.le_refl _ | assumption | (simp; done) | (simp; omega) | omega)))
  clear hb S_g hl_g c_g_0 c_g_1 c_g_2 c_g_3 c_g_4 c_g_5 HB_ hz_
  have S_g := Lib.hid N_g.out
  clear N_g
  have HB_ := Lib.hid N_HB.out
  clear N_HB
  have hz_ : w.heap.size ≤ w2.heap.size := HB_.out.size
  have hl_g : w.heap.size < w2.heap.size := S_g.out.lt
  have c_g_0 : w2.cell? ⟨w.heap.size, 0, none⟩ = some (.int .i64 c) := S_g.out.cell (i := 0) rfl
  have c_g_1 : w2.cell? ⟨w.heap.size, 1, none⟩ = some (.int .i64 a) := S_g.out.cell (i := 1) rfl
  have c_g_2 : w2.cell? ⟨w.heap.size, 2, none⟩ = some (.int .i64 f) := S_g.out.cell (i := 2) rfl
  have c_g_3 : w2.cell? ⟨w.heap.size, 3, none⟩ = some (.bool m) := S_g.out.cell (i := 3) rfl
  have c_g_4 : w2.cell? ⟨w.heap.size, 4, none⟩ = some (.bool i) := S_g.out.cell (i := 4) rfl
  have c_g_5 : w2.cell? ⟨w.heap.size, 5, none⟩ = some (.bool d) := S_g.out.cell (i := 5) rfl
  go_wp2_with fail
  refine (word_no _ _ _ _ _ _ _ h).mono ?_
  rintro e w3 ⟨rfl, hb⟩
  have N_g := Lib.hid ((S_g.out).below hb (by first | assumption | (simp; done) | (simp; omega) | omega))
  have N_HB := Lib.hid (HB_.out.trans (hb.mono (by first | exact Nat.le_refl _ | assumption | (simp; done) | (simp; omega) | omega)))
  clear hb S_g hl_g c_g_0 c_g_1 c_g_2 c_g_3 c_g_4 c_g_5 HB_ hz_
  have S_g := Lib.hid N_g.out
  clear N_g
  have HB_ := Lib.hid N_HB.out
  clear N_HB
  have hz_ : w.heap.size ≤ w3.heap.size := HB_.out.size
  have hl_g : w.heap.size < w3.heap.size := S_g.out.lt
  have c_g_0 : w3.cell? ⟨w.heap.size, 0, none⟩ = some (.int .i64 c) := S_g.out.cell (i := 0) rfl
  have c_g_1 : w3.cell? ⟨w.heap.size, 1, none⟩ = some (.int .i64 a) := S_g.out.cell (i := 1) rfl
  have c_g_2 : w3.cell? ⟨w.heap.size, 2, none⟩ = some (.int .i64 f) := S_g.out.cell (i := 2) rfl
  have c_g_3 : w3.cell? ⟨w.heap.size, 3, none⟩ = some (.bool m) := S_g.out.cell (i := 3) rfl
  have c_g_4 : w3.cell? ⟨w.heap.size, 4, none⟩ = some (.bool i) := S_g.out.cell (i := 4) rfl
  have c_g_5 : w3.cell? ⟨w.heap.size, 5, none⟩ = some (.bool d) := S_g.out.cell (i := 5) rfl
  go_wp2_with fail
  refine (of_no n _ k).mono ?_
  rintro e w4 ⟨rfl, hb⟩
  have N_g := Lib.hid ((S_g.out).below hb (by first | assumption | (simp; done) | (simp; omega) | omega))
  have N_HB := Lib.hid (HB_.out.trans (hb.mono (by first | exact Nat.le_refl _ | assumption | (simp; done) | (simp; omega) | omega)))
  clear hb S_g hl_g c_g_0 c_g_1 c_g_2 c_g_3 c_g_4 c_g_5 HB_ hz_
  have S_g := Lib.hid N_g.out
  clear N_g
  have HB_ := Lib.hid N_HB.out
  clear N_HB
  have hz_ : w.heap.size ≤ w4.heap.size := HB_.out.size
  have hl_g : w.heap.size < w4.heap.size := S_g.out.lt
  have c_g_0 : w4.cell? ⟨w.heap.size, 0, none⟩ = some (.int .i64 c) := S_g.out.cell (i := 0) rfl
  have c_g_1 : w4.cell? ⟨w.heap.size, 1, none⟩ = some (.int .i64 a) := S_g.out.cell (i := 1) rfl
  have c_g_2 : w4.cell? ⟨w.heap.size, 2, none⟩ = some (.int .i64 f) := S_g.out.cell (i := 2) rfl
  have c_g_3 : w4.cell? ⟨w.heap.size, 3, none⟩ = some (.bool m) := S_g.out.cell (i := 3) rfl
  have c_g_4 : w4.cell? ⟨w.heap.size, 4, none⟩ = some (.bool i) := S_g.out.cell (i := 4) rfl
  have c_g_5 : w4.cell? ⟨w.heap.size, 5, none⟩ = some (.bool d) := S_g.out.cell (i := 5) rfl
  go_wp2
  go_ret
  exact ⟨rfl, HB_.out.alloc hz_ _⟩
set_option linter.unusedVariables false in
set_option maxHeartbeats 2000000 in
set_option maxRecDepth 100000 in
theorem hzero_n_out (w : World) (c a f : Int) (m i d : Bool) (n : Int) (n0 : 0 ≤ n) (n2 : n ≤ 4294967295) (h : hr c a f i d = false) (n1 : ¬ n < 33554432) (k : ohr n = false) :
    Calls Try.prog 13 #[.agg #[.int .i64 c, .int .i64 a, .int .i64 f, .bool m, .bool i, .bool d], .int .u32 n] w fun x w' => x = .returned (.bool true) ∧ Below w.heap.size w w' := by
  have z := wd_zero
  have d0 : decide (n < 33554432) = false := decide_eq_false n1
  clear n1
  go_enter Try.func13, Try.ntmps13
  go_wp2_with fail
  refine (hawake_any _).mono ?_
  rintro e w1 ⟨rfl, hb⟩
  have N_g := Lib.hid ((Blk.new' (k := w.heap.size) (by simp) #[.int .i64 c, .int .i64 a, .int .i64 f, .bool m, .bool i, .bool d] 41).below hb (by first | assumption | (simp; done) | (simp; omega) | omega))
  have N_HB := Lib.hid (((Below.refl w.heap.size w).alloc (by first | exact Nat.le_refl _ | assumption | (simp; done) | (simp; omega) | omega) _).trans (hb.mono (by first | exact Nat.le_refl _ | assumption | (simp; done) | (simp; omega) | omega)))
  clear hb
  have S_g := Lib.hid N_g.out
  clear N_g
  have HB_ := Lib.hid N_HB.out
  clear N_HB
  have hz_ : w.heap.size ≤ w1.heap.size := HB_.out.size
  have hl_g : w.heap.size < w1.heap.size := S_g.out.lt
  have c_g_0 : w1.cell? ⟨w.heap.size, 0, none⟩ = some (.int .i64 c) := S_g.out.cell (i := 0) rfl
  have c_g_1 : w1.cell? ⟨w.heap.size, 1, none⟩ = some (.int .i64 a) := S_g.out.cell (i := 1) rfl
  have c_g_2 : w1.cell? ⟨w.heap.size, 2, none⟩ = some (.int .i64 f) := S_g.out.cell (i := 2) rfl
  have c_g_3 : w1.cell? ⟨w.heap.size, 3, none⟩ = some (.bool m) := S_g.out.cell (i := 3) rfl
  have c_g_4 : w1.cell? ⟨w.heap.size, 4, none⟩ = some (.bool i) := S_g.out.cell (i := 4) rfl
  have c_g_5 : w1.cell? ⟨w.heap.size, 5, none⟩ = some (.bool d) := S_g.out.cell (i := 5) rfl
  go_wp2_with fail
  refine (word_yes _ _ _ _ _ _ _ (by decide)).mono ?_
  rintro e w2 ⟨rfl, hb⟩
  have N_g := Lib.hid ((S_g.out).below hb (by first | assumption | (simp; done) | (simp; omega) | omega))
  have N_HB := Lib.hid (HB_.out.trans (hb.mono (by first | exact Nat.le_refl _ | assumption | (simp; done) | (simp; omega) | omega)))
  clear hb S_g hl_g c_g_0 c_g_1 c_g_2 c_g_3 c_g_4 c_g_5 HB_ hz_
  have S_g := Lib.hid N_g.out
  clear N_g
  have HB_ := Lib.hid N_HB.out
  clear N_HB
  have hz_ : w.heap.size ≤ w2.heap.size := HB_.out.size
  have hl_g : w.heap.size < w2.heap.size := S_g.out.lt
  have c_g_0 : w2.cell? ⟨w.heap.size, 0, none⟩ = some (.int .i64 c) := S_g.out.cell (i := 0) rfl
  have c_g_1 : w2.cell? ⟨w.heap.size, 1, none⟩ = some (.int .i64 a) := S_g.out.cell (i := 1) rfl
  have c_g_2 : w2.cell? ⟨w.heap.size, 2, none⟩ = some (.int .i64 f) := S_g.out.cell (i := 2) rfl
  have c_g_3 : w2.cell? ⟨w.heap.size, 3, none⟩ = some (.bool m) := S_g.out.cell (i := 3) rfl
  have c_g_4 : w2.cell? ⟨w.heap.size, 4, none⟩ = some (.bool i) := S_g.out.cell (i := 4) rfl
  have c_g_5 : w2.cell? ⟨w.heap.size, 5, none⟩ = some (.bool d) := S_g.out.cell (i := 5) rfl
  go_wp2_with fail
  refine (word_no _ _ _ _ _ _ _ h).mono ?_
  rintro e w3 ⟨rfl, hb⟩
  have N_g := Lib.hid ((S_g.out).below hb (by first | assumption | (simp; done) | (simp; omega) | omega))
  have N_HB := Lib.hid (HB_.out.trans (hb.mono (by first | exact Nat.le_refl _ | assumption | (simp; done) | (simp; omega) | omega)))
  clear hb S_g hl_g c_g_0 c_g_1 c_g_2 c_g_3 c_g_4 c_g_5 HB_ hz_
  have S_g := Lib.hid N_g.out
  clear N_g
  have HB_ := Lib.hid N_HB.out
  clear N_HB
  have hz_ : w.heap.size ≤ w3.heap.size := HB_.out.size
  have hl_g : w.heap.size < w3.heap.size := S_g.out.lt
  have c_g_0 : w3.cell? ⟨w.heap.size, 0, none⟩ = some (.int .i64 c) := S_g.out.cell (i := 0) rfl
  have c_g_1 : w3.cell? ⟨w.heap.size, 1, none⟩ = some (.int .i64 a) := S_g.out.cell (i := 1) rfl
  have c_g_2 : w3.cell? ⟨w.heap.size, 2, none⟩ = some (.int .i64 f) := S_g.out.cell (i := 2) rfl
  have c_g_3 : w3.cell? ⟨w.heap.size, 3, none⟩ = some (.bool m) := S_g.out.cell (i := 3) rfl
  have c_g_4 : w3.cell? ⟨w.heap.size, 4, none⟩ = some (.bool i) := S_g.out.cell (i := 4) rfl
  have c_g_5 : w3.cell? ⟨w.heap.size, 5, none⟩ = some (.bool d) := S_g.out.cell (i := 5) rfl
  go_wp2_with fail
  refine (of_no n _ k).mono ?_
  rintro e w4 ⟨rfl, hb⟩
  have N_g := Lib.hid ((S_g.out).below hb (by first | assumption | (simp; done) | (simp; omega) | omega))
  have N_HB := Lib.hid (HB_.out.trans (hb.mono (by first | exact Nat.le_refl _ | assumption | (simp; done) | (simp; omega) | omega)))
  clear hb S_g hl_g c_g_0 c_g_1 c_g_2 c_g_3 c_g_4 c_g_5 HB_ hz_
  have S_g := Lib.hid N_g.out
  clear N_g
  have HB_ := Lib.hid N_HB.out
  clear N_HB
  have hz_ : w.heap.size ≤ w4.heap.size := HB_.out.size
  have hl_g : w.heap.size < w4.heap.size := S_g.out.lt
  have c_g_0 : w4.cell? ⟨w.heap.size, 0, none⟩ = some (.int .i64 c) := S_g.out.cell (i := 0) rfl
  have c_g_1 : w4.cell? ⟨w.heap.size, 1, none⟩ = some (.int .i64 a) := S_g.out.cell (i := 1) rfl
  have c_g_2 : w4.cell? ⟨w.heap.size, 2, none⟩ = some (.int .i64 f) := S_g.out.cell (i := 2) rfl
  have c_g_3 : w4.cell? ⟨w.heap.size, 3, none⟩ = some (.bool m) := S_g.out.cell (i := 3) rfl
  have c_g_4 : w4.cell? ⟨w.heap.size, 4, none⟩ = some (.bool i) := S_g.out.cell (i := 4) rfl
  have c_g_5 : w4.cell? ⟨w.heap.size, 5, none⟩ = some (.bool d) := S_g.out.cell (i := 5) rfl
  go_wp2
  go_ret
  exact ⟨rfl, HB_.out.alloc hz_ _⟩
theorem u32_range {a : Int} (h : (Lit.int .u32 a).wf = true) : 0 ≤ a ∧ a ≤ 4294967295 := by
  simp [Lit.wf, IntKind.min, IntKind.max, IntKind.signed, IntKind.bits] at h
  omega
theorem headZero_walk (w : World) (c : Int) (_ : (Lit.int .i64 c).wf = true) (a : Int) (_ : (Lit.int .i64 a).wf = true) (f : Int) (_ : (Lit.int .i64 f).wf = true) (m i d : Bool) (n : Int) (wn : (Lit.int .u32 n).wf = true) :
    Calls Try.prog 13 #[.agg #[.int .i64 c, .int .i64 a, .int .i64 f, .bool m, .bool i, .bool d], .int .u32 n] w fun x w' => x = .returned (.bool true) ∧ Below w.heap.size w w' := by
  obtain ⟨n0, n2⟩ := u32_range wn
  by_cases n1 : n < 33554432
  · have e := ohr_in n0 n1
    cases k : ohr n
    · cases h : hr c a f i d
      · exact hzero_n_no w c a f m i d n n0 n2 h n1 k
      · exact hzero_y_no w c a f m i d n n0 n2 h n1 k
    · rw [e] at k
      cases h : hr c a f i d
      · exact hzero_n_in w c a f m i d n n0 n2 h n1 k
      · exact hzero_y_in w c a f m i d n n0 n2 h n1 k
  · have k := ohr_out (n := n) (.inr (by omega))
    cases h : hr c a f i d
    · exact hzero_n_out w c a f m i d n n0 n2 h n1 k
    · exact hzero_y_out w c a f m i d n n0 n2 h n1 k
end Go.Proofs.Ytlhbfeddgopfjaa
