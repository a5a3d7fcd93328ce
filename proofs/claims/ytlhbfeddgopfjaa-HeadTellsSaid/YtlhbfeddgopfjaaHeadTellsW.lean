/-
  The walk of the law HeadTells: for every head it returns true, and memory below the heap's old size is unchanged. No condition.
-/
import Derived.Test.YtlhbfeddgopfjaaHde
namespace Go.Proofs.Ytlhbfeddgopfjaa
open Go.RowKit
set_option maxHeartbeats 2000000 in
set_option maxRecDepth 100000 in
theorem htells_yes (w : World) (c a f : Int) (m i d : Bool) (h : hr c a f i d = true) :
    Calls Try.prog 9 #[.agg #[.int .i64 c, .int .i64 a, .int .i64 f, .bool m, .bool i, .bool d]] w fun x w' => x = .returned (.bool true) ∧ Below w.heap.size w w' := by
  go_enter Try.func9, Try.ntmps9
  go_wp2_with fail
  refine (hawake_any _).mono ?_
  rintro e w1 ⟨rfl, hb⟩
  have N_h := Lib.hid ((Blk.new' (k := w.heap.size) (by simp) #[.int .i64 c, .int .i64 a, .int .i64 f, .bool m, .bool i, .bool d] 41).below hb (by first | assumption | (simp; done) | (simp; omega) | omega))
  have N_HB := Lib.hid (((Below.refl w.heap.size w).alloc (by first | exact Nat.le_refl _ | assumption | (simp; done) | (simp; omega) | omega) _).trans (hb.mono (by first | exact Nat.le_refl _ | assumption | (simp; done) | (simp; omega) | omega)))
  clear hb
  have S_h := Lib.hid N_h.out
  clear N_h
  have HB_ := Lib.hid N_HB.out
  clear N_HB
  have hz_ : w.heap.size ≤ w1.heap.size := HB_.out.size
  have hl_h : w.heap.size < w1.heap.size := S_h.out.lt
  have c_h_0 : w1.cell? ⟨w.heap.size, 0, none⟩ = some (.int .i64 c) := S_h.out.cell (i := 0) rfl
  have c_h_1 : w1.cell? ⟨w.heap.size, 1, none⟩ = some (.int .i64 a) := S_h.out.cell (i := 1) rfl
  have c_h_2 : w1.cell? ⟨w.heap.size, 2, none⟩ = some (.int .i64 f) := S_h.out.cell (i := 2) rfl
  have c_h_3 : w1.cell? ⟨w.heap.size, 3, none⟩ = some (.bool m) := S_h.out.cell (i := 3) rfl
  have c_h_4 : w1.cell? ⟨w.heap.size, 4, none⟩ = some (.bool i) := S_h.out.cell (i := 4) rfl
  have c_h_5 : w1.cell? ⟨w.heap.size, 5, none⟩ = some (.bool d) := S_h.out.cell (i := 5) rfl
  go_wp2_with fail
  refine (word_yes _ _ _ _ _ _ _ h).mono ?_
  rintro e w2 ⟨rfl, hb⟩
  have N_h := Lib.hid (((S_h.out).alloc _).below hb (by first | assumption | (simp; done) | (simp; omega) | omega))
  have N_x := Lib.hid ((Blk.new' (k := w1.heap.size) (by simp) #[.int .i64 c, .int .i64 a, .int .i64 f, .bool m, .bool i, .bool d] 42).below hb (by first | assumption | (simp; done) | (simp; omega) | omega))
  have N_HB := Lib.hid ((HB_.out.alloc (by first | exact Nat.le_refl _ | assumption | (simp; done) | (simp; omega) | omega) _).trans (hb.mono (by first | exact Nat.le_refl _ | assumption | (simp; done) | (simp; omega) | omega)))
  clear hb S_h hl_h c_h_0 c_h_1 c_h_2 c_h_3 c_h_4 c_h_5 HB_ hz_
  have S_h := Lib.hid N_h.out
  clear N_h
  have S_x := Lib.hid N_x.out
  clear N_x
  have HB_ := Lib.hid N_HB.out
  clear N_HB
  have hz_ : w.heap.size ≤ w2.heap.size := HB_.out.size
  have hl_h : w.heap.size < w2.heap.size := S_h.out.lt
  have c_h_0 : w2.cell? ⟨w.heap.size, 0, none⟩ = some (.int .i64 c) := S_h.out.cell (i := 0) rfl
  have c_h_1 : w2.cell? ⟨w.heap.size, 1, none⟩ = some (.int .i64 a) := S_h.out.cell (i := 1) rfl
  have c_h_2 : w2.cell? ⟨w.heap.size, 2, none⟩ = some (.int .i64 f) := S_h.out.cell (i := 2) rfl
  have c_h_3 : w2.cell? ⟨w.heap.size, 3, none⟩ = some (.bool m) := S_h.out.cell (i := 3) rfl
  have c_h_4 : w2.cell? ⟨w.heap.size, 4, none⟩ = some (.bool i) := S_h.out.cell (i := 4) rfl
  have c_h_5 : w2.cell? ⟨w.heap.size, 5, none⟩ = some (.bool d) := S_h.out.cell (i := 5) rfl
  have hl_x : w1.heap.size < w2.heap.size := S_x.out.lt
  have c_x_0 : w2.cell? ⟨w1.heap.size, 0, none⟩ = some (.int .i64 c) := S_x.out.cell (i := 0) rfl
  have c_x_1 : w2.cell? ⟨w1.heap.size, 1, none⟩ = some (.int .i64 a) := S_x.out.cell (i := 1) rfl
  have c_x_2 : w2.cell? ⟨w1.heap.size, 2, none⟩ = some (.int .i64 f) := S_x.out.cell (i := 2) rfl
  have c_x_3 : w2.cell? ⟨w1.heap.size, 3, none⟩ = some (.bool m) := S_x.out.cell (i := 3) rfl
  have c_x_4 : w2.cell? ⟨w1.heap.size, 4, none⟩ = some (.bool i) := S_x.out.cell (i := 4) rfl
  have c_x_5 : w2.cell? ⟨w1.heap.size, 5, none⟩ = some (.bool d) := S_x.out.cell (i := 5) rfl
  go_wp2_with fail
  refine (rhright_any _ _ _ _ _ _ _).mono ?_
  rintro e w3 ⟨rfl, hb⟩
  have N_h := Lib.hid ((S_h.out).below hb (by first | assumption | (simp; done) | (simp; omega) | omega))
  have N_x := Lib.hid ((S_x.out).below hb (by first | assumption | (simp; done) | (simp; omega) | omega))
  have N_HB := Lib.hid (HB_.out.trans (hb.mono (by first | exact Nat.le_refl _ | assumption | (simp; done) | (simp; omega) | omega)))
  clear hb S_h S_x hl_h c_h_0 c_h_1 c_h_2 c_h_3 c_h_4 c_h_5 hl_x c_x_0 c_x_1 c_x_2 c_x_3 c_x_4 c_x_5 HB_ hz_
  have S_h := Lib.hid N_h.out
  clear N_h
  have S_x := Lib.hid N_x.out
  clear N_x
  have HB_ := Lib.hid N_HB.out
  clear N_HB
  have hz_ : w.heap.size ≤ w3.heap.size := HB_.out.size
  have hl_h : w.heap.size < w3.heap.size := S_h.out.lt
  have c_h_0 : w3.cell? ⟨w.heap.size, 0, none⟩ = some (.int .i64 c) := S_h.out.cell (i := 0) rfl
  have c_h_1 : w3.cell? ⟨w.heap.size, 1, none⟩ = some (.int .i64 a) := S_h.out.cell (i := 1) rfl
  have c_h_2 : w3.cell? ⟨w.heap.size, 2, none⟩ = some (.int .i64 f) := S_h.out.cell (i := 2) rfl
  have c_h_3 : w3.cell? ⟨w.heap.size, 3, none⟩ = some (.bool m) := S_h.out.cell (i := 3) rfl
  have c_h_4 : w3.cell? ⟨w.heap.size, 4, none⟩ = some (.bool i) := S_h.out.cell (i := 4) rfl
  have c_h_5 : w3.cell? ⟨w.heap.size, 5, none⟩ = some (.bool d) := S_h.out.cell (i := 5) rfl
  have hl_x : w1.heap.size < w3.heap.size := S_x.out.lt
  have c_x_0 : w3.cell? ⟨w1.heap.size, 0, none⟩ = some (.int .i64 c) := S_x.out.cell (i := 0) rfl
  have c_x_1 : w3.cell? ⟨w1.heap.size, 1, none⟩ = some (.int .i64 a) := S_x.out.cell (i := 1) rfl
  have c_x_2 : w3.cell? ⟨w1.heap.size, 2, none⟩ = some (.int .i64 f) := S_x.out.cell (i := 2) rfl
  have c_x_3 : w3.cell? ⟨w1.heap.size, 3, none⟩ = some (.bool m) := S_x.out.cell (i := 3) rfl
  have c_x_4 : w3.cell? ⟨w1.heap.size, 4, none⟩ = some (.bool i) := S_x.out.cell (i := 4) rfl
  have c_x_5 : w3.cell? ⟨w1.heap.size, 5, none⟩ = some (.bool d) := S_x.out.cell (i := 5) rfl
  go_wp2_with fail
  refine (hright_any _ _ _ _ _ _ _).mono ?_
  rintro e w4 ⟨rfl, hb⟩
  have N_h := Lib.hid ((S_h.out).below hb (by first | assumption | (simp; done) | (simp; omega) | omega))
  have N_x := Lib.hid ((S_x.out).below hb (by first | assumption | (simp; done) | (simp; omega) | omega))
  have N_HB := Lib.hid (HB_.out.trans (hb.mono (by first | exact Nat.le_refl _ | assumption | (simp; done) | (simp; omega) | omega)))
  clear hb S_h S_x hl_h c_h_0 c_h_1 c_h_2 c_h_3 c_h_4 c_h_5 hl_x c_x_0 c_x_1 c_x_2 c_x_3 c_x_4 c_x_5 HB_ hz_
  have S_h := Lib.hid N_h.out
  clear N_h
  have S_x := Lib.hid N_x.out
  clear N_x
  have HB_ := Lib.hid N_HB.out
  clear N_HB
  have hz_ : w.heap.size ≤ w4.heap.size := HB_.out.size
  have hl_h : w.heap.size < w4.heap.size := S_h.out.lt
  have c_h_0 : w4.cell? ⟨w.heap.size, 0, none⟩ = some (.int .i64 c) := S_h.out.cell (i := 0) rfl
  have c_h_1 : w4.cell? ⟨w.heap.size, 1, none⟩ = some (.int .i64 a) := S_h.out.cell (i := 1) rfl
  have c_h_2 : w4.cell? ⟨w.heap.size, 2, none⟩ = some (.int .i64 f) := S_h.out.cell (i := 2) rfl
  have c_h_3 : w4.cell? ⟨w.heap.size, 3, none⟩ = some (.bool m) := S_h.out.cell (i := 3) rfl
  have c_h_4 : w4.cell? ⟨w.heap.size, 4, none⟩ = some (.bool i) := S_h.out.cell (i := 4) rfl
  have c_h_5 : w4.cell? ⟨w.heap.size, 5, none⟩ = some (.bool d) := S_h.out.cell (i := 5) rfl
  have hl_x : w1.heap.size < w4.heap.size := S_x.out.lt
  have c_x_0 : w4.cell? ⟨w1.heap.size, 0, none⟩ = some (.int .i64 c) := S_x.out.cell (i := 0) rfl
  have c_x_1 : w4.cell? ⟨w1.heap.size, 1, none⟩ = some (.int .i64 a) := S_x.out.cell (i := 1) rfl
  have c_x_2 : w4.cell? ⟨w1.heap.size, 2, none⟩ = some (.int .i64 f) := S_x.out.cell (i := 2) rfl
  have c_x_3 : w4.cell? ⟨w1.heap.size, 3, none⟩ = some (.bool m) := S_x.out.cell (i := 3) rfl
  have c_x_4 : w4.cell? ⟨w1.heap.size, 4, none⟩ = some (.bool i) := S_x.out.cell (i := 4) rfl
  have c_x_5 : w4.cell? ⟨w1.heap.size, 5, none⟩ = some (.bool d) := S_x.out.cell (i := 5) rfl
  go_wp2_with fail
  refine (rword_any _ _ _ _ _ _ _ h).mono ?_
  rintro e w5 ⟨rfl, hb⟩
  have N_h := Lib.hid ((S_h.out).below hb (by first | assumption | (simp; done) | (simp; omega) | omega))
  have N_x := Lib.hid ((S_x.out).below hb (by first | assumption | (simp; done) | (simp; omega) | omega))
  have N_HB := Lib.hid (HB_.out.trans (hb.mono (by first | exact Nat.le_refl _ | assumption | (simp; done) | (simp; omega) | omega)))
  clear hb S_h S_x hl_h c_h_0 c_h_1 c_h_2 c_h_3 c_h_4 c_h_5 hl_x c_x_0 c_x_1 c_x_2 c_x_3 c_x_4 c_x_5 HB_ hz_
  have S_h := Lib.hid N_h.out
  clear N_h
  have S_x := Lib.hid N_x.out
  clear N_x
  have HB_ := Lib.hid N_HB.out
  clear N_HB
  have hz_ : w.heap.size ≤ w5.heap.size := HB_.out.size
  have hl_h : w.heap.size < w5.heap.size := S_h.out.lt
  have c_h_0 : w5.cell? ⟨w.heap.size, 0, none⟩ = some (.int .i64 c) := S_h.out.cell (i := 0) rfl
  have c_h_1 : w5.cell? ⟨w.heap.size, 1, none⟩ = some (.int .i64 a) := S_h.out.cell (i := 1) rfl
  have c_h_2 : w5.cell? ⟨w.heap.size, 2, none⟩ = some (.int .i64 f) := S_h.out.cell (i := 2) rfl
  have c_h_3 : w5.cell? ⟨w.heap.size, 3, none⟩ = some (.bool m) := S_h.out.cell (i := 3) rfl
  have c_h_4 : w5.cell? ⟨w.heap.size, 4, none⟩ = some (.bool i) := S_h.out.cell (i := 4) rfl
  have c_h_5 : w5.cell? ⟨w.heap.size, 5, none⟩ = some (.bool d) := S_h.out.cell (i := 5) rfl
  have hl_x : w1.heap.size < w5.heap.size := S_x.out.lt
  have c_x_0 : w5.cell? ⟨w1.heap.size, 0, none⟩ = some (.int .i64 c) := S_x.out.cell (i := 0) rfl
  have c_x_1 : w5.cell? ⟨w1.heap.size, 1, none⟩ = some (.int .i64 a) := S_x.out.cell (i := 1) rfl
  have c_x_2 : w5.cell? ⟨w1.heap.size, 2, none⟩ = some (.int .i64 f) := S_x.out.cell (i := 2) rfl
  have c_x_3 : w5.cell? ⟨w1.heap.size, 3, none⟩ = some (.bool m) := S_x.out.cell (i := 3) rfl
  have c_x_4 : w5.cell? ⟨w1.heap.size, 4, none⟩ = some (.bool i) := S_x.out.cell (i := 4) rfl
  have c_x_5 : w5.cell? ⟨w1.heap.size, 5, none⟩ = some (.bool d) := S_x.out.cell (i := 5) rfl
  go_wp2
  go_ret
  exact ⟨rfl, HB_.out⟩
set_option maxHeartbeats 2000000 in
set_option maxRecDepth 100000 in
theorem htells_no (w : World) (c a f : Int) (m i d : Bool) (h : hr c a f i d = false) :
    Calls Try.prog 9 #[.agg #[.int .i64 c, .int .i64 a, .int .i64 f, .bool m, .bool i, .bool d]] w fun x w' => x = .returned (.bool true) ∧ Below w.heap.size w w' := by
  go_enter Try.func9, Try.ntmps9
  go_wp2_with fail
  refine (hawake_any _).mono ?_
  rintro e w1 ⟨rfl, hb⟩
  have N_h := Lib.hid ((Blk.new' (k := w.heap.size) (by simp) #[.int .i64 c, .int .i64 a, .int .i64 f, .bool m, .bool i, .bool d] 41).below hb (by first | assumption | (simp; done) | (simp; omega) | omega))
  have N_HB := Lib.hid (((Below.refl w.heap.size w).alloc (by first | exact Nat.le_refl _ | assumption | (simp; done) | (simp; omega) | omega) _).trans (hb.mono (by first | exact Nat.le_refl _ | assumption | (simp; done) | (simp; omega) | omega)))
  clear hb
  have S_h := Lib.hid N_h.out
  clear N_h
  have HB_ := Lib.hid N_HB.out
  clear N_HB
  have hz_ : w.heap.size ≤ w1.heap.size := HB_.out.size
  have hl_h : w.heap.size < w1.heap.size := S_h.out.lt
  have c_h_0 : w1.cell? ⟨w.heap.size, 0, none⟩ = some (.int .i64 c) := S_h.out.cell (i := 0) rfl
  have c_h_1 : w1.cell? ⟨w.heap.size, 1, none⟩ = some (.int .i64 a) := S_h.out.cell (i := 1) rfl
  have c_h_2 : w1.cell? ⟨w.heap.size, 2, none⟩ = some (.int .i64 f) := S_h.out.cell (i := 2) rfl
  have c_h_3 : w1.cell? ⟨w.heap.size, 3, none⟩ = some (.bool m) := S_h.out.cell (i := 3) rfl
  have c_h_4 : w1.cell? ⟨w.heap.size, 4, none⟩ = some (.bool i) := S_h.out.cell (i := 4) rfl
  have c_h_5 : w1.cell? ⟨w.heap.size, 5, none⟩ = some (.bool d) := S_h.out.cell (i := 5) rfl
  go_wp2_with fail
  refine (word_no _ _ _ _ _ _ _ h).mono ?_
  rintro e w2 ⟨rfl, hb⟩
  have N_h := Lib.hid (((S_h.out).alloc _).below hb (by first | assumption | (simp; done) | (simp; omega) | omega))
  have N_x := Lib.hid ((Blk.new' (k := w1.heap.size) (by simp) #[.int .i64 c, .int .i64 a, .int .i64 f, .bool m, .bool i, .bool d] 42).below hb (by first | assumption | (simp; done) | (simp; omega) | omega))
  have N_HB := Lib.hid ((HB_.out.alloc (by first | exact Nat.le_refl _ | assumption | (simp; done) | (simp; omega) | omega) _).trans (hb.mono (by first | exact Nat.le_refl _ | assumption | (simp; done) | (simp; omega) | omega)))
  clear hb S_h hl_h c_h_0 c_h_1 c_h_2 c_h_3 c_h_4 c_h_5 HB_ hz_
  have S_h := Lib.hid N_h.out
  clear N_h
  have S_x := Lib.hid N_x.out
  clear N_x
  have HB_ := Lib.hid N_HB.out
  clear N_HB
  have hz_ : w.heap.size ≤ w2.heap.size := HB_.out.size
  have hl_h : w.heap.size < w2.heap.size := S_h.out.lt
  have c_h_0 : w2.cell? ⟨w.heap.size, 0, none⟩ = some (.int .i64 c) := S_h.out.cell (i := 0) rfl
  have c_h_1 : w2.cell? ⟨w.heap.size, 1, none⟩ = some (.int .i64 a) := S_h.out.cell (i := 1) rfl
  have c_h_2 : w2.cell? ⟨w.heap.size, 2, none⟩ = some (.int .i64 f) := S_h.out.cell (i := 2) rfl
  have c_h_3 : w2.cell? ⟨w.heap.size, 3, none⟩ = some (.bool m) := S_h.out.cell (i := 3) rfl
  have c_h_4 : w2.cell? ⟨w.heap.size, 4, none⟩ = some (.bool i) := S_h.out.cell (i := 4) rfl
  have c_h_5 : w2.cell? ⟨w.heap.size, 5, none⟩ = some (.bool d) := S_h.out.cell (i := 5) rfl
  have hl_x : w1.heap.size < w2.heap.size := S_x.out.lt
  have c_x_0 : w2.cell? ⟨w1.heap.size, 0, none⟩ = some (.int .i64 c) := S_x.out.cell (i := 0) rfl
  have c_x_1 : w2.cell? ⟨w1.heap.size, 1, none⟩ = some (.int .i64 a) := S_x.out.cell (i := 1) rfl
  have c_x_2 : w2.cell? ⟨w1.heap.size, 2, none⟩ = some (.int .i64 f) := S_x.out.cell (i := 2) rfl
  have c_x_3 : w2.cell? ⟨w1.heap.size, 3, none⟩ = some (.bool m) := S_x.out.cell (i := 3) rfl
  have c_x_4 : w2.cell? ⟨w1.heap.size, 4, none⟩ = some (.bool i) := S_x.out.cell (i := 4) rfl
  have c_x_5 : w2.cell? ⟨w1.heap.size, 5, none⟩ = some (.bool d) := S_x.out.cell (i := 5) rfl
  go_wp2_with fail
  refine (rhright_any _ _ _ _ _ _ _).mono ?_
  rintro e w3 ⟨rfl, hb⟩
  have N_h := Lib.hid ((S_h.out).below hb (by first | assumption | (simp; done) | (simp; omega) | omega))
  have N_x := Lib.hid ((S_x.out).below hb (by first | assumption | (simp; done) | (simp; omega) | omega))
  have N_HB := Lib.hid (HB_.out.trans (hb.mono (by first | exact Nat.le_refl _ | assumption | (simp; done) | (simp; omega) | omega)))
  clear hb S_h S_x hl_h c_h_0 c_h_1 c_h_2 c_h_3 c_h_4 c_h_5 hl_x c_x_0 c_x_1 c_x_2 c_x_3 c_x_4 c_x_5 HB_ hz_
  have S_h := Lib.hid N_h.out
  clear N_h
  have S_x := Lib.hid N_x.out
  clear N_x
  have HB_ := Lib.hid N_HB.out
  clear N_HB
  have hz_ : w.heap.size ≤ w3.heap.size := HB_.out.size
  have hl_h : w.heap.size < w3.heap.size := S_h.out.lt
  have c_h_0 : w3.cell? ⟨w.heap.size, 0, none⟩ = some (.int .i64 c) := S_h.out.cell (i := 0) rfl
  have c_h_1 : w3.cell? ⟨w.heap.size, 1, none⟩ = some (.int .i64 a) := S_h.out.cell (i := 1) rfl
  have c_h_2 : w3.cell? ⟨w.heap.size, 2, none⟩ = some (.int .i64 f) := S_h.out.cell (i := 2) rfl
  have c_h_3 : w3.cell? ⟨w.heap.size, 3, none⟩ = some (.bool m) := S_h.out.cell (i := 3) rfl
  have c_h_4 : w3.cell? ⟨w.heap.size, 4, none⟩ = some (.bool i) := S_h.out.cell (i := 4) rfl
  have c_h_5 : w3.cell? ⟨w.heap.size, 5, none⟩ = some (.bool d) := S_h.out.cell (i := 5) rfl
  have hl_x : w1.heap.size < w3.heap.size := S_x.out.lt
  have c_x_0 : w3.cell? ⟨w1.heap.size, 0, none⟩ = some (.int .i64 c) := S_x.out.cell (i := 0) rfl
  have c_x_1 : w3.cell? ⟨w1.heap.size, 1, none⟩ = some (.int .i64 a) := S_x.out.cell (i := 1) rfl
  have c_x_2 : w3.cell? ⟨w1.heap.size, 2, none⟩ = some (.int .i64 f) := S_x.out.cell (i := 2) rfl
  have c_x_3 : w3.cell? ⟨w1.heap.size, 3, none⟩ = some (.bool m) := S_x.out.cell (i := 3) rfl
  have c_x_4 : w3.cell? ⟨w1.heap.size, 4, none⟩ = some (.bool i) := S_x.out.cell (i := 4) rfl
  have c_x_5 : w3.cell? ⟨w1.heap.size, 5, none⟩ = some (.bool d) := S_x.out.cell (i := 5) rfl
  go_wp2_with fail
  refine (hright_any _ _ _ _ _ _ _).mono ?_
  rintro e w4 ⟨rfl, hb⟩
  have N_h := Lib.hid ((S_h.out).below hb (by first | assumption | (simp; done) | (simp; omega) | omega))
  have N_x := Lib.hid ((S_x.out).below hb (by first | assumption | (simp; done) | (simp; omega) | omega))
  have N_HB := Lib.hid (HB_.out.trans (hb.mono (by first | exact Nat.le_refl _ | assumption | (simp; done) | (simp; omega) | omega)))
  clear hb S_h S_x hl_h c_h_0 c_h_1 c_h_2 c_h_3 c_h_4 c_h_5 hl_x c_x_0 c_x_1 c_x_2 c_x_3 c_x_4 c_x_5 HB_ hz_
  have S_h := Lib.hid N_h.out
  clear N_h
  have S_x := Lib.hid N_x.out
  clear N_x
  have HB_ := Lib.hid N_HB.out
  clear N_HB
  have hz_ : w.heap.size ≤ w4.heap.size := HB_.out.size
  have hl_h : w.heap.size < w4.heap.size := S_h.out.lt
  have c_h_0 : w4.cell? ⟨w.heap.size, 0, none⟩ = some (.int .i64 c) := S_h.out.cell (i := 0) rfl
  have c_h_1 : w4.cell? ⟨w.heap.size, 1, none⟩ = some (.int .i64 a) := S_h.out.cell (i := 1) rfl
  have c_h_2 : w4.cell? ⟨w.heap.size, 2, none⟩ = some (.int .i64 f) := S_h.out.cell (i := 2) rfl
  have c_h_3 : w4.cell? ⟨w.heap.size, 3, none⟩ = some (.bool m) := S_h.out.cell (i := 3) rfl
  have c_h_4 : w4.cell? ⟨w.heap.size, 4, none⟩ = some (.bool i) := S_h.out.cell (i := 4) rfl
  have c_h_5 : w4.cell? ⟨w.heap.size, 5, none⟩ = some (.bool d) := S_h.out.cell (i := 5) rfl
  have hl_x : w1.heap.size < w4.heap.size := S_x.out.lt
  have c_x_0 : w4.cell? ⟨w1.heap.size, 0, none⟩ = some (.int .i64 c) := S_x.out.cell (i := 0) rfl
  have c_x_1 : w4.cell? ⟨w1.heap.size, 1, none⟩ = some (.int .i64 a) := S_x.out.cell (i := 1) rfl
  have c_x_2 : w4.cell? ⟨w1.heap.size, 2, none⟩ = some (.int .i64 f) := S_x.out.cell (i := 2) rfl
  have c_x_3 : w4.cell? ⟨w1.heap.size, 3, none⟩ = some (.bool m) := S_x.out.cell (i := 3) rfl
  have c_x_4 : w4.cell? ⟨w1.heap.size, 4, none⟩ = some (.bool i) := S_x.out.cell (i := 4) rfl
  have c_x_5 : w4.cell? ⟨w1.heap.size, 5, none⟩ = some (.bool d) := S_x.out.cell (i := 5) rfl
  go_wp2
  go_ret
  exact ⟨rfl, HB_.out⟩
theorem headTells_walk (w : World) (c : Int) (_ : (Lit.int .i64 c).wf = true) (a : Int) (_ : (Lit.int .i64 a).wf = true) (f : Int) (_ : (Lit.int .i64 f).wf = true) (m i d : Bool) :
    Calls Try.prog 9 #[.agg #[.int .i64 c, .int .i64 a, .int .i64 f, .bool m, .bool i, .bool d]] w fun x w' => x = .returned (.bool true) ∧ Below w.heap.size w w' := by
  cases h : hr c a f i d
  · exact htells_no w c a f m i d h
  · exact htells_yes w c a f m i d h
end Go.Proofs.Ytlhbfeddgopfjaa
