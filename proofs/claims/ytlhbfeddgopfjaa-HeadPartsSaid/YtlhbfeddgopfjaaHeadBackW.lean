/-
  The walk of the law HeadBack: for every two heads it returns true, and memory below the heap's old size is unchanged. No condition.
-/
import Derived.Test.YtlhbfeddgopfjaaHde
namespace Go.Proofs.Ytlhbfeddgopfjaa
open Go.RowKit
theorem bt_k {b : Bool} {n : Int} : bt' b n = if b then n else 0 := rfl
theorem wd_range {c a f : Int} {m i d : Bool} (h : hr c a f i d = true) : 0 ≤ wd c a f m i d ∧ wd c a f m i d < 33554432 := by
  obtain ⟨b0, b1, b2, _⟩ := hr_true h
  unfold wd
  have h1 := bt_cases m 1024
  have h2 := bt_cases i 2048
  have h3 := bt_cases d 4096
  omega
theorem rbt_of {n k : Int} {b : Bool} (h : n / k % 2 = if b then 1 else 0) : rbt n k = b := by
  unfold rbt
  rw [h]
  cases b <;> rfl
theorem wd_parts {c a f : Int} {m i d : Bool} (h : hr c a f i d = true) : wd c a f m i d % 64 = c ∧ wd c a f m i d / 64 % 16 = a ∧ wd c a f m i d / 8192 = f ∧ rbt (wd c a f m i d) 1024 = m ∧ rbt (wd c a f m i d) 2048 = i ∧ rbt (wd c a f m i d) 4096 = d := by
  obtain ⟨b0, b1, b2, _⟩ := hr_true h
  have e1 : bt' m 1024 = 1024 * (if m then 1 else 0) := by cases m <;> simp [bt']
  have e2 : bt' i 2048 = 2048 * (if i then 1 else 0) := by cases i <;> simp [bt']
  have e3 : bt' d 4096 = 4096 * (if d then 1 else 0) := by cases d <;> simp [bt']
  have r1 : (if m then (1 : Int) else 0) = 0 ∨ (if m then (1 : Int) else 0) = 1 := by cases m <;> simp
  have r2 : (if i then (1 : Int) else 0) = 0 ∨ (if i then (1 : Int) else 0) = 1 := by cases i <;> simp
  have r3 : (if d then (1 : Int) else 0) = 0 ∨ (if d then (1 : Int) else 0) = 1 := by cases d <;> simp
  refine ⟨?_, ?_, ?_, rbt_of ?_, rbt_of ?_, rbt_of ?_⟩
  all_goals
    unfold wd
    rw [e1, e2, e3]
    generalize (if m then (1 : Int) else 0) = x at *
    generalize (if i then (1 : Int) else 0) = y at *
    generalize (if d then (1 : Int) else 0) = z at *
    omega
theorem rhr_wd {c a f : Int} {m i d : Bool} (h : hr c a f i d = true) : rhr (wd c a f m i d) = true := by
  obtain ⟨e1, e2, e3, _, e5, e6⟩ := wd_parts (m := m) h
  unfold rhr
  rw [e1, e2, e3, e5, e6]
  exact h
theorem of_wd (c a f : Int) (m i d : Bool) (w : World) (h : hr c a f i d = true) :
    Calls Try.prog 42 #[.int .i64 (wd c a f m i d)] w fun x w' => x = .returned (.tuple #[.agg #[.int .i64 c, .int .i64 a, .int .i64 f, .bool m, .bool i, .bool d], .int .i64 0]) ∧ Below w.heap.size w w' := by
  have k := of_in (wd c a f m i d) w (wd_range h).1 (wd_range h).2 (rhr_wd h)
  obtain ⟨e1, e2, e3, e4, e5, e6⟩ := wd_parts (m := m) h
  rw [e1, e2, e3, e4, e5, e6] at k
  exact k
theorem wd_inj {c a f : Int} {m i d : Bool} {c2 a2 f2 : Int} {m2 i2 d2 : Bool} (h : hr c a f i d = true) (g : hr c2 a2 f2 i2 d2 = true) (e : wd c a f m i d = wd c2 a2 f2 m2 i2 d2) :
    c = c2 ∧ a = a2 ∧ f = f2 ∧ m = m2 ∧ i = i2 ∧ d = d2 := by
  obtain ⟨e1, e2, e3, e4, e5, e6⟩ := wd_parts (m := m) h
  obtain ⟨k1, k2, k3, k4, k5, k6⟩ := wd_parts (m := m2) g
  rw [e] at e1 e2 e3 e4 e5 e6
  exact ⟨e1.symm.trans k1, e2.symm.trans k2, e3.symm.trans k3, e4.symm.trans k4, e5.symm.trans k5, e6.symm.trans k6⟩
set_option maxHeartbeats 2000000 in
set_option maxRecDepth 100000 in
theorem hback_n1 (w : World) (c a f : Int) (m i d : Bool) (c2 a2 f2 : Int) (m2 i2 d2 : Bool) (h : hr c a f i d = false) :
    Calls Try.prog 11 #[.agg #[.int .i64 c, .int .i64 a, .int .i64 f, .bool m, .bool i, .bool d], .agg #[.int .i64 c2, .int .i64 a2, .int .i64 f2, .bool m2, .bool i2, .bool d2]] w fun x w' => x = .returned (.bool true) ∧ Below w.heap.size w w' := by
  go_enter Try.func11, Try.ntmps11
  go_wp2_with fail
  refine (hawake_any _).mono ?_
  rintro e w1 ⟨rfl, hb⟩
  have N_g := Lib.hid (((Blk.new' (k := w.heap.size) (by simp) #[.int .i64 c, .int .i64 a, .int .i64 f, .bool m, .bool i, .bool d] 41).alloc _).below hb (by first | assumption | (simp; done) | (simp; omega) | omega))
  have N_h := Lib.hid ((Blk.new' (k := w.heap.size + 1) (by simp) #[.int .i64 c2, .int .i64 a2, .int .i64 f2, .bool m2, .bool i2, .bool d2] 41).below hb (by first | assumption | (simp; done) | (simp; omega) | omega))
  have N_HB := Lib.hid ((((Below.refl w.heap.size w).alloc (by first | exact Nat.le_refl _ | assumption | (simp; done) | (simp; omega) | omega) _).alloc (by first | exact Nat.le_refl _ | assumption | (simp; done) | (simp; omega) | omega) _).trans (hb.mono (by first | exact Nat.le_refl _ | assumption | (simp; done) | (simp; omega) | omega)))
  clear hb
  have S_g := Lib.hid N_g.out
  clear N_g
  have S_h := Lib.hid N_h.out
  clear N_h
  have HB_ := Lib.hid N_HB.out
  clear N_HB
  have hz_ : w.heap.size ≤ w1.heap.size := HB_.out.size
  have hl_g : w.heap.size < w1.heap.size := S_g.out.lt
  have c_g_0 : w1.cell? ⟨w.heap.size, 0, none⟩ = some (.int .i64 c) := S_g.out.cell (i := 0) rfl
  have c_g_1 : w1.cell? ⟨w.heap.size, 1, none⟩ = some (.int .i64 a) := S_g.out.cell (i := 1) rfl
  have c_g_2 : w1.cell? ⟨w.heap.size, 2, none⟩ = some (.int .i64 f) := S_g.out.cell (i := 2) rfl
  have c_g_3 : w1.cell? ⟨w.heap.size, 3, none⟩ = some (.bool m) := S_g.out.cell (i := 3) rfl
  have c_g_4 : w1.cell? ⟨w.heap.size, 4, none⟩ = some (.bool i) := S_g.out.cell (i := 4) rfl
  have c_g_5 : w1.cell? ⟨w.heap.size, 5, none⟩ = some (.bool d) := S_g.out.cell (i := 5) rfl
  have hl_h : w.heap.size + 1 < w1.heap.size := S_h.out.lt
  have c_h_0 : w1.cell? ⟨w.heap.size + 1, 0, none⟩ = some (.int .i64 c2) := S_h.out.cell (i := 0) rfl
  have c_h_1 : w1.cell? ⟨w.heap.size + 1, 1, none⟩ = some (.int .i64 a2) := S_h.out.cell (i := 1) rfl
  have c_h_2 : w1.cell? ⟨w.heap.size + 1, 2, none⟩ = some (.int .i64 f2) := S_h.out.cell (i := 2) rfl
  have c_h_3 : w1.cell? ⟨w.heap.size + 1, 3, none⟩ = some (.bool m2) := S_h.out.cell (i := 3) rfl
  have c_h_4 : w1.cell? ⟨w.heap.size + 1, 4, none⟩ = some (.bool i2) := S_h.out.cell (i := 4) rfl
  have c_h_5 : w1.cell? ⟨w.heap.size + 1, 5, none⟩ = some (.bool d2) := S_h.out.cell (i := 5) rfl
  go_wp2_with fail
  refine (rhright_any _ _ _ _ _ _ _).mono ?_
  rintro e w2 ⟨rfl, hb⟩
  have N_g := Lib.hid ((S_g.out).below hb (by first | assumption | (simp; done) | (simp; omega) | omega))
  have N_h := Lib.hid ((S_h.out).below hb (by first | assumption | (simp; done) | (simp; omega) | omega))
  have N_HB := Lib.hid (HB_.out.trans (hb.mono (by first | exact Nat.le_refl _ | assumption | (simp; done) | (simp; omega) | omega)))
  clear hb S_g S_h hl_g c_g_0 c_g_1 c_g_2 c_g_3 c_g_4 c_g_5 hl_h c_h_0 c_h_1 c_h_2 c_h_3 c_h_4 c_h_5 HB_ hz_
  have S_g := Lib.hid N_g.out
  clear N_g
  have S_h := Lib.hid N_h.out
  clear N_h
  have HB_ := Lib.hid N_HB.out
  clear N_HB
  have hz_ : w.heap.size ≤ w2.heap.size := HB_.out.size
  have hl_g : w.heap.size < w2.heap.size := S_g.out.lt
  have c_g_0 : w2.cell? ⟨w.heap.size, 0, none⟩ = some (.int .i64 c) := S_g.out.cell (i := 0) rfl
  have c_g_1 : w2.cell? ⟨w.heap.size, 1, none⟩ = some (.int .i64 a) := S_g.out.cell (i := 1) rfl
  have c_g_2 : w2.cell? ⟨w.heap.size, 2, none⟩ = some (.int .i64 f) := S_g.out.cell (i := 2) rfl
  have c_g_3 : w2.cell? ⟨w.heap.size, 3, none⟩ = some (.bool m) := S_g.out.cell (i := 3) rfl
  have c_g_4 : w2.cell? ⟨w.heap.size, 4, none⟩ = some (.bool i) := S_g.out.cell (i := 4) rfl
  have c_g_5 : w2.cell? ⟨w.heap.size, 5, none⟩ = some (.bool d) := S_g.out.cell (i := 5) rfl
  have hl_h : w.heap.size + 1 < w2.heap.size := S_h.out.lt
  have c_h_0 : w2.cell? ⟨w.heap.size + 1, 0, none⟩ = some (.int .i64 c2) := S_h.out.cell (i := 0) rfl
  have c_h_1 : w2.cell? ⟨w.heap.size + 1, 1, none⟩ = some (.int .i64 a2) := S_h.out.cell (i := 1) rfl
  have c_h_2 : w2.cell? ⟨w.heap.size + 1, 2, none⟩ = some (.int .i64 f2) := S_h.out.cell (i := 2) rfl
  have c_h_3 : w2.cell? ⟨w.heap.size + 1, 3, none⟩ = some (.bool m2) := S_h.out.cell (i := 3) rfl
  have c_h_4 : w2.cell? ⟨w.heap.size + 1, 4, none⟩ = some (.bool i2) := S_h.out.cell (i := 4) rfl
  have c_h_5 : w2.cell? ⟨w.heap.size + 1, 5, none⟩ = some (.bool d2) := S_h.out.cell (i := 5) rfl
  go_wp2_with fail
  refine (hawake_any _).mono ?_
  rintro e w3 ⟨rfl, hb⟩
  have N_g := Lib.hid ((S_g.out).below hb (by first | assumption | (simp; done) | (simp; omega) | omega))
  have N_h := Lib.hid ((S_h.out).below hb (by first | assumption | (simp; done) | (simp; omega) | omega))
  have N_HB := Lib.hid (HB_.out.trans (hb.mono (by first | exact Nat.le_refl _ | assumption | (simp; done) | (simp; omega) | omega)))
  clear hb S_g S_h hl_g c_g_0 c_g_1 c_g_2 c_g_3 c_g_4 c_g_5 hl_h c_h_0 c_h_1 c_h_2 c_h_3 c_h_4 c_h_5 HB_ hz_
  have S_g := Lib.hid N_g.out
  clear N_g
  have S_h := Lib.hid N_h.out
  clear N_h
  have HB_ := Lib.hid N_HB.out
  clear N_HB
  have hz_ : w.heap.size ≤ w3.heap.size := HB_.out.size
  have hl_g : w.heap.size < w3.heap.size := S_g.out.lt
  have c_g_0 : w3.cell? ⟨w.heap.size, 0, none⟩ = some (.int .i64 c) := S_g.out.cell (i := 0) rfl
  have c_g_1 : w3.cell? ⟨w.heap.size, 1, none⟩ = some (.int .i64 a) := S_g.out.cell (i := 1) rfl
  have c_g_2 : w3.cell? ⟨w.heap.size, 2, none⟩ = some (.int .i64 f) := S_g.out.cell (i := 2) rfl
  have c_g_3 : w3.cell? ⟨w.heap.size, 3, none⟩ = some (.bool m) := S_g.out.cell (i := 3) rfl
  have c_g_4 : w3.cell? ⟨w.heap.size, 4, none⟩ = some (.bool i) := S_g.out.cell (i := 4) rfl
  have c_g_5 : w3.cell? ⟨w.heap.size, 5, none⟩ = some (.bool d) := S_g.out.cell (i := 5) rfl
  have hl_h : w.heap.size + 1 < w3.heap.size := S_h.out.lt
  have c_h_0 : w3.cell? ⟨w.heap.size + 1, 0, none⟩ = some (.int .i64 c2) := S_h.out.cell (i := 0) rfl
  have c_h_1 : w3.cell? ⟨w.heap.size + 1, 1, none⟩ = some (.int .i64 a2) := S_h.out.cell (i := 1) rfl
  have c_h_2 : w3.cell? ⟨w.heap.size + 1, 2, none⟩ = some (.int .i64 f2) := S_h.out.cell (i := 2) rfl
  have c_h_3 : w3.cell? ⟨w.heap.size + 1, 3, none⟩ = some (.bool m2) := S_h.out.cell (i := 3) rfl
  have c_h_4 : w3.cell? ⟨w.heap.size + 1, 4, none⟩ = some (.bool i2) := S_h.out.cell (i := 4) rfl
  have c_h_5 : w3.cell? ⟨w.heap.size + 1, 5, none⟩ = some (.bool d2) := S_h.out.cell (i := 5) rfl
  go_wp2
  go_ret
  exact ⟨rfl, HB_.out⟩
set_option maxHeartbeats 2000000 in
set_option maxRecDepth 100000 in
theorem hback_n2 (w : World) (c a f : Int) (m i d : Bool) (c2 a2 f2 : Int) (m2 i2 d2 : Bool) (h : hr c a f i d = true) (g : hr c2 a2 f2 i2 d2 = false) :
    Calls Try.prog 11 #[.agg #[.int .i64 c, .int .i64 a, .int .i64 f, .bool m, .bool i, .bool d], .agg #[.int .i64 c2, .int .i64 a2, .int .i64 f2, .bool m2, .bool i2, .bool d2]] w fun x w' => x = .returned (.bool true) ∧ Below w.heap.size w w' := by
  go_enter Try.func11, Try.ntmps11
  go_wp2_with fail
  refine (hawake_any _).mono ?_
  rintro e w1 ⟨rfl, hb⟩
  have N_g := Lib.hid (((Blk.new' (k := w.heap.size) (by simp) #[.int .i64 c, .int .i64 a, .int .i64 f, .bool m, .bool i, .bool d] 41).alloc _).below hb (by first | assumption | (simp; done) | (simp; omega) | omega))
  have N_h := Lib.hid ((Blk.new' (k := w.heap.size + 1) (by simp) #[.int .i64 c2, .int .i64 a2, .int .i64 f2, .bool m2, .bool i2, .bool d2] 41).below hb (by first | assumption | (simp; done) | (simp; omega) | omega))
  have N_HB := Lib.hid ((((Below.refl w.heap.size w).alloc (by first | exact Nat.le_refl _ | assumption | (simp; done) | (simp; omega) | omega) _).alloc (by first | exact Nat.le_refl _ | assumption | (simp; done) | (simp; omega) | omega) _).trans (hb.mono (by first | exact Nat.le_refl _ | assumption | (simp; done) | (simp; omega) | omega)))
  clear hb
  have S_g := Lib.hid N_g.out
  clear N_g
  have S_h := Lib.hid N_h.out
  clear N_h
  have HB_ := Lib.hid N_HB.out
  clear N_HB
  have hz_ : w.heap.size ≤ w1.heap.size := HB_.out.size
  have hl_g : w.heap.size < w1.heap.size := S_g.out.lt
  have c_g_0 : w1.cell? ⟨w.heap.size, 0, none⟩ = some (.int .i64 c) := S_g.out.cell (i := 0) rfl
  have c_g_1 : w1.cell? ⟨w.heap.size, 1, none⟩ = some (.int .i64 a) := S_g.out.cell (i := 1) rfl
  have c_g_2 : w1.cell? ⟨w.heap.size, 2, none⟩ = some (.int .i64 f) := S_g.out.cell (i := 2) rfl
  have c_g_3 : w1.cell? ⟨w.heap.size, 3, none⟩ = some (.bool m) := S_g.out.cell (i := 3) rfl
  have c_g_4 : w1.cell? ⟨w.heap.size, 4, none⟩ = some (.bool i) := S_g.out.cell (i := 4) rfl
  have c_g_5 : w1.cell? ⟨w.heap.size, 5, none⟩ = some (.bool d) := S_g.out.cell (i := 5) rfl
  have hl_h : w.heap.size + 1 < w1.heap.size := S_h.out.lt
  have c_h_0 : w1.cell? ⟨w.heap.size + 1, 0, none⟩ = some (.int .i64 c2) := S_h.out.cell (i := 0) rfl
  have c_h_1 : w1.cell? ⟨w.heap.size + 1, 1, none⟩ = some (.int .i64 a2) := S_h.out.cell (i := 1) rfl
  have c_h_2 : w1.cell? ⟨w.heap.size + 1, 2, none⟩ = some (.int .i64 f2) := S_h.out.cell (i := 2) rfl
  have c_h_3 : w1.cell? ⟨w.heap.size + 1, 3, none⟩ = some (.bool m2) := S_h.out.cell (i := 3) rfl
  have c_h_4 : w1.cell? ⟨w.heap.size + 1, 4, none⟩ = some (.bool i2) := S_h.out.cell (i := 4) rfl
  have c_h_5 : w1.cell? ⟨w.heap.size + 1, 5, none⟩ = some (.bool d2) := S_h.out.cell (i := 5) rfl
  go_wp2_with fail
  refine (rhright_any _ _ _ _ _ _ _).mono ?_
  rintro e w2 ⟨rfl, hb⟩
  have N_g := Lib.hid ((S_g.out).below hb (by first | assumption | (simp; done) | (simp; omega) | omega))
  have N_h := Lib.hid ((S_h.out).below hb (by first | assumption | (simp; done) | (simp; omega) | omega))
  have N_HB := Lib.hid (HB_.out.trans (hb.mono (by first | exact Nat.le_refl _ | assumption | (simp; done) | (simp; omega) | omega)))
  clear hb S_g S_h hl_g c_g_0 c_g_1 c_g_2 c_g_3 c_g_4 c_g_5 hl_h c_h_0 c_h_1 c_h_2 c_h_3 c_h_4 c_h_5 HB_ hz_
  have S_g := Lib.hid N_g.out
  clear N_g
  have S_h := Lib.hid N_h.out
  clear N_h
  have HB_ := Lib.hid N_HB.out
  clear N_HB
  have hz_ : w.heap.size ≤ w2.heap.size := HB_.out.size
  have hl_g : w.heap.size < w2.heap.size := S_g.out.lt
  have c_g_0 : w2.cell? ⟨w.heap.size, 0, none⟩ = some (.int .i64 c) := S_g.out.cell (i := 0) rfl
  have c_g_1 : w2.cell? ⟨w.heap.size, 1, none⟩ = some (.int .i64 a) := S_g.out.cell (i := 1) rfl
  have c_g_2 : w2.cell? ⟨w.heap.size, 2, none⟩ = some (.int .i64 f) := S_g.out.cell (i := 2) rfl
  have c_g_3 : w2.cell? ⟨w.heap.size, 3, none⟩ = some (.bool m) := S_g.out.cell (i := 3) rfl
  have c_g_4 : w2.cell? ⟨w.heap.size, 4, none⟩ = some (.bool i) := S_g.out.cell (i := 4) rfl
  have c_g_5 : w2.cell? ⟨w.heap.size, 5, none⟩ = some (.bool d) := S_g.out.cell (i := 5) rfl
  have hl_h : w.heap.size + 1 < w2.heap.size := S_h.out.lt
  have c_h_0 : w2.cell? ⟨w.heap.size + 1, 0, none⟩ = some (.int .i64 c2) := S_h.out.cell (i := 0) rfl
  have c_h_1 : w2.cell? ⟨w.heap.size + 1, 1, none⟩ = some (.int .i64 a2) := S_h.out.cell (i := 1) rfl
  have c_h_2 : w2.cell? ⟨w.heap.size + 1, 2, none⟩ = some (.int .i64 f2) := S_h.out.cell (i := 2) rfl
  have c_h_3 : w2.cell? ⟨w.heap.size + 1, 3, none⟩ = some (.bool m2) := S_h.out.cell (i := 3) rfl
  have c_h_4 : w2.cell? ⟨w.heap.size + 1, 4, none⟩ = some (.bool i2) := S_h.out.cell (i := 4) rfl
  have c_h_5 : w2.cell? ⟨w.heap.size + 1, 5, none⟩ = some (.bool d2) := S_h.out.cell (i := 5) rfl
  go_wp2_with fail
  refine (rhright_any _ _ _ _ _ _ _).mono ?_
  rintro e w3 ⟨rfl, hb⟩
  have N_g := Lib.hid ((S_g.out).below hb (by first | assumption | (simp; done) | (simp; omega) | omega))
  have N_h := Lib.hid ((S_h.out).below hb (by first | assumption | (simp; done) | (simp; omega) | omega))
  have N_HB := Lib.hid (HB_.out.trans (hb.mono (by first | exact Nat.le_refl _ | assumption | (simp; done) | (simp; omega) | omega)))
  clear hb S_g S_h hl_g c_g_0 c_g_1 c_g_2 c_g_3 c_g_4 c_g_5 hl_h c_h_0 c_h_1 c_h_2 c_h_3 c_h_4 c_h_5 HB_ hz_
  have S_g := Lib.hid N_g.out
  clear N_g
  have S_h := Lib.hid N_h.out
  clear N_h
  have HB_ := Lib.hid N_HB.out
  clear N_HB
  have hz_ : w.heap.size ≤ w3.heap.size := HB_.out.size
  have hl_g : w.heap.size < w3.heap.size := S_g.out.lt
  have c_g_0 : w3.cell? ⟨w.heap.size, 0, none⟩ = some (.int .i64 c) := S_g.out.cell (i := 0) rfl
  have c_g_1 : w3.cell? ⟨w.heap.size, 1, none⟩ = some (.int .i64 a) := S_g.out.cell (i := 1) rfl
  have c_g_2 : w3.cell? ⟨w.heap.size, 2, none⟩ = some (.int .i64 f) := S_g.out.cell (i := 2) rfl
  have c_g_3 : w3.cell? ⟨w.heap.size, 3, none⟩ = some (.bool m) := S_g.out.cell (i := 3) rfl
  have c_g_4 : w3.cell? ⟨w.heap.size, 4, none⟩ = some (.bool i) := S_g.out.cell (i := 4) rfl
  have c_g_5 : w3.cell? ⟨w.heap.size, 5, none⟩ = some (.bool d) := S_g.out.cell (i := 5) rfl
  have hl_h : w.heap.size + 1 < w3.heap.size := S_h.out.lt
  have c_h_0 : w3.cell? ⟨w.heap.size + 1, 0, none⟩ = some (.int .i64 c2) := S_h.out.cell (i := 0) rfl
  have c_h_1 : w3.cell? ⟨w.heap.size + 1, 1, none⟩ = some (.int .i64 a2) := S_h.out.cell (i := 1) rfl
  have c_h_2 : w3.cell? ⟨w.heap.size + 1, 2, none⟩ = some (.int .i64 f2) := S_h.out.cell (i := 2) rfl
  have c_h_3 : w3.cell? ⟨w.heap.size + 1, 3, none⟩ = some (.bool m2) := S_h.out.cell (i := 3) rfl
  have c_h_4 : w3.cell? ⟨w.heap.size + 1, 4, none⟩ = some (.bool i2) := S_h.out.cell (i := 4) rfl
  have c_h_5 : w3.cell? ⟨w.heap.size + 1, 5, none⟩ = some (.bool d2) := S_h.out.cell (i := 5) rfl
  go_wp2_with fail
  refine (hawake_any _).mono ?_
  rintro e w4 ⟨rfl, hb⟩
  have N_g := Lib.hid ((S_g.out).below hb (by first | assumption | (simp; done) | (simp; omega) | omega))
  have N_h := Lib.hid ((S_h.out).below hb (by first | assumption | (simp; done) | (simp; omega) | omega))
  have N_HB := Lib.hid (HB_.out.trans (hb.mono (by first | exact Nat.le_refl _ | assumption | (simp; done) | (simp; omega) | omega)))
  clear hb S_g S_h hl_g c_g_0 c_g_1 c_g_2 c_g_3 c_g_4 c_g_5 hl_h c_h_0 c_h_1 c_h_2 c_h_3 c_h_4 c_h_5 HB_ hz_
  have S_g := Lib.hid N_g.out
  clear N_g
  have S_h := Lib.hid N_h.out
  clear N_h
  have HB_ := Lib.hid N_HB.out
  clear N_HB
  have hz_ : w.heap.size ≤ w4.heap.size := HB_.out.size
  have hl_g : w.heap.size < w4.heap.size := S_g.out.lt
  have c_g_0 : w4.cell? ⟨w.heap.size, 0, none⟩ = some (.int .i64 c) := S_g.out.cell (i := 0) rfl
  have c_g_1 : w4.cell? ⟨w.heap.size, 1, none⟩ = some (.int .i64 a) := S_g.out.cell (i := 1) rfl
  have c_g_2 : w4.cell? ⟨w.heap.size, 2, none⟩ = some (.int .i64 f) := S_g.out.cell (i := 2) rfl
  have c_g_3 : w4.cell? ⟨w.heap.size, 3, none⟩ = some (.bool m) := S_g.out.cell (i := 3) rfl
  have c_g_4 : w4.cell? ⟨w.heap.size, 4, none⟩ = some (.bool i) := S_g.out.cell (i := 4) rfl
  have c_g_5 : w4.cell? ⟨w.heap.size, 5, none⟩ = some (.bool d) := S_g.out.cell (i := 5) rfl
  have hl_h : w.heap.size + 1 < w4.heap.size := S_h.out.lt
  have c_h_0 : w4.cell? ⟨w.heap.size + 1, 0, none⟩ = some (.int .i64 c2) := S_h.out.cell (i := 0) rfl
  have c_h_1 : w4.cell? ⟨w.heap.size + 1, 1, none⟩ = some (.int .i64 a2) := S_h.out.cell (i := 1) rfl
  have c_h_2 : w4.cell? ⟨w.heap.size + 1, 2, none⟩ = some (.int .i64 f2) := S_h.out.cell (i := 2) rfl
  have c_h_3 : w4.cell? ⟨w.heap.size + 1, 3, none⟩ = some (.bool m2) := S_h.out.cell (i := 3) rfl
  have c_h_4 : w4.cell? ⟨w.heap.size + 1, 4, none⟩ = some (.bool i2) := S_h.out.cell (i := 4) rfl
  have c_h_5 : w4.cell? ⟨w.heap.size + 1, 5, none⟩ = some (.bool d2) := S_h.out.cell (i := 5) rfl
  go_wp2
  go_ret
  exact ⟨rfl, HB_.out⟩
set_option maxHeartbeats 2000000 in
set_option maxRecDepth 100000 in
theorem hback_y (w : World) (c a f : Int) (m i d : Bool) (c2 a2 f2 : Int) (m2 i2 d2 : Bool) (h : hr c a f i d = true) (g : hr c2 a2 f2 i2 d2 = true) (E : ¬ (c = c2 ∧ a = a2 ∧ f = f2 ∧ m = m2 ∧ i = i2 ∧ d = d2)) :
    Calls Try.prog 11 #[.agg #[.int .i64 c, .int .i64 a, .int .i64 f, .bool m, .bool i, .bool d], .agg #[.int .i64 c2, .int .i64 a2, .int .i64 f2, .bool m2, .bool i2, .bool d2]] w fun x w' => x = .returned (.bool true) ∧ Below w.heap.size w w' := by
  have hne : (wd c a f m i d == wd c2 a2 f2 m2 i2 d2) = false := beq_eq_false_iff_ne.2 (fun e => E (wd_inj h g e))
  have EH := Lib.hid E
  clear E
  go_enter Try.func11, Try.ntmps11
  go_wp2_with fail
  refine (hawake_any _).mono ?_
  rintro e w1 ⟨rfl, hb⟩
  have N_g := Lib.hid (((Blk.new' (k := w.heap.size) (by simp) #[.int .i64 c, .int .i64 a, .int .i64 f, .bool m, .bool i, .bool d] 41).alloc _).below hb (by first | assumption | (simp; done) | (simp; omega) | omega))
  have N_h := Lib.hid ((Blk.new' (k := w.heap.size + 1) (by simp) #[.int .i64 c2, .int .i64 a2, .int .i64 f2, .bool m2, .bool i2, .bool d2] 41).below hb (by first | assumption | (simp; done) | (simp; omega) | omega))
  have N_HB := Lib.hid ((((Below.refl w.heap.size w).alloc (by first | exact Nat.le_refl _ | assumption | (simp; done) | (simp; omega) | omega) _).alloc (by first | exact Nat.le_refl _ | assumption | (simp; done) | (simp; omega) | omega) _).trans (hb.mono (by first | exact Nat.le_refl _ | assumption | (simp; done) | (simp; omega) | omega)))
  clear hb
  have S_g := Lib.hid N_g.out
  clear N_g
  have S_h := Lib.hid N_h.out
  clear N_h
  have HB_ := Lib.hid N_HB.out
  clear N_HB
  have hz_ : w.heap.size ≤ w1.heap.size := HB_.out.size
  have hl_g : w.heap.size < w1.heap.size := S_g.out.lt
  have c_g_0 : w1.cell? ⟨w.heap.size, 0, none⟩ = some (.int .i64 c) := S_g.out.cell (i := 0) rfl
  have c_g_1 : w1.cell? ⟨w.heap.size, 1, none⟩ = some (.int .i64 a) := S_g.out.cell (i := 1) rfl
  have c_g_2 : w1.cell? ⟨w.heap.size, 2, none⟩ = some (.int .i64 f) := S_g.out.cell (i := 2) rfl
  have c_g_3 : w1.cell? ⟨w.heap.size, 3, none⟩ = some (.bool m) := S_g.out.cell (i := 3) rfl
  have c_g_4 : w1.cell? ⟨w.heap.size, 4, none⟩ = some (.bool i) := S_g.out.cell (i := 4) rfl
  have c_g_5 : w1.cell? ⟨w.heap.size, 5, none⟩ = some (.bool d) := S_g.out.cell (i := 5) rfl
  have hl_h : w.heap.size + 1 < w1.heap.size := S_h.out.lt
  have c_h_0 : w1.cell? ⟨w.heap.size + 1, 0, none⟩ = some (.int .i64 c2) := S_h.out.cell (i := 0) rfl
  have c_h_1 : w1.cell? ⟨w.heap.size + 1, 1, none⟩ = some (.int .i64 a2) := S_h.out.cell (i := 1) rfl
  have c_h_2 : w1.cell? ⟨w.heap.size + 1, 2, none⟩ = some (.int .i64 f2) := S_h.out.cell (i := 2) rfl
  have c_h_3 : w1.cell? ⟨w.heap.size + 1, 3, none⟩ = some (.bool m2) := S_h.out.cell (i := 3) rfl
  have c_h_4 : w1.cell? ⟨w.heap.size + 1, 4, none⟩ = some (.bool i2) := S_h.out.cell (i := 4) rfl
  have c_h_5 : w1.cell? ⟨w.heap.size + 1, 5, none⟩ = some (.bool d2) := S_h.out.cell (i := 5) rfl
  go_wp2_with fail
  refine (rhright_any _ _ _ _ _ _ _).mono ?_
  rintro e w2 ⟨rfl, hb⟩
  have N_g := Lib.hid ((S_g.out).below hb (by first | assumption | (simp; done) | (simp; omega) | omega))
  have N_h := Lib.hid ((S_h.out).below hb (by first | assumption | (simp; done) | (simp; omega) | omega))
  have N_HB := Lib.hid (HB_.out.trans (hb.mono (by first | exact Nat.le_refl _ | assumption | (simp; done) | (simp; omega) | omega)))
  clear hb S_g S_h hl_g c_g_0 c_g_1 c_g_2 c_g_3 c_g_4 c_g_5 hl_h c_h_0 c_h_1 c_h_2 c_h_3 c_h_4 c_h_5 HB_ hz_
  have S_g := Lib.hid N_g.out
  clear N_g
  have S_h := Lib.hid N_h.out
  clear N_h
  have HB_ := Lib.hid N_HB.out
  clear N_HB
  have hz_ : w.heap.size ≤ w2.heap.size := HB_.out.size
  have hl_g : w.heap.size < w2.heap.size := S_g.out.lt
  have c_g_0 : w2.cell? ⟨w.heap.size, 0, none⟩ = some (.int .i64 c) := S_g.out.cell (i := 0) rfl
  have c_g_1 : w2.cell? ⟨w.heap.size, 1, none⟩ = some (.int .i64 a) := S_g.out.cell (i := 1) rfl
  have c_g_2 : w2.cell? ⟨w.heap.size, 2, none⟩ = some (.int .i64 f) := S_g.out.cell (i := 2) rfl
  have c_g_3 : w2.cell? ⟨w.heap.size, 3, none⟩ = some (.bool m) := S_g.out.cell (i := 3) rfl
  have c_g_4 : w2.cell? ⟨w.heap.size, 4, none⟩ = some (.bool i) := S_g.out.cell (i := 4) rfl
  have c_g_5 : w2.cell? ⟨w.heap.size, 5, none⟩ = some (.bool d) := S_g.out.cell (i := 5) rfl
  have hl_h : w.heap.size + 1 < w2.heap.size := S_h.out.lt
  have c_h_0 : w2.cell? ⟨w.heap.size + 1, 0, none⟩ = some (.int .i64 c2) := S_h.out.cell (i := 0) rfl
  have c_h_1 : w2.cell? ⟨w.heap.size + 1, 1, none⟩ = some (.int .i64 a2) := S_h.out.cell (i := 1) rfl
  have c_h_2 : w2.cell? ⟨w.heap.size + 1, 2, none⟩ = some (.int .i64 f2) := S_h.out.cell (i := 2) rfl
  have c_h_3 : w2.cell? ⟨w.heap.size + 1, 3, none⟩ = some (.bool m2) := S_h.out.cell (i := 3) rfl
  have c_h_4 : w2.cell? ⟨w.heap.size + 1, 4, none⟩ = some (.bool i2) := S_h.out.cell (i := 4) rfl
  have c_h_5 : w2.cell? ⟨w.heap.size + 1, 5, none⟩ = some (.bool d2) := S_h.out.cell (i := 5) rfl
  go_wp2_with fail
  refine (rhright_any _ _ _ _ _ _ _).mono ?_
  rintro e w3 ⟨rfl, hb⟩
  have N_g := Lib.hid ((S_g.out).below hb (by first | assumption | (simp; done) | (simp; omega) | omega))
  have N_h := Lib.hid ((S_h.out).below hb (by first | assumption | (simp; done) | (simp; omega) | omega))
  have N_HB := Lib.hid (HB_.out.trans (hb.mono (by first | exact Nat.le_refl _ | assumption | (simp; done) | (simp; omega) | omega)))
  clear hb S_g S_h hl_g c_g_0 c_g_1 c_g_2 c_g_3 c_g_4 c_g_5 hl_h c_h_0 c_h_1 c_h_2 c_h_3 c_h_4 c_h_5 HB_ hz_
  have S_g := Lib.hid N_g.out
  clear N_g
  have S_h := Lib.hid N_h.out
  clear N_h
  have HB_ := Lib.hid N_HB.out
  clear N_HB
  have hz_ : w.heap.size ≤ w3.heap.size := HB_.out.size
  have hl_g : w.heap.size < w3.heap.size := S_g.out.lt
  have c_g_0 : w3.cell? ⟨w.heap.size, 0, none⟩ = some (.int .i64 c) := S_g.out.cell (i := 0) rfl
  have c_g_1 : w3.cell? ⟨w.heap.size, 1, none⟩ = some (.int .i64 a) := S_g.out.cell (i := 1) rfl
  have c_g_2 : w3.cell? ⟨w.heap.size, 2, none⟩ = some (.int .i64 f) := S_g.out.cell (i := 2) rfl
  have c_g_3 : w3.cell? ⟨w.heap.size, 3, none⟩ = some (.bool m) := S_g.out.cell (i := 3) rfl
  have c_g_4 : w3.cell? ⟨w.heap.size, 4, none⟩ = some (.bool i) := S_g.out.cell (i := 4) rfl
  have c_g_5 : w3.cell? ⟨w.heap.size, 5, none⟩ = some (.bool d) := S_g.out.cell (i := 5) rfl
  have hl_h : w.heap.size + 1 < w3.heap.size := S_h.out.lt
  have c_h_0 : w3.cell? ⟨w.heap.size + 1, 0, none⟩ = some (.int .i64 c2) := S_h.out.cell (i := 0) rfl
  have c_h_1 : w3.cell? ⟨w.heap.size + 1, 1, none⟩ = some (.int .i64 a2) := S_h.out.cell (i := 1) rfl
  have c_h_2 : w3.cell? ⟨w.heap.size + 1, 2, none⟩ = some (.int .i64 f2) := S_h.out.cell (i := 2) rfl
  have c_h_3 : w3.cell? ⟨w.heap.size + 1, 3, none⟩ = some (.bool m2) := S_h.out.cell (i := 3) rfl
  have c_h_4 : w3.cell? ⟨w.heap.size + 1, 4, none⟩ = some (.bool i2) := S_h.out.cell (i := 4) rfl
  have c_h_5 : w3.cell? ⟨w.heap.size + 1, 5, none⟩ = some (.bool d2) := S_h.out.cell (i := 5) rfl
  go_wp2_with fail
  refine (word_yes _ _ _ _ _ _ _ h).mono ?_
  rintro e w4 ⟨rfl, hb⟩
  have N_g := Lib.hid ((S_g.out).below hb (by first | assumption | (simp; done) | (simp; omega) | omega))
  have N_h := Lib.hid ((S_h.out).below hb (by first | assumption | (simp; done) | (simp; omega) | omega))
  have N_HB := Lib.hid (HB_.out.trans (hb.mono (by first | exact Nat.le_refl _ | assumption | (simp; done) | (simp; omega) | omega)))
  clear hb S_g S_h hl_g c_g_0 c_g_1 c_g_2 c_g_3 c_g_4 c_g_5 hl_h c_h_0 c_h_1 c_h_2 c_h_3 c_h_4 c_h_5 HB_ hz_
  have S_g := Lib.hid N_g.out
  clear N_g
  have S_h := Lib.hid N_h.out
  clear N_h
  have HB_ := Lib.hid N_HB.out
  clear N_HB
  have hz_ : w.heap.size ≤ w4.heap.size := HB_.out.size
  have hl_g : w.heap.size < w4.heap.size := S_g.out.lt
  have c_g_0 : w4.cell? ⟨w.heap.size, 0, none⟩ = some (.int .i64 c) := S_g.out.cell (i := 0) rfl
  have c_g_1 : w4.cell? ⟨w.heap.size, 1, none⟩ = some (.int .i64 a) := S_g.out.cell (i := 1) rfl
  have c_g_2 : w4.cell? ⟨w.heap.size, 2, none⟩ = some (.int .i64 f) := S_g.out.cell (i := 2) rfl
  have c_g_3 : w4.cell? ⟨w.heap.size, 3, none⟩ = some (.bool m) := S_g.out.cell (i := 3) rfl
  have c_g_4 : w4.cell? ⟨w.heap.size, 4, none⟩ = some (.bool i) := S_g.out.cell (i := 4) rfl
  have c_g_5 : w4.cell? ⟨w.heap.size, 5, none⟩ = some (.bool d) := S_g.out.cell (i := 5) rfl
  have hl_h : w.heap.size + 1 < w4.heap.size := S_h.out.lt
  have c_h_0 : w4.cell? ⟨w.heap.size + 1, 0, none⟩ = some (.int .i64 c2) := S_h.out.cell (i := 0) rfl
  have c_h_1 : w4.cell? ⟨w.heap.size + 1, 1, none⟩ = some (.int .i64 a2) := S_h.out.cell (i := 1) rfl
  have c_h_2 : w4.cell? ⟨w.heap.size + 1, 2, none⟩ = some (.int .i64 f2) := S_h.out.cell (i := 2) rfl
  have c_h_3 : w4.cell? ⟨w.heap.size + 1, 3, none⟩ = some (.bool m2) := S_h.out.cell (i := 3) rfl
  have c_h_4 : w4.cell? ⟨w.heap.size + 1, 4, none⟩ = some (.bool i2) := S_h.out.cell (i := 4) rfl
  have c_h_5 : w4.cell? ⟨w.heap.size + 1, 5, none⟩ = some (.bool d2) := S_h.out.cell (i := 5) rfl
  go_wp2_with fail
  refine (word_yes _ _ _ _ _ _ _ g).mono ?_
  rintro e w5 ⟨rfl, hb⟩
  have N_g := Lib.hid ((S_g.out).below hb (by first | assumption | (simp; done) | (simp; omega) | omega))
  have N_h := Lib.hid ((S_h.out).below hb (by first | assumption | (simp; done) | (simp; omega) | omega))
  have N_HB := Lib.hid (HB_.out.trans (hb.mono (by first | exact Nat.le_refl _ | assumption | (simp; done) | (simp; omega) | omega)))
  clear hb S_g S_h hl_g c_g_0 c_g_1 c_g_2 c_g_3 c_g_4 c_g_5 hl_h c_h_0 c_h_1 c_h_2 c_h_3 c_h_4 c_h_5 HB_ hz_
  have S_g := Lib.hid N_g.out
  clear N_g
  have S_h := Lib.hid N_h.out
  clear N_h
  have HB_ := Lib.hid N_HB.out
  clear N_HB
  have hz_ : w.heap.size ≤ w5.heap.size := HB_.out.size
  have hl_g : w.heap.size < w5.heap.size := S_g.out.lt
  have c_g_0 : w5.cell? ⟨w.heap.size, 0, none⟩ = some (.int .i64 c) := S_g.out.cell (i := 0) rfl
  have c_g_1 : w5.cell? ⟨w.heap.size, 1, none⟩ = some (.int .i64 a) := S_g.out.cell (i := 1) rfl
  have c_g_2 : w5.cell? ⟨w.heap.size, 2, none⟩ = some (.int .i64 f) := S_g.out.cell (i := 2) rfl
  have c_g_3 : w5.cell? ⟨w.heap.size, 3, none⟩ = some (.bool m) := S_g.out.cell (i := 3) rfl
  have c_g_4 : w5.cell? ⟨w.heap.size, 4, none⟩ = some (.bool i) := S_g.out.cell (i := 4) rfl
  have c_g_5 : w5.cell? ⟨w.heap.size, 5, none⟩ = some (.bool d) := S_g.out.cell (i := 5) rfl
  have hl_h : w.heap.size + 1 < w5.heap.size := S_h.out.lt
  have c_h_0 : w5.cell? ⟨w.heap.size + 1, 0, none⟩ = some (.int .i64 c2) := S_h.out.cell (i := 0) rfl
  have c_h_1 : w5.cell? ⟨w.heap.size + 1, 1, none⟩ = some (.int .i64 a2) := S_h.out.cell (i := 1) rfl
  have c_h_2 : w5.cell? ⟨w.heap.size + 1, 2, none⟩ = some (.int .i64 f2) := S_h.out.cell (i := 2) rfl
  have c_h_3 : w5.cell? ⟨w.heap.size + 1, 3, none⟩ = some (.bool m2) := S_h.out.cell (i := 3) rfl
  have c_h_4 : w5.cell? ⟨w.heap.size + 1, 4, none⟩ = some (.bool i2) := S_h.out.cell (i := 4) rfl
  have c_h_5 : w5.cell? ⟨w.heap.size + 1, 5, none⟩ = some (.bool d2) := S_h.out.cell (i := 5) rfl
  go_wp2_with fail
  refine (of_wd _ _ _ _ _ _ _ h).mono ?_
  rintro e w6 ⟨rfl, hb⟩
  have N_g := Lib.hid ((S_g.out).below hb (by first | assumption | (simp; done) | (simp; omega) | omega))
  have N_h := Lib.hid ((S_h.out).below hb (by first | assumption | (simp; done) | (simp; omega) | omega))
  have N_HB := Lib.hid (HB_.out.trans (hb.mono (by first | exact Nat.le_refl _ | assumption | (simp; done) | (simp; omega) | omega)))
  clear hb S_g S_h hl_g c_g_0 c_g_1 c_g_2 c_g_3 c_g_4 c_g_5 hl_h c_h_0 c_h_1 c_h_2 c_h_3 c_h_4 c_h_5 HB_ hz_
  have S_g := Lib.hid N_g.out
  clear N_g
  have S_h := Lib.hid N_h.out
  clear N_h
  have HB_ := Lib.hid N_HB.out
  clear N_HB
  have hz_ : w.heap.size ≤ w6.heap.size := HB_.out.size
  have hl_g : w.heap.size < w6.heap.size := S_g.out.lt
  have c_g_0 : w6.cell? ⟨w.heap.size, 0, none⟩ = some (.int .i64 c) := S_g.out.cell (i := 0) rfl
  have c_g_1 : w6.cell? ⟨w.heap.size, 1, none⟩ = some (.int .i64 a) := S_g.out.cell (i := 1) rfl
  have c_g_2 : w6.cell? ⟨w.heap.size, 2, none⟩ = some (.int .i64 f) := S_g.out.cell (i := 2) rfl
  have c_g_3 : w6.cell? ⟨w.heap.size, 3, none⟩ = some (.bool m) := S_g.out.cell (i := 3) rfl
  have c_g_4 : w6.cell? ⟨w.heap.size, 4, none⟩ = some (.bool i) := S_g.out.cell (i := 4) rfl
  have c_g_5 : w6.cell? ⟨w.heap.size, 5, none⟩ = some (.bool d) := S_g.out.cell (i := 5) rfl
  have hl_h : w.heap.size + 1 < w6.heap.size := S_h.out.lt
  have c_h_0 : w6.cell? ⟨w.heap.size + 1, 0, none⟩ = some (.int .i64 c2) := S_h.out.cell (i := 0) rfl
  have c_h_1 : w6.cell? ⟨w.heap.size + 1, 1, none⟩ = some (.int .i64 a2) := S_h.out.cell (i := 1) rfl
  have c_h_2 : w6.cell? ⟨w.heap.size + 1, 2, none⟩ = some (.int .i64 f2) := S_h.out.cell (i := 2) rfl
  have c_h_3 : w6.cell? ⟨w.heap.size + 1, 3, none⟩ = some (.bool m2) := S_h.out.cell (i := 3) rfl
  have c_h_4 : w6.cell? ⟨w.heap.size + 1, 4, none⟩ = some (.bool i2) := S_h.out.cell (i := 4) rfl
  have c_h_5 : w6.cell? ⟨w.heap.size + 1, 5, none⟩ = some (.bool d2) := S_h.out.cell (i := 5) rfl
  go_wp2
  all_goals first | exact absurd ⟨by assumption, by assumption, by assumption, by assumption, by assumption, by assumption⟩ EH.out | (go_ret; exact ⟨rfl, HB_.out.alloc hz_ _⟩)
set_option maxHeartbeats 2000000 in
set_option maxRecDepth 100000 in
theorem hback_e (w : World) (c a f : Int) (m i d : Bool) (h : hr c a f i d = true) :
    Calls Try.prog 11 #[.agg #[.int .i64 c, .int .i64 a, .int .i64 f, .bool m, .bool i, .bool d], .agg #[.int .i64 c, .int .i64 a, .int .i64 f, .bool m, .bool i, .bool d]] w fun x w' => x = .returned (.bool true) ∧ Below w.heap.size w w' := by
  go_enter Try.func11, Try.ntmps11
  go_wp2_with fail
  refine (hawake_any _).mono ?_
  rintro e w1 ⟨rfl, hb⟩
  have N_g := Lib.hid (((Blk.new' (k := w.heap.size) (by simp) #[.int .i64 c, .int .i64 a, .int .i64 f, .bool m, .bool i, .bool d] 41).alloc _).below hb (by first | assumption | (simp; done) | (simp; omega) | omega))
  have N_h := Lib.hid ((Blk.new' (k := w.heap.size + 1) (by simp) #[.int .i64 c, .int .i64 a, .int .i64 f, .bool m, .bool i, .bool d] 41).below hb (by first | assumption | (simp; done) | (simp; omega) | omega))
  have N_HB := Lib.hid ((((Below.refl w.heap.size w).alloc (by first | exact Nat.le_refl _ | assumption | (simp; done) | (simp; omega) | omega) _).alloc (by first | exact Nat.le_refl _ | assumption | (simp; done) | (simp; omega) | omega) _).trans (hb.mono (by first | exact Nat.le_refl _ | assumption | (simp; done) | (simp; omega) | omega)))
  clear hb
  have S_g := Lib.hid N_g.out
  clear N_g
  have S_h := Lib.hid N_h.out
  clear N_h
  have HB_ := Lib.hid N_HB.out
  clear N_HB
  have hz_ : w.heap.size ≤ w1.heap.size := HB_.out.size
  have hl_g : w.heap.size < w1.heap.size := S_g.out.lt
  have c_g_0 : w1.cell? ⟨w.heap.size, 0, none⟩ = some (.int .i64 c) := S_g.out.cell (i := 0) rfl
  have c_g_1 : w1.cell? ⟨w.heap.size, 1, none⟩ = some (.int .i64 a) := S_g.out.cell (i := 1) rfl
  have c_g_2 : w1.cell? ⟨w.heap.size, 2, none⟩ = some (.int .i64 f) := S_g.out.cell (i := 2) rfl
  have c_g_3 : w1.cell? ⟨w.heap.size, 3, none⟩ = some (.bool m) := S_g.out.cell (i := 3) rfl
  have c_g_4 : w1.cell? ⟨w.heap.size, 4, none⟩ = some (.bool i) := S_g.out.cell (i := 4) rfl
  have c_g_5 : w1.cell? ⟨w.heap.size, 5, none⟩ = some (.bool d) := S_g.out.cell (i := 5) rfl
  have hl_h : w.heap.size + 1 < w1.heap.size := S_h.out.lt
  have c_h_0 : w1.cell? ⟨w.heap.size + 1, 0, none⟩ = some (.int .i64 c) := S_h.out.cell (i := 0) rfl
  have c_h_1 : w1.cell? ⟨w.heap.size + 1, 1, none⟩ = some (.int .i64 a) := S_h.out.cell (i := 1) rfl
  have c_h_2 : w1.cell? ⟨w.heap.size + 1, 2, none⟩ = some (.int .i64 f) := S_h.out.cell (i := 2) rfl
  have c_h_3 : w1.cell? ⟨w.heap.size + 1, 3, none⟩ = some (.bool m) := S_h.out.cell (i := 3) rfl
  have c_h_4 : w1.cell? ⟨w.heap.size + 1, 4, none⟩ = some (.bool i) := S_h.out.cell (i := 4) rfl
  have c_h_5 : w1.cell? ⟨w.heap.size + 1, 5, none⟩ = some (.bool d) := S_h.out.cell (i := 5) rfl
  go_wp2_with fail
  refine (rhright_any _ _ _ _ _ _ _).mono ?_
  rintro e w2 ⟨rfl, hb⟩
  have N_g := Lib.hid ((S_g.out).below hb (by first | assumption | (simp; done) | (simp; omega) | omega))
  have N_h := Lib.hid ((S_h.out).below hb (by first | assumption | (simp; done) | (simp; omega) | omega))
  have N_HB := Lib.hid (HB_.out.trans (hb.mono (by first | exact Nat.le_refl _ | assumption | (simp; done) | (simp; omega) | omega)))
  clear hb S_g S_h hl_g c_g_0 c_g_1 c_g_2 c_g_3 c_g_4 c_g_5 hl_h c_h_0 c_h_1 c_h_2 c_h_3 c_h_4 c_h_5 HB_ hz_
  have S_g := Lib.hid N_g.out
  clear N_g
  have S_h := Lib.hid N_h.out
  clear N_h
  have HB_ := Lib.hid N_HB.out
  clear N_HB
  have hz_ : w.heap.size ≤ w2.heap.size := HB_.out.size
  have hl_g : w.heap.size < w2.heap.size := S_g.out.lt
  have c_g_0 : w2.cell? ⟨w.heap.size, 0, none⟩ = some (.int .i64 c) := S_g.out.cell (i := 0) rfl
  have c_g_1 : w2.cell? ⟨w.heap.size, 1, none⟩ = some (.int .i64 a) := S_g.out.cell (i := 1) rfl
  have c_g_2 : w2.cell? ⟨w.heap.size, 2, none⟩ = some (.int .i64 f) := S_g.out.cell (i := 2) rfl
  have c_g_3 : w2.cell? ⟨w.heap.size, 3, none⟩ = some (.bool m) := S_g.out.cell (i := 3) rfl
  have c_g_4 : w2.cell? ⟨w.heap.size, 4, none⟩ = some (.bool i) := S_g.out.cell (i := 4) rfl
  have c_g_5 : w2.cell? ⟨w.heap.size, 5, none⟩ = some (.bool d) := S_g.out.cell (i := 5) rfl
  have hl_h : w.heap.size + 1 < w2.heap.size := S_h.out.lt
  have c_h_0 : w2.cell? ⟨w.heap.size + 1, 0, none⟩ = some (.int .i64 c) := S_h.out.cell (i := 0) rfl
  have c_h_1 : w2.cell? ⟨w.heap.size + 1, 1, none⟩ = some (.int .i64 a) := S_h.out.cell (i := 1) rfl
  have c_h_2 : w2.cell? ⟨w.heap.size + 1, 2, none⟩ = some (.int .i64 f) := S_h.out.cell (i := 2) rfl
  have c_h_3 : w2.cell? ⟨w.heap.size + 1, 3, none⟩ = some (.bool m) := S_h.out.cell (i := 3) rfl
  have c_h_4 : w2.cell? ⟨w.heap.size + 1, 4, none⟩ = some (.bool i) := S_h.out.cell (i := 4) rfl
  have c_h_5 : w2.cell? ⟨w.heap.size + 1, 5, none⟩ = some (.bool d) := S_h.out.cell (i := 5) rfl
  go_wp2_with fail
  refine (rhright_any _ _ _ _ _ _ _).mono ?_
  rintro e w3 ⟨rfl, hb⟩
  have N_g := Lib.hid ((S_g.out).below hb (by first | assumption | (simp; done) | (simp; omega) | omega))
  have N_h := Lib.hid ((S_h.out).below hb (by first | assumption | (simp; done) | (simp; omega) | omega))
  have N_HB := Lib.hid (HB_.out.trans (hb.mono (by first | exact Nat.le_refl _ | assumption | (simp; done) | (simp; omega) | omega)))
  clear hb S_g S_h hl_g c_g_0 c_g_1 c_g_2 c_g_3 c_g_4 c_g_5 hl_h c_h_0 c_h_1 c_h_2 c_h_3 c_h_4 c_h_5 HB_ hz_
  have S_g := Lib.hid N_g.out
  clear N_g
  have S_h := Lib.hid N_h.out
  clear N_h
  have HB_ := Lib.hid N_HB.out
  clear N_HB
  have hz_ : w.heap.size ≤ w3.heap.size := HB_.out.size
  have hl_g : w.heap.size < w3.heap.size := S_g.out.lt
  have c_g_0 : w3.cell? ⟨w.heap.size, 0, none⟩ = some (.int .i64 c) := S_g.out.cell (i := 0) rfl
  have c_g_1 : w3.cell? ⟨w.heap.size, 1, none⟩ = some (.int .i64 a) := S_g.out.cell (i := 1) rfl
  have c_g_2 : w3.cell? ⟨w.heap.size, 2, none⟩ = some (.int .i64 f) := S_g.out.cell (i := 2) rfl
  have c_g_3 : w3.cell? ⟨w.heap.size, 3, none⟩ = some (.bool m) := S_g.out.cell (i := 3) rfl
  have c_g_4 : w3.cell? ⟨w.heap.size, 4, none⟩ = some (.bool i) := S_g.out.cell (i := 4) rfl
  have c_g_5 : w3.cell? ⟨w.heap.size, 5, none⟩ = some (.bool d) := S_g.out.cell (i := 5) rfl
  have hl_h : w.heap.size + 1 < w3.heap.size := S_h.out.lt
  have c_h_0 : w3.cell? ⟨w.heap.size + 1, 0, none⟩ = some (.int .i64 c) := S_h.out.cell (i := 0) rfl
  have c_h_1 : w3.cell? ⟨w.heap.size + 1, 1, none⟩ = some (.int .i64 a) := S_h.out.cell (i := 1) rfl
  have c_h_2 : w3.cell? ⟨w.heap.size + 1, 2, none⟩ = some (.int .i64 f) := S_h.out.cell (i := 2) rfl
  have c_h_3 : w3.cell? ⟨w.heap.size + 1, 3, none⟩ = some (.bool m) := S_h.out.cell (i := 3) rfl
  have c_h_4 : w3.cell? ⟨w.heap.size + 1, 4, none⟩ = some (.bool i) := S_h.out.cell (i := 4) rfl
  have c_h_5 : w3.cell? ⟨w.heap.size + 1, 5, none⟩ = some (.bool d) := S_h.out.cell (i := 5) rfl
  go_wp2_with fail
  refine (word_yes _ _ _ _ _ _ _ h).mono ?_
  rintro e w4 ⟨rfl, hb⟩
  have N_g := Lib.hid ((S_g.out).below hb (by first | assumption | (simp; done) | (simp; omega) | omega))
  have N_h := Lib.hid ((S_h.out).below hb (by first | assumption | (simp; done) | (simp; omega) | omega))
  have N_HB := Lib.hid (HB_.out.trans (hb.mono (by first | exact Nat.le_refl _ | assumption | (simp; done) | (simp; omega) | omega)))
  clear hb S_g S_h hl_g c_g_0 c_g_1 c_g_2 c_g_3 c_g_4 c_g_5 hl_h c_h_0 c_h_1 c_h_2 c_h_3 c_h_4 c_h_5 HB_ hz_
  have S_g := Lib.hid N_g.out
  clear N_g
  have S_h := Lib.hid N_h.out
  clear N_h
  have HB_ := Lib.hid N_HB.out
  clear N_HB
  have hz_ : w.heap.size ≤ w4.heap.size := HB_.out.size
  have hl_g : w.heap.size < w4.heap.size := S_g.out.lt
  have c_g_0 : w4.cell? ⟨w.heap.size, 0, none⟩ = some (.int .i64 c) := S_g.out.cell (i := 0) rfl
  have c_g_1 : w4.cell? ⟨w.heap.size, 1, none⟩ = some (.int .i64 a) := S_g.out.cell (i := 1) rfl
  have c_g_2 : w4.cell? ⟨w.heap.size, 2, none⟩ = some (.int .i64 f) := S_g.out.cell (i := 2) rfl
  have c_g_3 : w4.cell? ⟨w.heap.size, 3, none⟩ = some (.bool m) := S_g.out.cell (i := 3) rfl
  have c_g_4 : w4.cell? ⟨w.heap.size, 4, none⟩ = some (.bool i) := S_g.out.cell (i := 4) rfl
  have c_g_5 : w4.cell? ⟨w.heap.size, 5, none⟩ = some (.bool d) := S_g.out.cell (i := 5) rfl
  have hl_h : w.heap.size + 1 < w4.heap.size := S_h.out.lt
  have c_h_0 : w4.cell? ⟨w.heap.size + 1, 0, none⟩ = some (.int .i64 c) := S_h.out.cell (i := 0) rfl
  have c_h_1 : w4.cell? ⟨w.heap.size + 1, 1, none⟩ = some (.int .i64 a) := S_h.out.cell (i := 1) rfl
  have c_h_2 : w4.cell? ⟨w.heap.size + 1, 2, none⟩ = some (.int .i64 f) := S_h.out.cell (i := 2) rfl
  have c_h_3 : w4.cell? ⟨w.heap.size + 1, 3, none⟩ = some (.bool m) := S_h.out.cell (i := 3) rfl
  have c_h_4 : w4.cell? ⟨w.heap.size + 1, 4, none⟩ = some (.bool i) := S_h.out.cell (i := 4) rfl
  have c_h_5 : w4.cell? ⟨w.heap.size + 1, 5, none⟩ = some (.bool d) := S_h.out.cell (i := 5) rfl
  go_wp2_with fail
  refine (word_yes _ _ _ _ _ _ _ h).mono ?_
  rintro e w5 ⟨rfl, hb⟩
  have N_g := Lib.hid ((S_g.out).below hb (by first | assumption | (simp; done) | (simp; omega) | omega))
  have N_h := Lib.hid ((S_h.out).below hb (by first | assumption | (simp; done) | (simp; omega) | omega))
  have N_HB := Lib.hid (HB_.out.trans (hb.mono (by first | exact Nat.le_refl _ | assumption | (simp; done) | (simp; omega) | omega)))
  clear hb S_g S_h hl_g c_g_0 c_g_1 c_g_2 c_g_3 c_g_4 c_g_5 hl_h c_h_0 c_h_1 c_h_2 c_h_3 c_h_4 c_h_5 HB_ hz_
  have S_g := Lib.hid N_g.out
  clear N_g
  have S_h := Lib.hid N_h.out
  clear N_h
  have HB_ := Lib.hid N_HB.out
  clear N_HB
  have hz_ : w.heap.size ≤ w5.heap.size := HB_.out.size
  have hl_g : w.heap.size < w5.heap.size := S_g.out.lt
  have c_g_0 : w5.cell? ⟨w.heap.size, 0, none⟩ = some (.int .i64 c) := S_g.out.cell (i := 0) rfl
  have c_g_1 : w5.cell? ⟨w.heap.size, 1, none⟩ = some (.int .i64 a) := S_g.out.cell (i := 1) rfl
  have c_g_2 : w5.cell? ⟨w.heap.size, 2, none⟩ = some (.int .i64 f) := S_g.out.cell (i := 2) rfl
  have c_g_3 : w5.cell? ⟨w.heap.size, 3, none⟩ = some (.bool m) := S_g.out.cell (i := 3) rfl
  have c_g_4 : w5.cell? ⟨w.heap.size, 4, none⟩ = some (.bool i) := S_g.out.cell (i := 4) rfl
  have c_g_5 : w5.cell? ⟨w.heap.size, 5, none⟩ = some (.bool d) := S_g.out.cell (i := 5) rfl
  have hl_h : w.heap.size + 1 < w5.heap.size := S_h.out.lt
  have c_h_0 : w5.cell? ⟨w.heap.size + 1, 0, none⟩ = some (.int .i64 c) := S_h.out.cell (i := 0) rfl
  have c_h_1 : w5.cell? ⟨w.heap.size + 1, 1, none⟩ = some (.int .i64 a) := S_h.out.cell (i := 1) rfl
  have c_h_2 : w5.cell? ⟨w.heap.size + 1, 2, none⟩ = some (.int .i64 f) := S_h.out.cell (i := 2) rfl
  have c_h_3 : w5.cell? ⟨w.heap.size + 1, 3, none⟩ = some (.bool m) := S_h.out.cell (i := 3) rfl
  have c_h_4 : w5.cell? ⟨w.heap.size + 1, 4, none⟩ = some (.bool i) := S_h.out.cell (i := 4) rfl
  have c_h_5 : w5.cell? ⟨w.heap.size + 1, 5, none⟩ = some (.bool d) := S_h.out.cell (i := 5) rfl
  go_wp2_with fail
  refine (of_wd _ _ _ _ _ _ _ h).mono ?_
  rintro e w6 ⟨rfl, hb⟩
  have N_g := Lib.hid ((S_g.out).below hb (by first | assumption | (simp; done) | (simp; omega) | omega))
  have N_h := Lib.hid ((S_h.out).below hb (by first | assumption | (simp; done) | (simp; omega) | omega))
  have N_HB := Lib.hid (HB_.out.trans (hb.mono (by first | exact Nat.le_refl _ | assumption | (simp; done) | (simp; omega) | omega)))
  clear hb S_g S_h hl_g c_g_0 c_g_1 c_g_2 c_g_3 c_g_4 c_g_5 hl_h c_h_0 c_h_1 c_h_2 c_h_3 c_h_4 c_h_5 HB_ hz_
  have S_g := Lib.hid N_g.out
  clear N_g
  have S_h := Lib.hid N_h.out
  clear N_h
  have HB_ := Lib.hid N_HB.out
  clear N_HB
  have hz_ : w.heap.size ≤ w6.heap.size := HB_.out.size
  have hl_g : w.heap.size < w6.heap.size := S_g.out.lt
  have c_g_0 : w6.cell? ⟨w.heap.size, 0, none⟩ = some (.int .i64 c) := S_g.out.cell (i := 0) rfl
  have c_g_1 : w6.cell? ⟨w.heap.size, 1, none⟩ = some (.int .i64 a) := S_g.out.cell (i := 1) rfl
  have c_g_2 : w6.cell? ⟨w.heap.size, 2, none⟩ = some (.int .i64 f) := S_g.out.cell (i := 2) rfl
  have c_g_3 : w6.cell? ⟨w.heap.size, 3, none⟩ = some (.bool m) := S_g.out.cell (i := 3) rfl
  have c_g_4 : w6.cell? ⟨w.heap.size, 4, none⟩ = some (.bool i) := S_g.out.cell (i := 4) rfl
  have c_g_5 : w6.cell? ⟨w.heap.size, 5, none⟩ = some (.bool d) := S_g.out.cell (i := 5) rfl
  have hl_h : w.heap.size + 1 < w6.heap.size := S_h.out.lt
  have c_h_0 : w6.cell? ⟨w.heap.size + 1, 0, none⟩ = some (.int .i64 c) := S_h.out.cell (i := 0) rfl
  have c_h_1 : w6.cell? ⟨w.heap.size + 1, 1, none⟩ = some (.int .i64 a) := S_h.out.cell (i := 1) rfl
  have c_h_2 : w6.cell? ⟨w.heap.size + 1, 2, none⟩ = some (.int .i64 f) := S_h.out.cell (i := 2) rfl
  have c_h_3 : w6.cell? ⟨w.heap.size + 1, 3, none⟩ = some (.bool m) := S_h.out.cell (i := 3) rfl
  have c_h_4 : w6.cell? ⟨w.heap.size + 1, 4, none⟩ = some (.bool i) := S_h.out.cell (i := 4) rfl
  have c_h_5 : w6.cell? ⟨w.heap.size + 1, 5, none⟩ = some (.bool d) := S_h.out.cell (i := 5) rfl
  go_wp2
  go_ret
  exact ⟨rfl, HB_.out.alloc hz_ _⟩
theorem headBack_walk (w : World) (c : Int) (_ : (Lit.int .i64 c).wf = true) (a : Int) (_ : (Lit.int .i64 a).wf = true) (f : Int) (_ : (Lit.int .i64 f).wf = true) (m i d : Bool) (c2 : Int) (_ : (Lit.int .i64 c2).wf = true) (a2 : Int) (_ : (Lit.int .i64 a2).wf = true) (f2 : Int) (_ : (Lit.int .i64 f2).wf = true) (m2 i2 d2 : Bool) :
    Calls Try.prog 11 #[.agg #[.int .i64 c, .int .i64 a, .int .i64 f, .bool m, .bool i, .bool d], .agg #[.int .i64 c2, .int .i64 a2, .int .i64 f2, .bool m2, .bool i2, .bool d2]] w fun x w' => x = .returned (.bool true) ∧ Below w.heap.size w w' := by
  cases h : hr c a f i d
  · exact hback_n1 w c a f m i d c2 a2 f2 m2 i2 d2 h
  · cases g : hr c2 a2 f2 i2 d2
    · exact hback_n2 w c a f m i d c2 a2 f2 m2 i2 d2 h g
    · by_cases E : c = c2 ∧ a = a2 ∧ f = f2 ∧ m = m2 ∧ i = i2 ∧ d = d2
      · obtain ⟨rfl, rfl, rfl, rfl, rfl, rfl⟩ := E
        exact hback_e w c a f m i d h
      · exact hback_y w c a f m i d c2 a2 f2 m2 i2 d2 h g E
end Go.Proofs.Ytlhbfeddgopfjaa
