/-
  The walk of the law SpaceTells: for every space of three ints and every four ints it returns true, and memory below the heap's old size is unchanged. No condition.
-/
import Derived.Test.YtlhbfeddgopfjaaSpd
namespace Go.Proofs.Ytlhbfeddgopfjaa
open Go.RowKit
set_option maxHeartbeats 4000000 in
set_option maxRecDepth 100000 in
theorem tells_a (w : World) (x y z p n f g : Int) (hr : rt x y z = true) :
    Calls Try.prog 15 #[.agg #[.int .i64 x, .int .i64 y, .int .i64 z], .int .i64 p, .int .i64 n, .int .i64 f, .int .i64 g] w fun e w' => e = .returned (.bool true) ∧ Below w.heap.size w w' := by
  obtain ⟨b0, b1, b2, b3⟩ := rt_true hr
  have q1 : (us x y z == y - x) = true := by unfold us; simp [hr]
  have q2 : (rm x y z == z - y) = true := by unfold rm; simp [hr]
  have q3 : emF x y z = x := by unfold emF; simp [hr]
  have q4 : emE x y z = z := by unfold emE; simp [hr]
  go_enter Try.func15, Try.ntmps15
  go_wp2_with fail
  refine (sawake_any _).mono ?_
  rintro e w1 ⟨rfl, hb⟩
  have N_s := Lib.hid ((Blk.new' (k := w.heap.size) (by simp) #[.int .i64 x, .int .i64 y, .int .i64 z] 58).below hb (by first | assumption | (simp; done) | (simp; omega) | omega))
  have N_HB := Lib.hid (((Below.refl w.heap.size w).alloc (by first | exact Nat.le_refl _ | assumption | (simp; done) | (simp; omega) | omega) _).trans (hb.mono (by first | exact Nat.le_refl _ | assumption | (simp; done) | (simp; omega) | omega)))
  clear hb
  have S_s := Lib.hid N_s.out
  clear N_s
  have HB_ := Lib.hid N_HB.out
  clear N_HB
  have hz_ : w.heap.size ≤ w1.heap.size := HB_.out.size
  have hl_s : w.heap.size < w1.heap.size := S_s.out.lt
  have c_s_0 : w1.cell? ⟨w.heap.size, 0, none⟩ = some (.int .i64 x) := S_s.out.cell (i := 0) rfl
  have c_s_1 : w1.cell? ⟨w.heap.size, 1, none⟩ = some (.int .i64 y) := S_s.out.cell (i := 1) rfl
  have c_s_2 : w1.cell? ⟨w.heap.size, 2, none⟩ = some (.int .i64 z) := S_s.out.cell (i := 2) rfl
  go_wp2_with fail
  refine (rright_any _ _ _ _).mono ?_
  rintro e w2 ⟨rfl, hb⟩
  have N_s := Lib.hid (((S_s.out).alloc _).below hb (by first | assumption | (simp; done) | (simp; omega) | omega))
  have N_x := Lib.hid ((Blk.new' (k := w1.heap.size) (by simp) #[.int .i64 x, .int .i64 y, .int .i64 z] 31).below hb (by first | assumption | (simp; done) | (simp; omega) | omega))
  have N_HB := Lib.hid ((HB_.out.alloc (by first | exact Nat.le_refl _ | assumption | (simp; done) | (simp; omega) | omega) _).trans (hb.mono (by first | exact Nat.le_refl _ | assumption | (simp; done) | (simp; omega) | omega)))
  clear hb S_s hl_s c_s_0 c_s_1 c_s_2 HB_ hz_
  have S_s := Lib.hid N_s.out
  clear N_s
  have S_x := Lib.hid N_x.out
  clear N_x
  have HB_ := Lib.hid N_HB.out
  clear N_HB
  have hz_ : w.heap.size ≤ w2.heap.size := HB_.out.size
  have hl_s : w.heap.size < w2.heap.size := S_s.out.lt
  have c_s_0 : w2.cell? ⟨w.heap.size, 0, none⟩ = some (.int .i64 x) := S_s.out.cell (i := 0) rfl
  have c_s_1 : w2.cell? ⟨w.heap.size, 1, none⟩ = some (.int .i64 y) := S_s.out.cell (i := 1) rfl
  have c_s_2 : w2.cell? ⟨w.heap.size, 2, none⟩ = some (.int .i64 z) := S_s.out.cell (i := 2) rfl
  have hl_x : w1.heap.size < w2.heap.size := S_x.out.lt
  have c_x_0 : w2.cell? ⟨w1.heap.size, 0, none⟩ = some (.int .i64 x) := S_x.out.cell (i := 0) rfl
  have c_x_1 : w2.cell? ⟨w1.heap.size, 1, none⟩ = some (.int .i64 y) := S_x.out.cell (i := 1) rfl
  have c_x_2 : w2.cell? ⟨w1.heap.size, 2, none⟩ = some (.int .i64 z) := S_x.out.cell (i := 2) rfl
  go_wp2_with fail
  refine wp_region_st 19 (by kernel_rfl) (by kernel_rfl) ?_
  simp only [List.take_succ_cons, List.take_zero, List.drop_succ_cons, List.drop_zero]
  repeat still_step
  with_reducible refine wpStill_nil ?_
  go_wp2_with fail
  refine (take_any _ _ _ _ _).mono ?_
  rintro e w3 ⟨rfl, hb⟩
  have N_s := Lib.hid ((((S_s.out).alloc _).drew).below hb (by first | assumption | (simp; done) | (simp; omega) | omega))
  have N_x := Lib.hid ((((S_x.out).alloc _).drew).below hb (by first | assumption | (simp; done) | (simp; omega) | omega))
  have N_m := Lib.hid (((Blk.new' (k := w2.heap.size) (by simp) #[.int .i64 x, .int .i64 x, .int .i64 z] 58).drew).below hb (by first | assumption | (simp; done) | (simp; omega) | omega))
  have N_HB := Lib.hid (((HB_.out.alloc (by first | exact Nat.le_refl _ | assumption | (simp; done) | (simp; omega) | omega) _).drew).trans (hb.mono (by first | exact Nat.le_refl _ | assumption | (simp; done) | (simp; omega) | omega)))
  clear hb S_s S_x hl_s c_s_0 c_s_1 c_s_2 hl_x c_x_0 c_x_1 c_x_2 HB_ hz_
  have S_s := Lib.hid N_s.out
  clear N_s
  have S_x := Lib.hid N_x.out
  clear N_x
  have S_m := Lib.hid N_m.out
  clear N_m
  have HB_ := Lib.hid N_HB.out
  clear N_HB
  have hz_ : w.heap.size ≤ w3.heap.size := HB_.out.size
  have hl_s : w.heap.size < w3.heap.size := S_s.out.lt
  have c_s_0 : w3.cell? ⟨w.heap.size, 0, none⟩ = some (.int .i64 x) := S_s.out.cell (i := 0) rfl
  have c_s_1 : w3.cell? ⟨w.heap.size, 1, none⟩ = some (.int .i64 y) := S_s.out.cell (i := 1) rfl
  have c_s_2 : w3.cell? ⟨w.heap.size, 2, none⟩ = some (.int .i64 z) := S_s.out.cell (i := 2) rfl
  have hl_x : w1.heap.size < w3.heap.size := S_x.out.lt
  have hl_m : w2.heap.size < w3.heap.size := S_m.out.lt
  go_wp2_with fail
  refine (rtake_any _ _ _ _ _).mono ?_
  rintro e w4 ⟨rfl, hb⟩
  have N_s := Lib.hid (((S_s.out).alloc _).below hb (by first | assumption | (simp; done) | (simp; omega) | omega))
  have N_x := Lib.hid (((S_x.out).alloc _).below hb (by first | assumption | (simp; done) | (simp; omega) | omega))
  have N_m := Lib.hid (((S_m.out).alloc _).below hb (by first | assumption | (simp; done) | (simp; omega) | omega))
  have N_a := Lib.hid ((Blk.new' (k := w3.heap.size) (by simp) #[.int .i64 (tkF x y z n), .int .i64 (tkT x y z n), .int .i64 (tkE x y z n)] 31).below hb (by first | assumption | (simp; done) | (simp; omega) | omega))
  have N_HB := Lib.hid ((HB_.out.alloc (by first | exact Nat.le_refl _ | assumption | (simp; done) | (simp; omega) | omega) _).trans (hb.mono (by first | exact Nat.le_refl _ | assumption | (simp; done) | (simp; omega) | omega)))
  clear hb S_s S_x S_m hl_s c_s_0 c_s_1 c_s_2 hl_x hl_m HB_ hz_
  have S_s := Lib.hid N_s.out
  clear N_s
  have S_x := Lib.hid N_x.out
  clear N_x
  have S_m := Lib.hid N_m.out
  clear N_m
  have S_a := Lib.hid N_a.out
  clear N_a
  have HB_ := Lib.hid N_HB.out
  clear N_HB
  have hz_ : w.heap.size ≤ w4.heap.size := HB_.out.size
  have hl_s : w.heap.size < w4.heap.size := S_s.out.lt
  have hl_x : w1.heap.size < w4.heap.size := S_x.out.lt
  have hl_m : w2.heap.size < w4.heap.size := S_m.out.lt
  have hl_a : w3.heap.size < w4.heap.size := S_a.out.lt
  go_wp2_with fail
  refine (new_any _ _ _).mono ?_
  rintro e w5 ⟨rfl, hb⟩
  have N_s := Lib.hid (((S_s.out).alloc _).below hb (by first | assumption | (simp; done) | (simp; omega) | omega))
  have N_x := Lib.hid (((S_x.out).alloc _).below hb (by first | assumption | (simp; done) | (simp; omega) | omega))
  have N_m := Lib.hid (((S_m.out).alloc _).below hb (by first | assumption | (simp; done) | (simp; omega) | omega))
  have N_a := Lib.hid (((S_a.out).alloc _).below hb (by first | assumption | (simp; done) | (simp; omega) | omega))
  have N_b := Lib.hid ((Blk.new' (k := w4.heap.size) (by simp) #[.int .i64 (tkF x y z n), .int .i64 (tkT x y z n), .int .i64 (tkE x y z n)] 58).below hb (by first | assumption | (simp; done) | (simp; omega) | omega))
  have N_HB := Lib.hid ((HB_.out.alloc (by first | exact Nat.le_refl _ | assumption | (simp; done) | (simp; omega) | omega) _).trans (hb.mono (by first | exact Nat.le_refl _ | assumption | (simp; done) | (simp; omega) | omega)))
  clear hb S_s S_x S_m S_a hl_s hl_x hl_m hl_a HB_ hz_
  have S_s := Lib.hid N_s.out
  clear N_s
  have S_x := Lib.hid N_x.out
  clear N_x
  have S_m := Lib.hid N_m.out
  clear N_m
  have S_a := Lib.hid N_a.out
  clear N_a
  have S_b := Lib.hid N_b.out
  clear N_b
  have HB_ := Lib.hid N_HB.out
  clear N_HB
  have hz_ : w.heap.size ≤ w5.heap.size := HB_.out.size
  have hl_s : w.heap.size < w5.heap.size := S_s.out.lt
  have hl_x : w1.heap.size < w5.heap.size := S_x.out.lt
  have hl_m : w2.heap.size < w5.heap.size := S_m.out.lt
  have hl_a : w3.heap.size < w5.heap.size := S_a.out.lt
  have hl_b : w4.heap.size < w5.heap.size := S_b.out.lt
  go_wp2_with fail
  refine (rnew_any _ _ _).mono ?_
  rintro e w6 ⟨rfl, hb⟩
  have N_s := Lib.hid (((S_s.out).alloc _).below hb (by first | assumption | (simp; done) | (simp; omega) | omega))
  have N_x := Lib.hid (((S_x.out).alloc _).below hb (by first | assumption | (simp; done) | (simp; omega) | omega))
  have N_m := Lib.hid (((S_m.out).alloc _).below hb (by first | assumption | (simp; done) | (simp; omega) | omega))
  have N_a := Lib.hid (((S_a.out).alloc _).below hb (by first | assumption | (simp; done) | (simp; omega) | omega))
  have N_b := Lib.hid (((S_b.out).alloc _).below hb (by first | assumption | (simp; done) | (simp; omega) | omega))
  have N_c := Lib.hid ((Blk.new' (k := w5.heap.size) (by simp) #[.int .i64 (nwF f g), .int .i64 (nwF f g), .int .i64 (nwE f g)] 31).below hb (by first | assumption | (simp; done) | (simp; omega) | omega))
  have N_HB := Lib.hid ((HB_.out.alloc (by first | exact Nat.le_refl _ | assumption | (simp; done) | (simp; omega) | omega) _).trans (hb.mono (by first | exact Nat.le_refl _ | assumption | (simp; done) | (simp; omega) | omega)))
  clear hb S_s S_x S_m S_a S_b hl_s hl_x hl_m hl_a hl_b HB_ hz_
  have S_s := Lib.hid N_s.out
  clear N_s
  have S_x := Lib.hid N_x.out
  clear N_x
  have S_m := Lib.hid N_m.out
  clear N_m
  have S_a := Lib.hid N_a.out
  clear N_a
  have S_b := Lib.hid N_b.out
  clear N_b
  have S_c := Lib.hid N_c.out
  clear N_c
  have HB_ := Lib.hid N_HB.out
  clear N_HB
  have hz_ : w.heap.size ≤ w6.heap.size := HB_.out.size
  have hl_s : w.heap.size < w6.heap.size := S_s.out.lt
  have c_s_0 : w6.cell? ⟨w.heap.size, 0, none⟩ = some (.int .i64 x) := S_s.out.cell (i := 0) rfl
  have c_s_1 : w6.cell? ⟨w.heap.size, 1, none⟩ = some (.int .i64 y) := S_s.out.cell (i := 1) rfl
  have c_s_2 : w6.cell? ⟨w.heap.size, 2, none⟩ = some (.int .i64 z) := S_s.out.cell (i := 2) rfl
  have hl_x : w1.heap.size < w6.heap.size := S_x.out.lt
  have c_x_0 : w6.cell? ⟨w1.heap.size, 0, none⟩ = some (.int .i64 x) := S_x.out.cell (i := 0) rfl
  have c_x_1 : w6.cell? ⟨w1.heap.size, 1, none⟩ = some (.int .i64 y) := S_x.out.cell (i := 1) rfl
  have c_x_2 : w6.cell? ⟨w1.heap.size, 2, none⟩ = some (.int .i64 z) := S_x.out.cell (i := 2) rfl
  have hl_m : w2.heap.size < w6.heap.size := S_m.out.lt
  have c_m_0 : w6.cell? ⟨w2.heap.size, 0, none⟩ = some (.int .i64 x) := S_m.out.cell (i := 0) rfl
  have c_m_1 : w6.cell? ⟨w2.heap.size, 1, none⟩ = some (.int .i64 x) := S_m.out.cell (i := 1) rfl
  have c_m_2 : w6.cell? ⟨w2.heap.size, 2, none⟩ = some (.int .i64 z) := S_m.out.cell (i := 2) rfl
  have hl_a : w3.heap.size < w6.heap.size := S_a.out.lt
  have c_a_0 : w6.cell? ⟨w3.heap.size, 0, none⟩ = some (.int .i64 (tkF x y z n)) := S_a.out.cell (i := 0) rfl
  have c_a_1 : w6.cell? ⟨w3.heap.size, 1, none⟩ = some (.int .i64 (tkT x y z n)) := S_a.out.cell (i := 1) rfl
  have c_a_2 : w6.cell? ⟨w3.heap.size, 2, none⟩ = some (.int .i64 (tkE x y z n)) := S_a.out.cell (i := 2) rfl
  have hl_b : w4.heap.size < w6.heap.size := S_b.out.lt
  have c_b_0 : w6.cell? ⟨w4.heap.size, 0, none⟩ = some (.int .i64 (tkF x y z n)) := S_b.out.cell (i := 0) rfl
  have c_b_1 : w6.cell? ⟨w4.heap.size, 1, none⟩ = some (.int .i64 (tkT x y z n)) := S_b.out.cell (i := 1) rfl
  have c_b_2 : w6.cell? ⟨w4.heap.size, 2, none⟩ = some (.int .i64 (tkE x y z n)) := S_b.out.cell (i := 2) rfl
  have hl_c : w5.heap.size < w6.heap.size := S_c.out.lt
  have c_c_0 : w6.cell? ⟨w5.heap.size, 0, none⟩ = some (.int .i64 (nwF f g)) := S_c.out.cell (i := 0) rfl
  have c_c_1 : w6.cell? ⟨w5.heap.size, 1, none⟩ = some (.int .i64 (nwF f g)) := S_c.out.cell (i := 1) rfl
  have c_c_2 : w6.cell? ⟨w5.heap.size, 2, none⟩ = some (.int .i64 (nwE f g)) := S_c.out.cell (i := 2) rfl
  have hq_ := bw_cell (w6.alloc (.cells #[.int .i64 (nwF f g), .int .i64 (nwF f g), .int .i64 (nwE f g)] 58))
  go_wp2_with fail
  refine wp_region_bw (by kernel_rfl) (by kernel_rfl) ?_
  repeat go_big_quiet_step (first | (go_at_call 48; exact calls_bw (right_any _ _ _ _)) | (go_at_call 34; exact calls_bw (has_any _ _ _ _ _)) | (go_at_call 49; exact calls_bw (rhas_any _ _ _ _ _)) | (go_at_call 36; exact calls_bw (used_any _ _ _ _)) | (go_at_call 35; exact calls_bw (room_any _ _ _ _)) | (go_at_call 50; exact calls_bw (empty_any _ _ _ _)))
  with_reducible refine wpQuiet_nil ?_
  rintro ⟨w7, hb⟩
  dsimp only
  clear hq_
  have N_s := Lib.hid (((S_s.out).alloc _).below hb (by first | assumption | (simp; done) | (simp; omega) | omega))
  have N_x := Lib.hid (((S_x.out).alloc _).below hb (by first | assumption | (simp; done) | (simp; omega) | omega))
  have N_m := Lib.hid (((S_m.out).alloc _).below hb (by first | assumption | (simp; done) | (simp; omega) | omega))
  have N_a := Lib.hid (((S_a.out).alloc _).below hb (by first | assumption | (simp; done) | (simp; omega) | omega))
  have N_b := Lib.hid (((S_b.out).alloc _).below hb (by first | assumption | (simp; done) | (simp; omega) | omega))
  have N_c := Lib.hid (((S_c.out).alloc _).below hb (by first | assumption | (simp; done) | (simp; omega) | omega))
  have N_d := Lib.hid ((Blk.new' (k := w6.heap.size) (by simp) #[.int .i64 (nwF f g), .int .i64 (nwF f g), .int .i64 (nwE f g)] 58).below hb (by first | assumption | (simp; done) | (simp; omega) | omega))
  have N_HB := Lib.hid ((HB_.out.alloc (by first | exact Nat.le_refl _ | assumption | (simp; done) | (simp; omega) | omega) _).trans (hb.mono (by first | exact Nat.le_refl _ | assumption | (simp; done) | (simp; omega) | omega)))
  clear hb S_s S_x S_m S_a S_b S_c hl_s c_s_0 c_s_1 c_s_2 hl_x c_x_0 c_x_1 c_x_2 hl_m c_m_0 c_m_1 c_m_2 hl_a c_a_0 c_a_1 c_a_2 hl_b c_b_0 c_b_1 c_b_2 hl_c c_c_0 c_c_1 c_c_2 HB_ hz_
  have S_s := Lib.hid N_s.out
  clear N_s
  have S_x := Lib.hid N_x.out
  clear N_x
  have S_m := Lib.hid N_m.out
  clear N_m
  have S_a := Lib.hid N_a.out
  clear N_a
  have S_b := Lib.hid N_b.out
  clear N_b
  have S_c := Lib.hid N_c.out
  clear N_c
  have S_d := Lib.hid N_d.out
  clear N_d
  have HB_ := Lib.hid N_HB.out
  clear N_HB
  have hz_ : w.heap.size ≤ w7.heap.size := HB_.out.size
  have hl_s : w.heap.size < w7.heap.size := S_s.out.lt
  have hl_x : w1.heap.size < w7.heap.size := S_x.out.lt
  have hl_m : w2.heap.size < w7.heap.size := S_m.out.lt
  have hl_a : w3.heap.size < w7.heap.size := S_a.out.lt
  have hl_b : w4.heap.size < w7.heap.size := S_b.out.lt
  have hl_c : w5.heap.size < w7.heap.size := S_c.out.lt
  have hl_d : w6.heap.size < w7.heap.size := S_d.out.lt
  go_wp2
  go_ret
  exact ⟨rfl, HB_.out⟩
set_option maxHeartbeats 4000000 in
set_option maxRecDepth 100000 in
theorem tells_b (w : World) (x y z p n f g : Int) (hr : rt x y z = false) :
    Calls Try.prog 15 #[.agg #[.int .i64 x, .int .i64 y, .int .i64 z], .int .i64 p, .int .i64 n, .int .i64 f, .int .i64 g] w fun e w' => e = .returned (.bool true) ∧ Below w.heap.size w w' := by
  have q1 : us x y z = 0 := by unfold us; simp [hr]
  have q2 : rm x y z = 0 := by unfold rm; simp [hr]
  have q3 : emF x y z = 0 := by unfold emF; simp [hr]
  have q4 : emE x y z = 0 := by unfold emE; simp [hr]
  go_enter Try.func15, Try.ntmps15
  go_wp2_with fail
  refine (sawake_any _).mono ?_
  rintro e w1 ⟨rfl, hb⟩
  have N_s := Lib.hid ((Blk.new' (k := w.heap.size) (by simp) #[.int .i64 x, .int .i64 y, .int .i64 z] 58).below hb (by first | assumption | (simp; done) | (simp; omega) | omega))
  have N_HB := Lib.hid (((Below.refl w.heap.size w).alloc (by first | exact Nat.le_refl _ | assumption | (simp; done) | (simp; omega) | omega) _).trans (hb.mono (by first | exact Nat.le_refl _ | assumption | (simp; done) | (simp; omega) | omega)))
  clear hb
  have S_s := Lib.hid N_s.out
  clear N_s
  have HB_ := Lib.hid N_HB.out
  clear N_HB
  have hz_ : w.heap.size ≤ w1.heap.size := HB_.out.size
  have hl_s : w.heap.size < w1.heap.size := S_s.out.lt
  have c_s_0 : w1.cell? ⟨w.heap.size, 0, none⟩ = some (.int .i64 x) := S_s.out.cell (i := 0) rfl
  have c_s_1 : w1.cell? ⟨w.heap.size, 1, none⟩ = some (.int .i64 y) := S_s.out.cell (i := 1) rfl
  have c_s_2 : w1.cell? ⟨w.heap.size, 2, none⟩ = some (.int .i64 z) := S_s.out.cell (i := 2) rfl
  go_wp2_with fail
  refine (rright_any _ _ _ _).mono ?_
  rintro e w2 ⟨rfl, hb⟩
  have N_s := Lib.hid (((S_s.out).alloc _).below hb (by first | assumption | (simp; done) | (simp; omega) | omega))
  have N_x := Lib.hid ((Blk.new' (k := w1.heap.size) (by simp) #[.int .i64 x, .int .i64 y, .int .i64 z] 31).below hb (by first | assumption | (simp; done) | (simp; omega) | omega))
  have N_HB := Lib.hid ((HB_.out.alloc (by first | exact Nat.le_refl _ | assumption | (simp; done) | (simp; omega) | omega) _).trans (hb.mono (by first | exact Nat.le_refl _ | assumption | (simp; done) | (simp; omega) | omega)))
  clear hb S_s hl_s c_s_0 c_s_1 c_s_2 HB_ hz_
  have S_s := Lib.hid N_s.out
  clear N_s
  have S_x := Lib.hid N_x.out
  clear N_x
  have HB_ := Lib.hid N_HB.out
  clear N_HB
  have hz_ : w.heap.size ≤ w2.heap.size := HB_.out.size
  have hl_s : w.heap.size < w2.heap.size := S_s.out.lt
  have c_s_0 : w2.cell? ⟨w.heap.size, 0, none⟩ = some (.int .i64 x) := S_s.out.cell (i := 0) rfl
  have c_s_1 : w2.cell? ⟨w.heap.size, 1, none⟩ = some (.int .i64 y) := S_s.out.cell (i := 1) rfl
  have c_s_2 : w2.cell? ⟨w.heap.size, 2, none⟩ = some (.int .i64 z) := S_s.out.cell (i := 2) rfl
  have hl_x : w1.heap.size < w2.heap.size := S_x.out.lt
  have c_x_0 : w2.cell? ⟨w1.heap.size, 0, none⟩ = some (.int .i64 x) := S_x.out.cell (i := 0) rfl
  have c_x_1 : w2.cell? ⟨w1.heap.size, 1, none⟩ = some (.int .i64 y) := S_x.out.cell (i := 1) rfl
  have c_x_2 : w2.cell? ⟨w1.heap.size, 2, none⟩ = some (.int .i64 z) := S_x.out.cell (i := 2) rfl
  go_wp2_with fail
  refine (take_any _ _ _ _ _).mono ?_
  rintro e w3 ⟨rfl, hb⟩
  have N_s := Lib.hid (((S_s.out).alloc _).below hb (by first | assumption | (simp; done) | (simp; omega) | omega))
  have N_x := Lib.hid (((S_x.out).alloc _).below hb (by first | assumption | (simp; done) | (simp; omega) | omega))
  have N_m := Lib.hid ((Blk.new' (k := w2.heap.size) (by simp) #[.int .i64 0, .int .i64 0, .int .i64 0] 58).below hb (by first | assumption | (simp; done) | (simp; omega) | omega))
  have N_HB := Lib.hid ((HB_.out.alloc (by first | exact Nat.le_refl _ | assumption | (simp; done) | (simp; omega) | omega) _).trans (hb.mono (by first | exact Nat.le_refl _ | assumption | (simp; done) | (simp; omega) | omega)))
  clear hb S_s S_x hl_s c_s_0 c_s_1 c_s_2 hl_x c_x_0 c_x_1 c_x_2 HB_ hz_
  have S_s := Lib.hid N_s.out
  clear N_s
  have S_x := Lib.hid N_x.out
  clear N_x
  have S_m := Lib.hid N_m.out
  clear N_m
  have HB_ := Lib.hid N_HB.out
  clear N_HB
  have hz_ : w.heap.size ≤ w3.heap.size := HB_.out.size
  have hl_s : w.heap.size < w3.heap.size := S_s.out.lt
  have c_s_0 : w3.cell? ⟨w.heap.size, 0, none⟩ = some (.int .i64 x) := S_s.out.cell (i := 0) rfl
  have c_s_1 : w3.cell? ⟨w.heap.size, 1, none⟩ = some (.int .i64 y) := S_s.out.cell (i := 1) rfl
  have c_s_2 : w3.cell? ⟨w.heap.size, 2, none⟩ = some (.int .i64 z) := S_s.out.cell (i := 2) rfl
  have hl_x : w1.heap.size < w3.heap.size := S_x.out.lt
  have hl_m : w2.heap.size < w3.heap.size := S_m.out.lt
  go_wp2_with fail
  refine (rtake_any _ _ _ _ _).mono ?_
  rintro e w4 ⟨rfl, hb⟩
  have N_s := Lib.hid (((S_s.out).alloc _).below hb (by first | assumption | (simp; done) | (simp; omega) | omega))
  have N_x := Lib.hid (((S_x.out).alloc _).below hb (by first | assumption | (simp; done) | (simp; omega) | omega))
  have N_m := Lib.hid (((S_m.out).alloc _).below hb (by first | assumption | (simp; done) | (simp; omega) | omega))
  have N_a := Lib.hid ((Blk.new' (k := w3.heap.size) (by simp) #[.int .i64 (tkF x y z n), .int .i64 (tkT x y z n), .int .i64 (tkE x y z n)] 31).below hb (by first | assumption | (simp; done) | (simp; omega) | omega))
  have N_HB := Lib.hid ((HB_.out.alloc (by first | exact Nat.le_refl _ | assumption | (simp; done) | (simp; omega) | omega) _).trans (hb.mono (by first | exact Nat.le_refl _ | assumption | (simp; done) | (simp; omega) | omega)))
  clear hb S_s S_x S_m hl_s c_s_0 c_s_1 c_s_2 hl_x hl_m HB_ hz_
  have S_s := Lib.hid N_s.out
  clear N_s
  have S_x := Lib.hid N_x.out
  clear N_x
  have S_m := Lib.hid N_m.out
  clear N_m
  have S_a := Lib.hid N_a.out
  clear N_a
  have HB_ := Lib.hid N_HB.out
  clear N_HB
  have hz_ : w.heap.size ≤ w4.heap.size := HB_.out.size
  have hl_s : w.heap.size < w4.heap.size := S_s.out.lt
  have hl_x : w1.heap.size < w4.heap.size := S_x.out.lt
  have hl_m : w2.heap.size < w4.heap.size := S_m.out.lt
  have hl_a : w3.heap.size < w4.heap.size := S_a.out.lt
  go_wp2_with fail
  refine (new_any _ _ _).mono ?_
  rintro e w5 ⟨rfl, hb⟩
  have N_s := Lib.hid (((S_s.out).alloc _).below hb (by first | assumption | (simp; done) | (simp; omega) | omega))
  have N_x := Lib.hid (((S_x.out).alloc _).below hb (by first | assumption | (simp; done) | (simp; omega) | omega))
  have N_m := Lib.hid (((S_m.out).alloc _).below hb (by first | assumption | (simp; done) | (simp; omega) | omega))
  have N_a := Lib.hid (((S_a.out).alloc _).below hb (by first | assumption | (simp; done) | (simp; omega) | omega))
  have N_b := Lib.hid ((Blk.new' (k := w4.heap.size) (by simp) #[.int .i64 (tkF x y z n), .int .i64 (tkT x y z n), .int .i64 (tkE x y z n)] 58).below hb (by first | assumption | (simp; done) | (simp; omega) | omega))
  have N_HB := Lib.hid ((HB_.out.alloc (by first | exact Nat.le_refl _ | assumption | (simp; done) | (simp; omega) | omega) _).trans (hb.mono (by first | exact Nat.le_refl _ | assumption | (simp; done) | (simp; omega) | omega)))
  clear hb S_s S_x S_m S_a hl_s hl_x hl_m hl_a HB_ hz_
  have S_s := Lib.hid N_s.out
  clear N_s
  have S_x := Lib.hid N_x.out
  clear N_x
  have S_m := Lib.hid N_m.out
  clear N_m
  have S_a := Lib.hid N_a.out
  clear N_a
  have S_b := Lib.hid N_b.out
  clear N_b
  have HB_ := Lib.hid N_HB.out
  clear N_HB
  have hz_ : w.heap.size ≤ w5.heap.size := HB_.out.size
  have hl_s : w.heap.size < w5.heap.size := S_s.out.lt
  have hl_x : w1.heap.size < w5.heap.size := S_x.out.lt
  have hl_m : w2.heap.size < w5.heap.size := S_m.out.lt
  have hl_a : w3.heap.size < w5.heap.size := S_a.out.lt
  have hl_b : w4.heap.size < w5.heap.size := S_b.out.lt
  go_wp2_with fail
  refine (rnew_any _ _ _).mono ?_
  rintro e w6 ⟨rfl, hb⟩
  have N_s := Lib.hid (((S_s.out).alloc _).below hb (by first | assumption | (simp; done) | (simp; omega) | omega))
  have N_x := Lib.hid (((S_x.out).alloc _).below hb (by first | assumption | (simp; done) | (simp; omega) | omega))
  have N_m := Lib.hid (((S_m.out).alloc _).below hb (by first | assumption | (simp; done) | (simp; omega) | omega))
  have N_a := Lib.hid (((S_a.out).alloc _).below hb (by first | assumption | (simp; done) | (simp; omega) | omega))
  have N_b := Lib.hid (((S_b.out).alloc _).below hb (by first | assumption | (simp; done) | (simp; omega) | omega))
  have N_c := Lib.hid ((Blk.new' (k := w5.heap.size) (by simp) #[.int .i64 (nwF f g), .int .i64 (nwF f g), .int .i64 (nwE f g)] 31).below hb (by first | assumption | (simp; done) | (simp; omega) | omega))
  have N_HB := Lib.hid ((HB_.out.alloc (by first | exact Nat.le_refl _ | assumption | (simp; done) | (simp; omega) | omega) _).trans (hb.mono (by first | exact Nat.le_refl _ | assumption | (simp; done) | (simp; omega) | omega)))
  clear hb S_s S_x S_m S_a S_b hl_s hl_x hl_m hl_a hl_b HB_ hz_
  have S_s := Lib.hid N_s.out
  clear N_s
  have S_x := Lib.hid N_x.out
  clear N_x
  have S_m := Lib.hid N_m.out
  clear N_m
  have S_a := Lib.hid N_a.out
  clear N_a
  have S_b := Lib.hid N_b.out
  clear N_b
  have S_c := Lib.hid N_c.out
  clear N_c
  have HB_ := Lib.hid N_HB.out
  clear N_HB
  have hz_ : w.heap.size ≤ w6.heap.size := HB_.out.size
  have hl_s : w.heap.size < w6.heap.size := S_s.out.lt
  have c_s_0 : w6.cell? ⟨w.heap.size, 0, none⟩ = some (.int .i64 x) := S_s.out.cell (i := 0) rfl
  have c_s_1 : w6.cell? ⟨w.heap.size, 1, none⟩ = some (.int .i64 y) := S_s.out.cell (i := 1) rfl
  have c_s_2 : w6.cell? ⟨w.heap.size, 2, none⟩ = some (.int .i64 z) := S_s.out.cell (i := 2) rfl
  have hl_x : w1.heap.size < w6.heap.size := S_x.out.lt
  have c_x_0 : w6.cell? ⟨w1.heap.size, 0, none⟩ = some (.int .i64 x) := S_x.out.cell (i := 0) rfl
  have c_x_1 : w6.cell? ⟨w1.heap.size, 1, none⟩ = some (.int .i64 y) := S_x.out.cell (i := 1) rfl
  have c_x_2 : w6.cell? ⟨w1.heap.size, 2, none⟩ = some (.int .i64 z) := S_x.out.cell (i := 2) rfl
  have hl_m : w2.heap.size < w6.heap.size := S_m.out.lt
  have c_m_0 : w6.cell? ⟨w2.heap.size, 0, none⟩ = some (.int .i64 0) := S_m.out.cell (i := 0) rfl
  have c_m_1 : w6.cell? ⟨w2.heap.size, 1, none⟩ = some (.int .i64 0) := S_m.out.cell (i := 1) rfl
  have c_m_2 : w6.cell? ⟨w2.heap.size, 2, none⟩ = some (.int .i64 0) := S_m.out.cell (i := 2) rfl
  have hl_a : w3.heap.size < w6.heap.size := S_a.out.lt
  have c_a_0 : w6.cell? ⟨w3.heap.size, 0, none⟩ = some (.int .i64 (tkF x y z n)) := S_a.out.cell (i := 0) rfl
  have c_a_1 : w6.cell? ⟨w3.heap.size, 1, none⟩ = some (.int .i64 (tkT x y z n)) := S_a.out.cell (i := 1) rfl
  have c_a_2 : w6.cell? ⟨w3.heap.size, 2, none⟩ = some (.int .i64 (tkE x y z n)) := S_a.out.cell (i := 2) rfl
  have hl_b : w4.heap.size < w6.heap.size := S_b.out.lt
  have c_b_0 : w6.cell? ⟨w4.heap.size, 0, none⟩ = some (.int .i64 (tkF x y z n)) := S_b.out.cell (i := 0) rfl
  have c_b_1 : w6.cell? ⟨w4.heap.size, 1, none⟩ = some (.int .i64 (tkT x y z n)) := S_b.out.cell (i := 1) rfl
  have c_b_2 : w6.cell? ⟨w4.heap.size, 2, none⟩ = some (.int .i64 (tkE x y z n)) := S_b.out.cell (i := 2) rfl
  have hl_c : w5.heap.size < w6.heap.size := S_c.out.lt
  have c_c_0 : w6.cell? ⟨w5.heap.size, 0, none⟩ = some (.int .i64 (nwF f g)) := S_c.out.cell (i := 0) rfl
  have c_c_1 : w6.cell? ⟨w5.heap.size, 1, none⟩ = some (.int .i64 (nwF f g)) := S_c.out.cell (i := 1) rfl
  have c_c_2 : w6.cell? ⟨w5.heap.size, 2, none⟩ = some (.int .i64 (nwE f g)) := S_c.out.cell (i := 2) rfl
  have hq_ := bw_cell (w6.alloc (.cells #[.int .i64 (nwF f g), .int .i64 (nwF f g), .int .i64 (nwE f g)] 58))
  go_wp2_with fail
  refine wp_region_bw (by kernel_rfl) (by kernel_rfl) ?_
  repeat go_big_quiet_step (first | (go_at_call 48; exact calls_bw (right_any _ _ _ _)) | (go_at_call 34; exact calls_bw (has_any _ _ _ _ _)) | (go_at_call 49; exact calls_bw (rhas_any _ _ _ _ _)) | (go_at_call 36; exact calls_bw (used_any _ _ _ _)) | (go_at_call 35; exact calls_bw (room_any _ _ _ _)) | (go_at_call 50; exact calls_bw (empty_any _ _ _ _)))
  with_reducible refine wpQuiet_nil ?_
  rintro ⟨w7, hb⟩
  dsimp only
  clear hq_
  have N_s := Lib.hid (((S_s.out).alloc _).below hb (by first | assumption | (simp; done) | (simp; omega) | omega))
  have N_x := Lib.hid (((S_x.out).alloc _).below hb (by first | assumption | (simp; done) | (simp; omega) | omega))
  have N_m := Lib.hid (((S_m.out).alloc _).below hb (by first | assumption | (simp; done) | (simp; omega) | omega))
  have N_a := Lib.hid (((S_a.out).alloc _).below hb (by first | assumption | (simp; done) | (simp; omega) | omega))
  have N_b := Lib.hid (((S_b.out).alloc _).below hb (by first | assumption | (simp; done) | (simp; omega) | omega))
  have N_c := Lib.hid (((S_c.out).alloc _).below hb (by first | assumption | (simp; done) | (simp; omega) | omega))
  have N_d := Lib.hid ((Blk.new' (k := w6.heap.size) (by simp) #[.int .i64 (nwF f g), .int .i64 (nwF f g), .int .i64 (nwE f g)] 58).below hb (by first | assumption | (simp; done) | (simp; omega) | omega))
  have N_HB := Lib.hid ((HB_.out.alloc (by first | exact Nat.le_refl _ | assumption | (simp; done) | (simp; omega) | omega) _).trans (hb.mono (by first | exact Nat.le_refl _ | assumption | (simp; done) | (simp; omega) | omega)))
  clear hb S_s S_x S_m S_a S_b S_c hl_s c_s_0 c_s_1 c_s_2 hl_x c_x_0 c_x_1 c_x_2 hl_m c_m_0 c_m_1 c_m_2 hl_a c_a_0 c_a_1 c_a_2 hl_b c_b_0 c_b_1 c_b_2 hl_c c_c_0 c_c_1 c_c_2 HB_ hz_
  have S_s := Lib.hid N_s.out
  clear N_s
  have S_x := Lib.hid N_x.out
  clear N_x
  have S_m := Lib.hid N_m.out
  clear N_m
  have S_a := Lib.hid N_a.out
  clear N_a
  have S_b := Lib.hid N_b.out
  clear N_b
  have S_c := Lib.hid N_c.out
  clear N_c
  have S_d := Lib.hid N_d.out
  clear N_d
  have HB_ := Lib.hid N_HB.out
  clear N_HB
  have hz_ : w.heap.size ≤ w7.heap.size := HB_.out.size
  have hl_s : w.heap.size < w7.heap.size := S_s.out.lt
  have hl_x : w1.heap.size < w7.heap.size := S_x.out.lt
  have hl_m : w2.heap.size < w7.heap.size := S_m.out.lt
  have hl_a : w3.heap.size < w7.heap.size := S_a.out.lt
  have hl_b : w4.heap.size < w7.heap.size := S_b.out.lt
  have hl_c : w5.heap.size < w7.heap.size := S_c.out.lt
  have hl_d : w6.heap.size < w7.heap.size := S_d.out.lt
  go_wp2
  go_ret
  exact ⟨rfl, HB_.out⟩
theorem spaceTells_walk (w : World) (x : Int) (_ : (Lit.int .i64 x).wf = true) (y : Int) (_ : (Lit.int .i64 y).wf = true) (z : Int) (_ : (Lit.int .i64 z).wf = true) (p : Int) (_ : (Lit.int .i64 p).wf = true) (n : Int) (_ : (Lit.int .i64 n).wf = true) (f : Int) (_ : (Lit.int .i64 f).wf = true) (g : Int) (_ : (Lit.int .i64 g).wf = true) :
    Calls Try.prog 15 #[.agg #[.int .i64 x, .int .i64 y, .int .i64 z], .int .i64 p, .int .i64 n, .int .i64 f, .int .i64 g] w fun e w' => e = .returned (.bool true) ∧ Below w.heap.size w w' := by
  cases hr : rt x y z
  · exact tells_b w x y z p n f g hr
  · exact tells_a w x y z p n f g hr
end Go.Proofs.Ytlhbfeddgopfjaa
