/-
  The walk of the law SpaceWrong: for every space of three ints and every int number of words it returns true, and memory below the heap's old size is unchanged. No condition.
-/
import Derived.Test.YtlhbfeddgopfjaaSpc
namespace Go.Proofs.Ytlhbfeddgopfjaa
open Go.RowKit
set_option maxHeartbeats 1000000 in
set_option maxRecDepth 100000 in
theorem wrong_a (w : World) (x y z n : Int) (hr : rt x y z = false) :
    Calls Try.prog 18 #[.agg #[.int .i64 x, .int .i64 y, .int .i64 z], .int .i64 n] w fun e w' => e = .returned (.bool true) ∧ Below w.heap.size w w' := by
  have g1 : rm x y z = 0 := by unfold rm; simp [hr]
  have g2 : us x y z = 0 := by unfold us; simp [hr]
  go_enter Try.func18, Try.ntmps18
  go_wp2_with fail
  refine (sawake_any _).mono ?_
  rintro e w1 ⟨rfl, hb1⟩
  have S1 := Lib.hid ((Blk.new w (sp3 x y z) 58).below hb1 (by simp))
  have HB1 := Lib.hid (((Below.refl w.heap.size w).alloc (Nat.le_refl _) _).trans (hb1.mono (by simp)))
  clear hb1
  have c0 := S1.out.cell (i := 0) rfl
  have c1 := S1.out.cell (i := 1) rfl
  have c2 := S1.out.cell (i := 2) rfl
  have hlt1 := S1.out.lt
  have hz1 := HB1.out.size
  go_wp2_with fail
  refine (take_arg _ _ _ _ _ (.inr hr)).mono ?_
  rintro e w2 ⟨rfl, hb2⟩
  have S2 := Lib.hid ((Blk.new w1 (sp3 x y z) 31).below hb2 (by simp))
  have HB2 := Lib.hid ((HB1.out.alloc hz1 _).trans (hb2.mono (by simp; omega)))
  clear hb2 c0 c1 c2 S1
  have c0 := S2.out.cell (i := 0) rfl
  have c1 := S2.out.cell (i := 1) rfl
  have c2 := S2.out.cell (i := 2) rfl
  have hlt2 := S2.out.lt
  have hz2 := HB2.out.size
  go_wp2_with fail
  refine (right_any _ _ _ _).mono ?_
  rintro e w3 ⟨rfl, hb3⟩
  have S3 := Lib.hid ((S2.out.alloc _).below hb3 (by simp; omega))
  have T3 := Lib.hid ((Blk.new w2 (sp3 0 0 0) 31).below hb3 (by simp))
  have HB3 := Lib.hid ((HB2.out.alloc hz2 _).trans (hb3.mono (by simp; omega)))
  clear hb3 c0 c1 c2 S2
  have c0 := S3.out.cell (i := 0) rfl
  have c1 := S3.out.cell (i := 1) rfl
  have c2 := S3.out.cell (i := 2) rfl
  have d0 := T3.out.cell (i := 0) rfl
  have d1 := T3.out.cell (i := 1) rfl
  have d2 := T3.out.cell (i := 2) rfl
  have hlt3 := S3.out.lt
  have hlu3 := T3.out.lt
  have hz3 := HB3.out.size
  have hq := bw_cell w3
  go_wp2_with fail
  refine wp_region_bw (by kernel_rfl) (by kernel_rfl) ?_
  repeat (first | go_big_quiet_step (first | (go_at_call 35; exact calls_bw (room_any _ _ _ _)) | (go_at_call 36; exact calls_bw (used_any _ _ _ _)) | (go_at_call 50; exact calls_bw (empty_no _ _ _ _ hr))) | quiet_step (first | (go_at_call 35; exact calls_bw (room_any _ _ _ _)) | (go_at_call 36; exact calls_bw (used_any _ _ _ _)) | (go_at_call 50; exact calls_bw (empty_no _ _ _ _ hr))))
  refine wpQuiet_nil ?_
  rintro ⟨w9, hb9⟩
  dsimp only
  go_wp2
  go_ret
  exact ⟨rfl, HB3.out.trans (hb9.mono hz3)⟩
set_option maxHeartbeats 1000000 in
set_option maxRecDepth 100000 in
theorem wrong_b (w : World) (x y z n : Int) (hr : rt x y z = true) (hn : n < 1) :
    Calls Try.prog 18 #[.agg #[.int .i64 x, .int .i64 y, .int .i64 z], .int .i64 n] w fun e w' => e = .returned (.bool true) ∧ Below w.heap.size w w' := by
  go_enter Try.func18, Try.ntmps18
  go_wp2_with fail
  refine (sawake_any _).mono ?_
  rintro e w1 ⟨rfl, hb1⟩
  have S1 := Lib.hid ((Blk.new w (sp3 x y z) 58).below hb1 (by simp))
  have HB1 := Lib.hid (((Below.refl w.heap.size w).alloc (Nat.le_refl _) _).trans (hb1.mono (by simp)))
  clear hb1
  have c0 := S1.out.cell (i := 0) rfl
  have c1 := S1.out.cell (i := 1) rfl
  have c2 := S1.out.cell (i := 2) rfl
  have hlt1 := S1.out.lt
  have hz1 := HB1.out.size
  go_wp2_with fail
  refine (take_arg _ _ _ _ _ (.inl hn)).mono ?_
  rintro e w2 ⟨rfl, hb2⟩
  have S2 := Lib.hid ((Blk.new w1 (sp3 x y z) 31).below hb2 (by simp))
  have HB2 := Lib.hid ((HB1.out.alloc hz1 _).trans (hb2.mono (by simp; omega)))
  clear hb2 c0 c1 c2 S1
  have c0 := S2.out.cell (i := 0) rfl
  have c1 := S2.out.cell (i := 1) rfl
  have c2 := S2.out.cell (i := 2) rfl
  have hlt2 := S2.out.lt
  have hz2 := HB2.out.size
  go_wp2_with fail
  refine (right_any _ _ _ _).mono ?_
  rintro e w3 ⟨rfl, hb3⟩
  have S3 := Lib.hid ((S2.out.alloc _).below hb3 (by simp; omega))
  have T3 := Lib.hid ((Blk.new w2 (sp3 0 0 0) 31).below hb3 (by simp))
  have HB3 := Lib.hid ((HB2.out.alloc hz2 _).trans (hb3.mono (by simp; omega)))
  clear hb3 c0 c1 c2 S2
  have c0 := S3.out.cell (i := 0) rfl
  have c1 := S3.out.cell (i := 1) rfl
  have c2 := S3.out.cell (i := 2) rfl
  have d0 := T3.out.cell (i := 0) rfl
  have d1 := T3.out.cell (i := 1) rfl
  have d2 := T3.out.cell (i := 2) rfl
  have hlt3 := S3.out.lt
  have hlu3 := T3.out.lt
  have hz3 := HB3.out.size
  go_wp2
  go_ret
  exact ⟨rfl, HB3.out⟩
set_option maxHeartbeats 1000000 in
set_option maxRecDepth 100000 in
theorem wrong_c (w : World) (x y z n : Int) (hr : rt x y z = true) (hn : 1 ≤ n) (hm : y + n ≤ z) :
    Calls Try.prog 18 #[.agg #[.int .i64 x, .int .i64 y, .int .i64 z], .int .i64 n] w fun e w' => e = .returned (.bool true) ∧ Below w.heap.size w w' := by
  obtain ⟨b0, b1, b2, b3⟩ := rt_true hr
  have g1 : rm x y z = z - y := by unfold rm; simp [hr]
  have g2 : us x y z = y - x := by unfold us; simp [hr]
  have hr2 : rt x (y + n) z = true := rt_yes b0 (by omega) hm b3
  have g3 : us x (y + n) z = y + n - x := by unfold us; simp [hr2]
  have p1 : n ≤ rm x y z := by omega
  have p2 : (us x (y + n) z == IntKind.i64.wrap (us x y z + n)) = true := by rw [g2, g3, IntWalk.i64_in _ (by omega)]; simp; omega
  have p2' : (us x (y + n) z == us x y z + n) = true := by rw [g2, g3]; simp; omega
  have p3 : 0 ≤ us x y z ∧ us x y z ≤ 4096 := by rw [g2]; omega
  obtain ⟨p3, p4⟩ := p3
  clear g1 g2 g3
  go_enter Try.func18, Try.ntmps18
  go_wp2_with fail
  refine (sawake_any _).mono ?_
  rintro e w1 ⟨rfl, hb1⟩
  have S1 := Lib.hid ((Blk.new w (sp3 x y z) 58).below hb1 (by simp))
  have HB1 := Lib.hid (((Below.refl w.heap.size w).alloc (Nat.le_refl _) _).trans (hb1.mono (by simp)))
  clear hb1
  have c0 := S1.out.cell (i := 0) rfl
  have c1 := S1.out.cell (i := 1) rfl
  have c2 := S1.out.cell (i := 2) rfl
  have hlt1 := S1.out.lt
  have hz1 := HB1.out.size
  go_wp2_with fail
  refine (take_ok _ _ _ _ _ b0 b1 b2 b3 hn hm).mono ?_
  rintro e w2 ⟨rfl, hb2⟩
  have S2 := Lib.hid ((Blk.new w1 (sp3 x y z) 31).below hb2 (by simp))
  have HB2 := Lib.hid ((HB1.out.alloc hz1 _).trans (hb2.mono (by simp; omega)))
  clear hb2 c0 c1 c2 S1
  have c0 := S2.out.cell (i := 0) rfl
  have c1 := S2.out.cell (i := 1) rfl
  have c2 := S2.out.cell (i := 2) rfl
  have hlt2 := S2.out.lt
  have hz2 := HB2.out.size
  go_wp2_with fail
  refine (right_any _ _ _ _).mono ?_
  rintro e w3 ⟨rfl, hb3⟩
  have S3 := Lib.hid ((S2.out.alloc _).below hb3 (by simp; omega))
  have T3 := Lib.hid ((Blk.new w2 (sp3 x (y + n) z) 31).below hb3 (by simp))
  have HB3 := Lib.hid ((HB2.out.alloc hz2 _).trans (hb3.mono (by simp; omega)))
  clear hb3 c0 c1 c2 S2
  have c0 := S3.out.cell (i := 0) rfl
  have c1 := S3.out.cell (i := 1) rfl
  have c2 := S3.out.cell (i := 2) rfl
  have d0 := T3.out.cell (i := 0) rfl
  have d1 := T3.out.cell (i := 1) rfl
  have d2 := T3.out.cell (i := 2) rfl
  have hlt3 := S3.out.lt
  have hlu3 := T3.out.lt
  have hz3 := HB3.out.size
  have hq := bw_cell w3
  go_wp2_with fail
  refine wp_region_bw (by kernel_rfl) (by kernel_rfl) ?_
  repeat (first | go_big_quiet_step (first | (go_at_call 35; exact calls_bw (room_any _ _ _ _)) | (go_at_call 36; exact calls_bw (used_any _ _ _ _)) | (go_at_call 48; exact calls_bw (right_any _ _ _ _))) | quiet_step (first | (go_at_call 35; exact calls_bw (room_any _ _ _ _)) | (go_at_call 36; exact calls_bw (used_any _ _ _ _)) | (go_at_call 48; exact calls_bw (right_any _ _ _ _))))
  refine wpQuiet_nil ?_
  rintro ⟨w9, hb9⟩
  dsimp only
  go_wp2
  go_ret
  exact ⟨rfl, HB3.out.trans (hb9.mono hz3)⟩
set_option maxHeartbeats 1000000 in
set_option maxRecDepth 100000 in
theorem wrong_d (w : World) (x y z n : Int) (hr : rt x y z = true) (hn : 1 ≤ n) (hm : z < y + n) :
    Calls Try.prog 18 #[.agg #[.int .i64 x, .int .i64 y, .int .i64 z], .int .i64 n] w fun e w' => e = .returned (.bool true) ∧ Below w.heap.size w w' := by
  have g1 : rm x y z = z - y := by unfold rm; simp [hr]
  have p1 : rm x y z < n := by omega
  clear g1
  go_enter Try.func18, Try.ntmps18
  go_wp2_with fail
  refine (sawake_any _).mono ?_
  rintro e w1 ⟨rfl, hb1⟩
  have S1 := Lib.hid ((Blk.new w (sp3 x y z) 58).below hb1 (by simp))
  have HB1 := Lib.hid (((Below.refl w.heap.size w).alloc (Nat.le_refl _) _).trans (hb1.mono (by simp)))
  clear hb1
  have c0 := S1.out.cell (i := 0) rfl
  have c1 := S1.out.cell (i := 1) rfl
  have c2 := S1.out.cell (i := 2) rfl
  have hlt1 := S1.out.lt
  have hz1 := HB1.out.size
  go_wp2_with fail
  refine (take_full _ _ _ _ _ hn hr hm).mono ?_
  rintro e w2 ⟨rfl, hb2⟩
  have S2 := Lib.hid ((Blk.new w1 (sp3 x y z) 31).below hb2 (by simp))
  have HB2 := Lib.hid ((HB1.out.alloc hz1 _).trans (hb2.mono (by simp; omega)))
  clear hb2 c0 c1 c2 S1
  have c0 := S2.out.cell (i := 0) rfl
  have c1 := S2.out.cell (i := 1) rfl
  have c2 := S2.out.cell (i := 2) rfl
  have hlt2 := S2.out.lt
  have hz2 := HB2.out.size
  go_wp2_with fail
  refine (right_any _ _ _ _).mono ?_
  rintro e w3 ⟨rfl, hb3⟩
  have S3 := Lib.hid ((S2.out.alloc _).below hb3 (by simp; omega))
  have T3 := Lib.hid ((Blk.new w2 (sp3 0 0 0) 31).below hb3 (by simp))
  have HB3 := Lib.hid ((HB2.out.alloc hz2 _).trans (hb3.mono (by simp; omega)))
  clear hb3 c0 c1 c2 S2
  have c0 := S3.out.cell (i := 0) rfl
  have c1 := S3.out.cell (i := 1) rfl
  have c2 := S3.out.cell (i := 2) rfl
  have d0 := T3.out.cell (i := 0) rfl
  have d1 := T3.out.cell (i := 1) rfl
  have d2 := T3.out.cell (i := 2) rfl
  have hlt3 := S3.out.lt
  have hlu3 := T3.out.lt
  have hz3 := HB3.out.size
  have hq := bw_cell w3
  go_wp2_with fail
  refine wp_region_bw (by kernel_rfl) (by kernel_rfl) ?_
  repeat (first | go_big_quiet_step (first | (go_at_call 35; exact calls_bw (room_any _ _ _ _)) | (go_at_call 36; exact calls_bw (used_any _ _ _ _)) | (go_at_call 48; exact calls_bw (right_any _ _ _ _))) | quiet_step (first | (go_at_call 35; exact calls_bw (room_any _ _ _ _)) | (go_at_call 36; exact calls_bw (used_any _ _ _ _)) | (go_at_call 48; exact calls_bw (right_any _ _ _ _))))
  refine wpQuiet_nil ?_
  rintro ⟨w9, hb9⟩
  dsimp only
  go_wp2
  go_ret
  exact ⟨ret_bool' (by simp; omega), HB3.out.trans (hb9.mono hz3)⟩
theorem spaceWrong_walk (w : World) (x : Int) (_ : (Lit.int .i64 x).wf = true) (y : Int) (_ : (Lit.int .i64 y).wf = true) (z : Int) (_ : (Lit.int .i64 z).wf = true) (n : Int) (_ : (Lit.int .i64 n).wf = true) :
    Calls Try.prog 18 #[.agg #[.int .i64 x, .int .i64 y, .int .i64 z], .int .i64 n] w fun e w' => e = .returned (.bool true) ∧ Below w.heap.size w w' := by
  cases hr : rt x y z
  · exact wrong_a w x y z n hr
  · by_cases hn : n < 1
    · exact wrong_b w x y z n hr hn
    · by_cases hm : y + n ≤ z
      · exact wrong_c w x y z n hr (by omega) hm
      · exact wrong_d w x y z n hr (by omega) (by omega)
end Go.Proofs.Ytlhbfeddgopfjaa
