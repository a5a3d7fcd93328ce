/-
  The walk of the law BitsNil: for every two ints it returns true, and memory below the heap's old size is unchanged, where the library's table lies. No other condition.
-/
import Derived.Test.YtdfpmgpdkajhkaaDoorBits6
namespace Go.Proofs.YtdfpmgpdkajhkaaDoor
open Go.RowKit
set_option maxRecDepth 100000 in
set_option maxHeartbeats 4000000 in
theorem bitsNil_walk (w : World) (a : Int) (_ : (Lit.int .i64 a).wf = true) (b : Int) (_ : (Lit.int .i64 b).wf = true) (hT : Tab w) : Calls Tryd.prog 10 #[.int .i64 a, .int .i64 b] w fun e w' => e = .returned (.bool true) ∧ Below w.heap.size w w' := by
  have HT := Lib.hid hT
  clear hT
  go_enter Tryd.func10, Tryd.ntmps10
  go_wp2_with fail
  refine (awake3_any HT.out).mono ?_
  rintro e w1 ⟨rfl, hB⟩
  have HB := Lib.hid hB
  clear hB
  go_wp2_with fail
  refine (wipe_nil _).mono ?_
  rintro e w2 ⟨rfl, rfl⟩
  have Z := Lib.hid (Blk.new w1 #[.slice none 0 0, .int .i64 0] 55)
  have c0 : (w1.alloc (.cells #[.slice none 0 0, .int .i64 0] 55)).cell? ⟨w1.heap.size, 0, none⟩ = some (.slice none 0 0) := Z.out.cell rfl
  have EZ : Hid (Emp (w1.alloc (.cells #[.slice none 0 0, .int .i64 0] 55)) (.pointer (some ⟨w1.heap.size, 0, none⟩))) := Lib.hid (.inr ⟨_, rfl, Z.out.cell rfl⟩)
  have EN : Hid (Emp (w1.alloc (.cells #[.slice none 0 0, .int .i64 0] 55)) (.pointer none)) := Lib.hid (.inl rfl)
  have C0 := Lib.hid c0
  clear c0
  go_wp2_with fail
  refine (wipe_zero C0.out).mono ?_
  rintro e w2 ⟨rfl, rfl⟩
  go_wp2_with fail
  refine (set_emp EN.out a).mono ?_
  rintro e w2 ⟨rfl, rfl⟩
  go_wp2_with fail
  refine (clear_emp EN.out a).mono ?_
  rintro e w2 ⟨rfl, rfl⟩
  go_wp2_with fail
  refine (has_emp EN.out a).mono ?_
  rintro e w2 ⟨rfl, rfl⟩
  go_wp2_with fail
  refine (next_emp EN.out a).mono ?_
  rintro e w2 ⟨rfl, rfl⟩
  go_wp2_with fail
  refine (between_emp EN.out a b).mono ?_
  rintro e w2 ⟨rfl, rfl⟩
  go_wp2_with fail
  refine (len_emp EN.out).mono ?_
  rintro e w2 ⟨rfl, rfl⟩
  go_wp2_with fail
  refine (count_emp EN.out).mono ?_
  rintro e w2 ⟨rfl, rfl⟩
  go_wp2_with fail
  refine (len_emp EZ.out).mono ?_
  rintro e w2 ⟨rfl, rfl⟩
  go_wp2_with fail
  refine (count_emp EZ.out).mono ?_
  rintro e w2 ⟨rfl, rfl⟩
  go_wp2_with fail
  refine (set_emp EZ.out a).mono ?_
  rintro e w2 ⟨rfl, rfl⟩
  go_wp2_with fail
  refine (has_emp EZ.out a).mono ?_
  rintro e w2 ⟨rfl, rfl⟩
  go_wp2_with fail
  refine (next_emp EZ.out a).mono ?_
  rintro e w2 ⟨rfl, rfl⟩
  go_wp2
  go_ret
  exact ⟨rfl, HB.out.alloc HB.out.size _⟩
end Go.Proofs.YtdfpmgpdkajhkaaDoor
