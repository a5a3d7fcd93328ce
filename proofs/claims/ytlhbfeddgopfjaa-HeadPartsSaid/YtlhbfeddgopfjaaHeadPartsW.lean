/-
  The walk of the law HeadParts: for every head and every three ints it returns true, and memory below the heap's old size is unchanged. No condition.
-/
import Derived.Test.YtlhbfeddgopfjaaHde
import Derived.Test.YtlhbfeddgopfjaaHeadBackW
namespace Go.Proofs.Ytlhbfeddgopfjaa
open Go.RowKit
set_option maxHeartbeats 2000000 in
set_option maxRecDepth 100000 in
theorem hparts_no (w : World) (c a f : Int) (m i d : Bool) (x y z : Int) (h : hr c a f i d = false) :
    Calls Try.prog 12 #[.agg #[.int .i64 c, .int .i64 a, .int .i64 f, .bool m, .bool i, .bool d], .int .i64 x, .int .i64 y, .int .i64 z] w fun x w' => x = .returned (.bool true) ∧ Below w.heap.size w w' := by
  go_enter Try.func12, Try.ntmps12
  go_wp2_with fail
  refine (hawake_any _).mono ?_
  rintro e w1 ⟨rfl, hb⟩
  have N_s := Lib.hid ((Blk.new' (k := w.heap.size) (by simp) #[.int .i64 c, .int .i64 a, .int .i64 f, .bool m, .bool i, .bool d] 41).below hb (by first | assumption | (simp; done) | (simp; omega) | omega))
  have N_HB := Lib.hid (((Below.refl w.heap.size w).alloc (by first | exact Nat.le_refl _ | assumption | (simp; done) | (simp; omega) | omega) _).trans (hb.mono (by first | exact Nat.le_refl _ | assumption | (simp; done) | (simp; omega) | omega)))
  clear hb
  have S_s := Lib.hid N_s.out
  clear N_s
  have HB_ := Lib.hid N_HB.out
  clear N_HB
  have hz_ : w.heap.size ≤ w1.heap.size := HB_.out.size
  have hl_s : w.heap.size < w1.heap.size := S_s.out.lt
  have c_s_0 : w1.cell? ⟨w.heap.size, 0, none⟩ = some (.int .i64 c) := S_s.out.cell (i := 0) rfl
  have c_s_1 : w1.cell? ⟨w.heap.size, 1, none⟩ = some (.int .i64 a) := S_s.out.cell (i := 1) rfl
  have c_s_2 : w1.cell? ⟨w.heap.size, 2, none⟩ = some (.int .i64 f) := S_s.out.cell (i := 2) rfl
  have c_s_3 : w1.cell? ⟨w.heap.size, 3, none⟩ = some (.bool m) := S_s.out.cell (i := 3) rfl
  have c_s_4 : w1.cell? ⟨w.heap.size, 4, none⟩ = some (.bool i) := S_s.out.cell (i := 4) rfl
  have c_s_5 : w1.cell? ⟨w.heap.size, 5, none⟩ = some (.bool d) := S_s.out.cell (i := 5) rfl
  go_wp2_with fail
  refine (rhright_any _ _ _ _ _ _ _).mono ?_
  rintro e w2 ⟨rfl, hb⟩
  have N_s := Lib.hid ((S_s.out).below hb (by first | assumption | (simp; done) | (simp; omega) | omega))
  have N_HB := Lib.hid (HB_.out.trans (hb.mono (by first | exact Nat.le_refl _ | assumption | (simp; done) | (simp; omega) | omega)))
  clear hb S_s hl_s c_s_0 c_s_1 c_s_2 c_s_3 c_s_4 c_s_5 HB_ hz_
  have S_s := Lib.hid N_s.out
  clear N_s
  have HB_ := Lib.hid N_HB.out
  clear N_HB
  have hz_ : w.heap.size ≤ w2.heap.size := HB_.out.size
  have hl_s : w.heap.size < w2.heap.size := S_s.out.lt
  have c_s_0 : w2.cell? ⟨w.heap.size, 0, none⟩ = some (.int .i64 c) := S_s.out.cell (i := 0) rfl
  have c_s_1 : w2.cell? ⟨w.heap.size, 1, none⟩ = some (.int .i64 a) := S_s.out.cell (i := 1) rfl
  have c_s_2 : w2.cell? ⟨w.heap.size, 2, none⟩ = some (.int .i64 f) := S_s.out.cell (i := 2) rfl
  have c_s_3 : w2.cell? ⟨w.heap.size, 3, none⟩ = some (.bool m) := S_s.out.cell (i := 3) rfl
  have c_s_4 : w2.cell? ⟨w.heap.size, 4, none⟩ = some (.bool i) := S_s.out.cell (i := 4) rfl
  have c_s_5 : w2.cell? ⟨w.heap.size, 5, none⟩ = some (.bool d) := S_s.out.cell (i := 5) rfl
  go_wp2_with fail
  refine (hawake_any _).mono ?_
  rintro e w3 ⟨rfl, hb⟩
  have N_s := Lib.hid ((S_s.out).below hb (by first | assumption | (simp; done) | (simp; omega) | omega))
  have N_HB := Lib.hid (HB_.out.trans (hb.mono (by first | exact Nat.le_refl _ | assumption | (simp; done) | (simp; omega) | omega)))
  clear hb S_s hl_s c_s_0 c_s_1 c_s_2 c_s_3 c_s_4 c_s_5 HB_ hz_
  have S_s := Lib.hid N_s.out
  clear N_s
  have HB_ := Lib.hid N_HB.out
  clear N_HB
  have hz_ : w.heap.size ≤ w3.heap.size := HB_.out.size
  have hl_s : w.heap.size < w3.heap.size := S_s.out.lt
  have c_s_0 : w3.cell? ⟨w.heap.size, 0, none⟩ = some (.int .i64 c) := S_s.out.cell (i := 0) rfl
  have c_s_1 : w3.cell? ⟨w.heap.size, 1, none⟩ = some (.int .i64 a) := S_s.out.cell (i := 1) rfl
  have c_s_2 : w3.cell? ⟨w.heap.size, 2, none⟩ = some (.int .i64 f) := S_s.out.cell (i := 2) rfl
  have c_s_3 : w3.cell? ⟨w.heap.size, 3, none⟩ = some (.bool m) := S_s.out.cell (i := 3) rfl
  have c_s_4 : w3.cell? ⟨w.heap.size, 4, none⟩ = some (.bool i) := S_s.out.cell (i := 4) rfl
  have c_s_5 : w3.cell? ⟨w.heap.size, 5, none⟩ = some (.bool d) := S_s.out.cell (i := 5) rfl
  go_wp2
  go_ret
  exact ⟨rfl, HB_.out⟩
set_option linter.unusedVariables false in
set_option maxHeartbeats 4000000 in
set_option maxRecDepth 100000 in
theorem hparts_yes (w : World) (c a f : Int) (m i d : Bool) (x y z : Int) (h : hr c a f i d = true) :
    Calls Try.prog 12 #[.agg #[.int .i64 c, .int .i64 a, .int .i64 f, .bool m, .bool i, .bool d], .int .i64 x, .int .i64 y, .int .i64 z] w fun x w' => x = .returned (.bool true) ∧ Below w.heap.size w w' := by
  go_enter Try.func12, Try.ntmps12
  go_wp2_with fail
  refine (hawake_any _).mono ?_
  rintro e w1 ⟨rfl, hb⟩
  have N_s := Lib.hid ((Blk.new' (k := w.heap.size) (by simp) #[.int .i64 c, .int .i64 a, .int .i64 f, .bool m, .bool i, .bool d] 41).below hb (by first | assumption | (simp; done) | (simp; omega) | omega))
  have N_HB := Lib.hid (((Below.refl w.heap.size w).alloc (by first | exact Nat.le_refl _ | assumption | (simp; done) | (simp; omega) | omega) _).trans (hb.mono (by first | exact Nat.le_refl _ | assumption | (simp; done) | (simp; omega) | omega)))
  clear hb
  have S_s := Lib.hid N_s.out
  clear N_s
  have HB_ := Lib.hid N_HB.out
  clear N_HB
  have hz_ : w.heap.size ≤ w1.heap.size := HB_.out.size
  have hl_s : w.heap.size < w1.heap.size := S_s.out.lt
  have c_s_0 : w1.cell? ⟨w.heap.size, 0, none⟩ = some (.int .i64 c) := S_s.out.cell (i := 0) rfl
  have c_s_1 : w1.cell? ⟨w.heap.size, 1, none⟩ = some (.int .i64 a) := S_s.out.cell (i := 1) rfl
  have c_s_2 : w1.cell? ⟨w.heap.size, 2, none⟩ = some (.int .i64 f) := S_s.out.cell (i := 2) rfl
  have c_s_3 : w1.cell? ⟨w.heap.size, 3, none⟩ = some (.bool m) := S_s.out.cell (i := 3) rfl
  have c_s_4 : w1.cell? ⟨w.heap.size, 4, none⟩ = some (.bool i) := S_s.out.cell (i := 4) rfl
  have c_s_5 : w1.cell? ⟨w.heap.size, 5, none⟩ = some (.bool d) := S_s.out.cell (i := 5) rfl
  go_wp2_with fail
  refine (rhright_any _ _ _ _ _ _ _).mono ?_
  rintro e w2 ⟨rfl, hb⟩
  have N_s := Lib.hid ((S_s.out).below hb (by first | assumption | (simp; done) | (simp; omega) | omega))
  have N_HB := Lib.hid (HB_.out.trans (hb.mono (by first | exact Nat.le_refl _ | assumption | (simp; done) | (simp; omega) | omega)))
  clear hb S_s hl_s c_s_0 c_s_1 c_s_2 c_s_3 c_s_4 c_s_5 HB_ hz_
  have S_s := Lib.hid N_s.out
  clear N_s
  have HB_ := Lib.hid N_HB.out
  clear N_HB
  have hz_ : w.heap.size ≤ w2.heap.size := HB_.out.size
  have hl_s : w.heap.size < w2.heap.size := S_s.out.lt
  have c_s_0 : w2.cell? ⟨w.heap.size, 0, none⟩ = some (.int .i64 c) := S_s.out.cell (i := 0) rfl
  have c_s_1 : w2.cell? ⟨w.heap.size, 1, none⟩ = some (.int .i64 a) := S_s.out.cell (i := 1) rfl
  have c_s_2 : w2.cell? ⟨w.heap.size, 2, none⟩ = some (.int .i64 f) := S_s.out.cell (i := 2) rfl
  have c_s_3 : w2.cell? ⟨w.heap.size, 3, none⟩ = some (.bool m) := S_s.out.cell (i := 3) rfl
  have c_s_4 : w2.cell? ⟨w.heap.size, 4, none⟩ = some (.bool i) := S_s.out.cell (i := 4) rfl
  have c_s_5 : w2.cell? ⟨w.heap.size, 5, none⟩ = some (.bool d) := S_s.out.cell (i := 5) rfl
  go_wp2_with fail
  refine (word_yes _ _ _ _ _ _ _ h).mono ?_
  rintro e w3 ⟨rfl, hb⟩
  have N_s := Lib.hid (((S_s.out).alloc _).below hb (by first | assumption | (simp; done) | (simp; omega) | omega))
  have N_x := Lib.hid ((Blk.new' (k := w2.heap.size) (by simp) #[.int .i64 c, .int .i64 a, .int .i64 f, .bool m, .bool i, .bool d] 42).below hb (by first | assumption | (simp; done) | (simp; omega) | omega))
  have N_HB := Lib.hid ((HB_.out.alloc (by first | exact Nat.le_refl _ | assumption | (simp; done) | (simp; omega) | omega) _).trans (hb.mono (by first | exact Nat.le_refl _ | assumption | (simp; done) | (simp; omega) | omega)))
  clear hb S_s hl_s c_s_0 c_s_1 c_s_2 c_s_3 c_s_4 c_s_5 HB_ hz_
  have S_s := Lib.hid N_s.out
  clear N_s
  have S_x := Lib.hid N_x.out
  clear N_x
  have HB_ := Lib.hid N_HB.out
  clear N_HB
  have hz_ : w.heap.size ≤ w3.heap.size := HB_.out.size
  have hl_s : w.heap.size < w3.heap.size := S_s.out.lt
  have c_s_0 : w3.cell? ⟨w.heap.size, 0, none⟩ = some (.int .i64 c) := S_s.out.cell (i := 0) rfl
  have c_s_1 : w3.cell? ⟨w.heap.size, 1, none⟩ = some (.int .i64 a) := S_s.out.cell (i := 1) rfl
  have c_s_2 : w3.cell? ⟨w.heap.size, 2, none⟩ = some (.int .i64 f) := S_s.out.cell (i := 2) rfl
  have c_s_3 : w3.cell? ⟨w.heap.size, 3, none⟩ = some (.bool m) := S_s.out.cell (i := 3) rfl
  have c_s_4 : w3.cell? ⟨w.heap.size, 4, none⟩ = some (.bool i) := S_s.out.cell (i := 4) rfl
  have c_s_5 : w3.cell? ⟨w.heap.size, 5, none⟩ = some (.bool d) := S_s.out.cell (i := 5) rfl
  have hl_x : w2.heap.size < w3.heap.size := S_x.out.lt
  have c_x_0 : w3.cell? ⟨w2.heap.size, 0, none⟩ = some (.int .i64 c) := S_x.out.cell (i := 0) rfl
  have c_x_1 : w3.cell? ⟨w2.heap.size, 1, none⟩ = some (.int .i64 a) := S_x.out.cell (i := 1) rfl
  have c_x_2 : w3.cell? ⟨w2.heap.size, 2, none⟩ = some (.int .i64 f) := S_x.out.cell (i := 2) rfl
  have c_x_3 : w3.cell? ⟨w2.heap.size, 3, none⟩ = some (.bool m) := S_x.out.cell (i := 3) rfl
  have c_x_4 : w3.cell? ⟨w2.heap.size, 4, none⟩ = some (.bool i) := S_x.out.cell (i := 4) rfl
  have c_x_5 : w3.cell? ⟨w2.heap.size, 5, none⟩ = some (.bool d) := S_x.out.cell (i := 5) rfl
  go_wp2_with fail
  go_region
  go_wp2
  go_loopw [55] (fun u wr => ∃ k : Nat, k ≤ 4 ∧ u = .int .i64 k ∧ Hid (Blk wr w3.heap.size #[.int .i64 x, .int .i64 a, .int .i64 f, .bool m, .bool i, .bool d, .int .i64 c, .int .i64 y, .int .i64 f, .bool m, .bool i, .bool d, .int .i64 c, .int .i64 a, .int .i64 z, .bool m, .bool i, .bool d, .int .i64 c, .int .i64 a, .int .i64 f, .bool (!m), .bool i, .bool d] 42) ∧ Hid (Blk wr w2.heap.size #[.int .i64 c, .int .i64 a, .int .i64 f, .bool m, .bool i, .bool d] 42) ∧ Hid (Below w.heap.size w wr))
    (fun u _ => 4 - (intOf u).toNat)
  case atStart =>
    exact ⟨0, by omega, rfl, Lib.hid (Blk.drew (Blk.new w3 _ 42)), Lib.hid (Blk.drew (S_x.out.alloc _)), Lib.hid (HB_.out.alloc hz_ _).drew⟩
  case round =>
    clear HB_ S_x S_s c_s_0 c_s_1 c_s_2 c_s_3 c_s_4 c_s_5 c_x_0 c_x_1 c_x_2 c_x_3 c_x_4 c_x_5
    obtain ⟨k, hk, rfl, hL, hX, hB⟩ := hrel
    have ll := hL.out.lt
    have lx := hX.out.lt
    by_cases k4 : k = 4
    · subst k4
      go_wp2
      go_ret
      exact ⟨rfl, hB.out⟩
    · by_cases kk : k = 0
      · subst kk
        have l0 := hL.out.cell (i := 0) rfl
        have l1 := hL.out.cell (i := 1) rfl
        have l2 := hL.out.cell (i := 2) rfl
        have l3 := hL.out.cell (i := 3) rfl
        have l4 := hL.out.cell (i := 4) rfl
        have l5 := hL.out.cell (i := 5) rfl
        have x0 := hX.out.cell (i := 0) rfl
        have x1 := hX.out.cell (i := 1) rfl
        have x2 := hX.out.cell (i := 2) rfl
        have x3 := hX.out.cell (i := 3) rfl
        have x4 := hX.out.cell (i := 4) rfl
        have x5 := hX.out.cell (i := 5) rfl
        cases g : hr x a f i d
        · skip
          go_wp2_with fail
          refine (word_no _ _ _ _ _ _ _ g).mono ?_
          rintro e w4 ⟨rfl, hb⟩
          have L4 := Lib.hid (hL.out.below hb ll)
          have X4 := Lib.hid (hX.out.below hb lx)
          have B4 := Lib.hid (hB.out.trans (hb.mono hB.out.size))
          clear l0 l1 l2 l3 l4 l5 x0 x1 x2 x3 x4 x5 hb hL hX hB
          have l0 := L4.out.cell (i := 0) rfl
          have l1 := L4.out.cell (i := 1) rfl
          have l2 := L4.out.cell (i := 2) rfl
          have l3 := L4.out.cell (i := 3) rfl
          have l4 := L4.out.cell (i := 4) rfl
          have l5 := L4.out.cell (i := 5) rfl
          have x0 := X4.out.cell (i := 0) rfl
          have x1 := X4.out.cell (i := 1) rfl
          have x2 := X4.out.cell (i := 2) rfl
          have x3 := X4.out.cell (i := 3) rfl
          have x4 := X4.out.cell (i := 4) rfl
          have x5 := X4.out.cell (i := 5) rfl
          have ll4 := L4.out.lt
          have lx4 := X4.out.lt
          have hq_ := bw_cell w4
          go_wp2_with fail
          refine wp_region_bw (by kernel_rfl) (by kernel_rfl) ?_
          repeat go_big_quiet_step ((go_at_call 40; exact calls_bw (hright_any _ _ _ _ _ _ _)))
          with_reducible refine wpQuiet_nil ?_
          rintro ⟨w5, hb⟩
          dsimp only
          clear hq_
          have L5 := Lib.hid (L4.out.below hb ll4)
          have X5 := Lib.hid (X4.out.below hb lx4)
          have B5 := Lib.hid (B4.out.trans (hb.mono B4.out.size))
          clear l0 l1 l2 l3 l4 l5 x0 x1 x2 x3 x4 x5 hb L4 X4 B4
          go_wp2
          go_roundw
          case rel => exact ⟨1, by omega, by go_num, L5, X5, B5⟩
          case measure => simp [intOf]
        · by_cases ee : x = c
          · subst ee
            go_wp2_with fail
            refine (word_yes _ _ _ _ _ _ _ g).mono ?_
            rintro e w4 ⟨rfl, hb⟩
            have L4 := Lib.hid (hL.out.below hb ll)
            have X4 := Lib.hid (hX.out.below hb lx)
            have B4 := Lib.hid (hB.out.trans (hb.mono hB.out.size))
            clear l0 l1 l2 l3 l4 l5 x0 x1 x2 x3 x4 x5 hb hL hX hB
            have l0 := L4.out.cell (i := 0) rfl
            have l1 := L4.out.cell (i := 1) rfl
            have l2 := L4.out.cell (i := 2) rfl
            have l3 := L4.out.cell (i := 3) rfl
            have l4 := L4.out.cell (i := 4) rfl
            have l5 := L4.out.cell (i := 5) rfl
            have x0 := X4.out.cell (i := 0) rfl
            have x1 := X4.out.cell (i := 1) rfl
            have x2 := X4.out.cell (i := 2) rfl
            have x3 := X4.out.cell (i := 3) rfl
            have x4 := X4.out.cell (i := 4) rfl
            have x5 := X4.out.cell (i := 5) rfl
            have ll4 := L4.out.lt
            have lx4 := X4.out.lt
            have hq_ := bw_cell w4
            go_wp2_with fail
            refine wp_region_bw (by kernel_rfl) (by kernel_rfl) ?_
            repeat go_big_quiet_step ((go_at_call 40; exact calls_bw (hright_any _ _ _ _ _ _ _)))
            with_reducible refine wpQuiet_nil ?_
            rintro ⟨w5, hb⟩
            dsimp only
            clear hq_
            have L5 := Lib.hid (L4.out.below hb ll4)
            have X5 := Lib.hid (X4.out.below hb lx4)
            have B5 := Lib.hid (B4.out.trans (hb.mono B4.out.size))
            clear l0 l1 l2 l3 l4 l5 x0 x1 x2 x3 x4 x5 hb L4 X4 B4
            go_wp2
            go_roundw
            case rel => exact ⟨1, by omega, by go_num, L5, X5, B5⟩
            case measure => simp [intOf]
          · have q1 : (wd x a f m i d == wd c a f m i d) = false := beq_eq_false_iff_ne.2 (fun e => ee (wd_inj g h e).1)
            have q2 : (x == c) = false := beq_eq_false_iff_ne.2 ee
            go_wp2_with fail
            refine (word_yes _ _ _ _ _ _ _ g).mono ?_
            rintro e w4 ⟨rfl, hb⟩
            have L4 := Lib.hid (hL.out.below hb ll)
            have X4 := Lib.hid (hX.out.below hb lx)
            have B4 := Lib.hid (hB.out.trans (hb.mono hB.out.size))
            clear l0 l1 l2 l3 l4 l5 x0 x1 x2 x3 x4 x5 hb hL hX hB
            have l0 := L4.out.cell (i := 0) rfl
            have l1 := L4.out.cell (i := 1) rfl
            have l2 := L4.out.cell (i := 2) rfl
            have l3 := L4.out.cell (i := 3) rfl
            have l4 := L4.out.cell (i := 4) rfl
            have l5 := L4.out.cell (i := 5) rfl
            have x0 := X4.out.cell (i := 0) rfl
            have x1 := X4.out.cell (i := 1) rfl
            have x2 := X4.out.cell (i := 2) rfl
            have x3 := X4.out.cell (i := 3) rfl
            have x4 := X4.out.cell (i := 4) rfl
            have x5 := X4.out.cell (i := 5) rfl
            have ll4 := L4.out.lt
            have lx4 := X4.out.lt
            have hq_ := bw_cell w4
            go_wp2_with fail
            refine wp_region_bw (by kernel_rfl) (by kernel_rfl) ?_
            repeat go_big_quiet_step ((go_at_call 40; exact calls_bw (hright_any _ _ _ _ _ _ _)))
            with_reducible refine wpQuiet_nil ?_
            rintro ⟨w5, hb⟩
            dsimp only
            clear hq_
            have L5 := Lib.hid (L4.out.below hb ll4)
            have X5 := Lib.hid (X4.out.below hb lx4)
            have B5 := Lib.hid (B4.out.trans (hb.mono B4.out.size))
            clear l0 l1 l2 l3 l4 l5 x0 x1 x2 x3 x4 x5 hb L4 X4 B4
            go_wp2
            go_roundw
            case rel => exact ⟨1, by omega, by go_num, L5, X5, B5⟩
            case measure => simp [intOf]
      · by_cases kk : k = 1
        · subst kk
          have l0 := hL.out.cell (i := 6) rfl
          have l1 := hL.out.cell (i := 7) rfl
          have l2 := hL.out.cell (i := 8) rfl
          have l3 := hL.out.cell (i := 9) rfl
          have l4 := hL.out.cell (i := 10) rfl
          have l5 := hL.out.cell (i := 11) rfl
          have x0 := hX.out.cell (i := 0) rfl
          have x1 := hX.out.cell (i := 1) rfl
          have x2 := hX.out.cell (i := 2) rfl
          have x3 := hX.out.cell (i := 3) rfl
          have x4 := hX.out.cell (i := 4) rfl
          have x5 := hX.out.cell (i := 5) rfl
          cases g : hr c y f i d
          · skip
            go_wp2_with fail
            refine (word_no _ _ _ _ _ _ _ g).mono ?_
            rintro e w4 ⟨rfl, hb⟩
            have L4 := Lib.hid (hL.out.below hb ll)
            have X4 := Lib.hid (hX.out.below hb lx)
            have B4 := Lib.hid (hB.out.trans (hb.mono hB.out.size))
            clear l0 l1 l2 l3 l4 l5 x0 x1 x2 x3 x4 x5 hb hL hX hB
            have l0 := L4.out.cell (i := 6) rfl
            have l1 := L4.out.cell (i := 7) rfl
            have l2 := L4.out.cell (i := 8) rfl
            have l3 := L4.out.cell (i := 9) rfl
            have l4 := L4.out.cell (i := 10) rfl
            have l5 := L4.out.cell (i := 11) rfl
            have x0 := X4.out.cell (i := 0) rfl
            have x1 := X4.out.cell (i := 1) rfl
            have x2 := X4.out.cell (i := 2) rfl
            have x3 := X4.out.cell (i := 3) rfl
            have x4 := X4.out.cell (i := 4) rfl
            have x5 := X4.out.cell (i := 5) rfl
            have ll4 := L4.out.lt
            have lx4 := X4.out.lt
            have hq_ := bw_cell w4
            go_wp2_with fail
            refine wp_region_bw (by kernel_rfl) (by kernel_rfl) ?_
            repeat go_big_quiet_step ((go_at_call 40; exact calls_bw (hright_any _ _ _ _ _ _ _)))
            with_reducible refine wpQuiet_nil ?_
            rintro ⟨w5, hb⟩
            dsimp only
            clear hq_
            have L5 := Lib.hid (L4.out.below hb ll4)
            have X5 := Lib.hid (X4.out.below hb lx4)
            have B5 := Lib.hid (B4.out.trans (hb.mono B4.out.size))
            clear l0 l1 l2 l3 l4 l5 x0 x1 x2 x3 x4 x5 hb L4 X4 B4
            go_wp2
            go_roundw
            case rel => exact ⟨2, by omega, by go_num, L5, X5, B5⟩
            case measure => simp [intOf]
          · by_cases ee : y = a
            · subst ee
              go_wp2_with fail
              refine (word_yes _ _ _ _ _ _ _ g).mono ?_
              rintro e w4 ⟨rfl, hb⟩
              have L4 := Lib.hid (hL.out.below hb ll)
              have X4 := Lib.hid (hX.out.below hb lx)
              have B4 := Lib.hid (hB.out.trans (hb.mono hB.out.size))
              clear l0 l1 l2 l3 l4 l5 x0 x1 x2 x3 x4 x5 hb hL hX hB
              have l0 := L4.out.cell (i := 6) rfl
              have l1 := L4.out.cell (i := 7) rfl
              have l2 := L4.out.cell (i := 8) rfl
              have l3 := L4.out.cell (i := 9) rfl
              have l4 := L4.out.cell (i := 10) rfl
              have l5 := L4.out.cell (i := 11) rfl
              have x0 := X4.out.cell (i := 0) rfl
              have x1 := X4.out.cell (i := 1) rfl
              have x2 := X4.out.cell (i := 2) rfl
              have x3 := X4.out.cell (i := 3) rfl
              have x4 := X4.out.cell (i := 4) rfl
              have x5 := X4.out.cell (i := 5) rfl
              have ll4 := L4.out.lt
              have lx4 := X4.out.lt
              have hq_ := bw_cell w4
              go_wp2_with fail
              refine wp_region_bw (by kernel_rfl) (by kernel_rfl) ?_
              repeat go_big_quiet_step ((go_at_call 40; exact calls_bw (hright_any _ _ _ _ _ _ _)))
              with_reducible refine wpQuiet_nil ?_
              rintro ⟨w5, hb⟩
              dsimp only
              clear hq_
              have L5 := Lib.hid (L4.out.below hb ll4)
              have X5 := Lib.hid (X4.out.below hb lx4)
              have B5 := Lib.hid (B4.out.trans (hb.mono B4.out.size))
              clear l0 l1 l2 l3 l4 l5 x0 x1 x2 x3 x4 x5 hb L4 X4 B4
              go_wp2
              go_roundw
              case rel => exact ⟨2, by omega, by go_num, L5, X5, B5⟩
              case measure => simp [intOf]
            · have q1 : (wd c y f m i d == wd c a f m i d) = false := beq_eq_false_iff_ne.2 (fun e => ee (wd_inj g h e).2.1)
              have q2 : (y == a) = false := beq_eq_false_iff_ne.2 ee
              go_wp2_with fail
              refine (word_yes _ _ _ _ _ _ _ g).mono ?_
              rintro e w4 ⟨rfl, hb⟩
              have L4 := Lib.hid (hL.out.below hb ll)
              have X4 := Lib.hid (hX.out.below hb lx)
              have B4 := Lib.hid (hB.out.trans (hb.mono hB.out.size))
              clear l0 l1 l2 l3 l4 l5 x0 x1 x2 x3 x4 x5 hb hL hX hB
              have l0 := L4.out.cell (i := 6) rfl
              have l1 := L4.out.cell (i := 7) rfl
              have l2 := L4.out.cell (i := 8) rfl
              have l3 := L4.out.cell (i := 9) rfl
              have l4 := L4.out.cell (i := 10) rfl
              have l5 := L4.out.cell (i := 11) rfl
              have x0 := X4.out.cell (i := 0) rfl
              have x1 := X4.out.cell (i := 1) rfl
              have x2 := X4.out.cell (i := 2) rfl
              have x3 := X4.out.cell (i := 3) rfl
              have x4 := X4.out.cell (i := 4) rfl
              have x5 := X4.out.cell (i := 5) rfl
              have ll4 := L4.out.lt
              have lx4 := X4.out.lt
              have hq_ := bw_cell w4
              go_wp2_with fail
              refine wp_region_bw (by kernel_rfl) (by kernel_rfl) ?_
              repeat go_big_quiet_step ((go_at_call 40; exact calls_bw (hright_any _ _ _ _ _ _ _)))
              with_reducible refine wpQuiet_nil ?_
              rintro ⟨w5, hb⟩
              dsimp only
              clear hq_
              have L5 := Lib.hid (L4.out.below hb ll4)
              have X5 := Lib.hid (X4.out.below hb lx4)
              have B5 := Lib.hid (B4.out.trans (hb.mono B4.out.size))
              clear l0 l1 l2 l3 l4 l5 x0 x1 x2 x3 x4 x5 hb L4 X4 B4
              go_wp2
              go_roundw
              case rel => exact ⟨2, by omega, by go_num, L5, X5, B5⟩
              case measure => simp [intOf]
        · by_cases kk : k = 2
          · subst kk
            have l0 := hL.out.cell (i := 12) rfl
            have l1 := hL.out.cell (i := 13) rfl
            have l2 := hL.out.cell (i := 14) rfl
            have l3 := hL.out.cell (i := 15) rfl
            have l4 := hL.out.cell (i := 16) rfl
            have l5 := hL.out.cell (i := 17) rfl
            have x0 := hX.out.cell (i := 0) rfl
            have x1 := hX.out.cell (i := 1) rfl
            have x2 := hX.out.cell (i := 2) rfl
            have x3 := hX.out.cell (i := 3) rfl
            have x4 := hX.out.cell (i := 4) rfl
            have x5 := hX.out.cell (i := 5) rfl
            cases g : hr c a z i d
            · skip
              go_wp2_with fail
              refine (word_no _ _ _ _ _ _ _ g).mono ?_
              rintro e w4 ⟨rfl, hb⟩
              have L4 := Lib.hid (hL.out.below hb ll)
              have X4 := Lib.hid (hX.out.below hb lx)
              have B4 := Lib.hid (hB.out.trans (hb.mono hB.out.size))
              clear l0 l1 l2 l3 l4 l5 x0 x1 x2 x3 x4 x5 hb hL hX hB
              have l0 := L4.out.cell (i := 12) rfl
              have l1 := L4.out.cell (i := 13) rfl
              have l2 := L4.out.cell (i := 14) rfl
              have l3 := L4.out.cell (i := 15) rfl
              have l4 := L4.out.cell (i := 16) rfl
              have l5 := L4.out.cell (i := 17) rfl
              have x0 := X4.out.cell (i := 0) rfl
              have x1 := X4.out.cell (i := 1) rfl
              have x2 := X4.out.cell (i := 2) rfl
              have x3 := X4.out.cell (i := 3) rfl
              have x4 := X4.out.cell (i := 4) rfl
              have x5 := X4.out.cell (i := 5) rfl
              have ll4 := L4.out.lt
              have lx4 := X4.out.lt
              have hq_ := bw_cell w4
              go_wp2_with fail
              refine wp_region_bw (by kernel_rfl) (by kernel_rfl) ?_
              repeat go_big_quiet_step ((go_at_call 40; exact calls_bw (hright_any _ _ _ _ _ _ _)))
              with_reducible refine wpQuiet_nil ?_
              rintro ⟨w5, hb⟩
              dsimp only
              clear hq_
              have L5 := Lib.hid (L4.out.below hb ll4)
              have X5 := Lib.hid (X4.out.below hb lx4)
              have B5 := Lib.hid (B4.out.trans (hb.mono B4.out.size))
              clear l0 l1 l2 l3 l4 l5 x0 x1 x2 x3 x4 x5 hb L4 X4 B4
              go_wp2
              go_roundw
              case rel => exact ⟨3, by omega, by go_num, L5, X5, B5⟩
              case measure => simp [intOf]
            · by_cases ee : z = f
              · subst ee
                go_wp2_with fail
                refine (word_yes _ _ _ _ _ _ _ g).mono ?_
                rintro e w4 ⟨rfl, hb⟩
                have L4 := Lib.hid (hL.out.below hb ll)
                have X4 := Lib.hid (hX.out.below hb lx)
                have B4 := Lib.hid (hB.out.trans (hb.mono hB.out.size))
                clear l0 l1 l2 l3 l4 l5 x0 x1 x2 x3 x4 x5 hb hL hX hB
                have l0 := L4.out.cell (i := 12) rfl
                have l1 := L4.out.cell (i := 13) rfl
                have l2 := L4.out.cell (i := 14) rfl
                have l3 := L4.out.cell (i := 15) rfl
                have l4 := L4.out.cell (i := 16) rfl
                have l5 := L4.out.cell (i := 17) rfl
                have x0 := X4.out.cell (i := 0) rfl
                have x1 := X4.out.cell (i := 1) rfl
                have x2 := X4.out.cell (i := 2) rfl
                have x3 := X4.out.cell (i := 3) rfl
                have x4 := X4.out.cell (i := 4) rfl
                have x5 := X4.out.cell (i := 5) rfl
                have ll4 := L4.out.lt
                have lx4 := X4.out.lt
                have hq_ := bw_cell w4
                go_wp2_with fail
                refine wp_region_bw (by kernel_rfl) (by kernel_rfl) ?_
                repeat go_big_quiet_step ((go_at_call 40; exact calls_bw (hright_any _ _ _ _ _ _ _)))
                with_reducible refine wpQuiet_nil ?_
                rintro ⟨w5, hb⟩
                dsimp only
                clear hq_
                have L5 := Lib.hid (L4.out.below hb ll4)
                have X5 := Lib.hid (X4.out.below hb lx4)
                have B5 := Lib.hid (B4.out.trans (hb.mono B4.out.size))
                clear l0 l1 l2 l3 l4 l5 x0 x1 x2 x3 x4 x5 hb L4 X4 B4
                go_wp2
                go_roundw
                case rel => exact ⟨3, by omega, by go_num, L5, X5, B5⟩
                case measure => simp [intOf]
              · have q1 : (wd c a z m i d == wd c a f m i d) = false := beq_eq_false_iff_ne.2 (fun e => ee (wd_inj g h e).2.2.1)
                have q2 : (z == f) = false := beq_eq_false_iff_ne.2 ee
                go_wp2_with fail
                refine (word_yes _ _ _ _ _ _ _ g).mono ?_
                rintro e w4 ⟨rfl, hb⟩
                have L4 := Lib.hid (hL.out.below hb ll)
                have X4 := Lib.hid (hX.out.below hb lx)
                have B4 := Lib.hid (hB.out.trans (hb.mono hB.out.size))
                clear l0 l1 l2 l3 l4 l5 x0 x1 x2 x3 x4 x5 hb hL hX hB
                have l0 := L4.out.cell (i := 12) rfl
                have l1 := L4.out.cell (i := 13) rfl
                have l2 := L4.out.cell (i := 14) rfl
                have l3 := L4.out.cell (i := 15) rfl
                have l4 := L4.out.cell (i := 16) rfl
                have l5 := L4.out.cell (i := 17) rfl
                have x0 := X4.out.cell (i := 0) rfl
                have x1 := X4.out.cell (i := 1) rfl
                have x2 := X4.out.cell (i := 2) rfl
                have x3 := X4.out.cell (i := 3) rfl
                have x4 := X4.out.cell (i := 4) rfl
                have x5 := X4.out.cell (i := 5) rfl
                have ll4 := L4.out.lt
                have lx4 := X4.out.lt
                have hq_ := bw_cell w4
                go_wp2_with fail
                refine wp_region_bw (by kernel_rfl) (by kernel_rfl) ?_
                repeat go_big_quiet_step ((go_at_call 40; exact calls_bw (hright_any _ _ _ _ _ _ _)))
                with_reducible refine wpQuiet_nil ?_
                rintro ⟨w5, hb⟩
                dsimp only
                clear hq_
                have L5 := Lib.hid (L4.out.below hb ll4)
                have X5 := Lib.hid (X4.out.below hb lx4)
                have B5 := Lib.hid (B4.out.trans (hb.mono B4.out.size))
                clear l0 l1 l2 l3 l4 l5 x0 x1 x2 x3 x4 x5 hb L4 X4 B4
                go_wp2
                go_roundw
                case rel => exact ⟨3, by omega, by go_num, L5, X5, B5⟩
                case measure => simp [intOf]
          · have kk : k = 3 := by omega
            subst kk
            have l0 := hL.out.cell (i := 18) rfl
            have l1 := hL.out.cell (i := 19) rfl
            have l2 := hL.out.cell (i := 20) rfl
            have l3 := hL.out.cell (i := 21) rfl
            have l4 := hL.out.cell (i := 22) rfl
            have l5 := hL.out.cell (i := 23) rfl
            have x0 := hX.out.cell (i := 0) rfl
            have x1 := hX.out.cell (i := 1) rfl
            have x2 := hX.out.cell (i := 2) rfl
            have x3 := hX.out.cell (i := 3) rfl
            have x4 := hX.out.cell (i := 4) rfl
            have x5 := hX.out.cell (i := 5) rfl
            have g := h
            have q1 : (wd c a f (!m) i d == wd c a f m i d) = false := beq_eq_false_iff_ne.2 (fun e => by have := (wd_inj g h e).2.2.2.1; cases m <;> cases this)
            have q2 : ((!m) == m) = false := by cases m <;> rfl
            go_wp2_with fail
            refine (word_yes _ _ _ _ _ _ _ g).mono ?_
            rintro e w4 ⟨rfl, hb⟩
            have L4 := Lib.hid (hL.out.below hb ll)
            have X4 := Lib.hid (hX.out.below hb lx)
            have B4 := Lib.hid (hB.out.trans (hb.mono hB.out.size))
            clear l0 l1 l2 l3 l4 l5 x0 x1 x2 x3 x4 x5 hb hL hX hB
            have l0 := L4.out.cell (i := 18) rfl
            have l1 := L4.out.cell (i := 19) rfl
            have l2 := L4.out.cell (i := 20) rfl
            have l3 := L4.out.cell (i := 21) rfl
            have l4 := L4.out.cell (i := 22) rfl
            have l5 := L4.out.cell (i := 23) rfl
            have x0 := X4.out.cell (i := 0) rfl
            have x1 := X4.out.cell (i := 1) rfl
            have x2 := X4.out.cell (i := 2) rfl
            have x3 := X4.out.cell (i := 3) rfl
            have x4 := X4.out.cell (i := 4) rfl
            have x5 := X4.out.cell (i := 5) rfl
            have ll4 := L4.out.lt
            have lx4 := X4.out.lt
            have hq_ := bw_cell w4
            go_wp2_with fail
            refine wp_region_bw (by kernel_rfl) (by kernel_rfl) ?_
            repeat go_big_quiet_step ((go_at_call 40; exact calls_bw (hright_any _ _ _ _ _ _ _)))
            with_reducible refine wpQuiet_nil ?_
            rintro ⟨w5, hb⟩
            dsimp only
            clear hq_
            have L5 := Lib.hid (L4.out.below hb ll4)
            have X5 := Lib.hid (X4.out.below hb lx4)
            have B5 := Lib.hid (B4.out.trans (hb.mono B4.out.size))
            clear l0 l1 l2 l3 l4 l5 x0 x1 x2 x3 x4 x5 hb L4 X4 B4
            go_wp2
            go_roundw
            case rel => exact ⟨4, by omega, by go_num, L5, X5, B5⟩
            case measure => simp [intOf]
theorem headParts_walk (w : World) (c : Int) (_ : (Lit.int .i64 c).wf = true) (a : Int) (_ : (Lit.int .i64 a).wf = true) (f : Int) (_ : (Lit.int .i64 f).wf = true) (m i d : Bool) (x : Int) (_ : (Lit.int .i64 x).wf = true) (y : Int) (_ : (Lit.int .i64 y).wf = true) (z : Int) (_ : (Lit.int .i64 z).wf = true) :
    Calls Try.prog 12 #[.agg #[.int .i64 c, .int .i64 a, .int .i64 f, .bool m, .bool i, .bool d], .int .i64 x, .int .i64 y, .int .i64 z] w fun x w' => x = .returned (.bool true) ∧ Below w.heap.size w w' := by
  cases h : hr c a f i d
  · exact hparts_no w c a f m i d x y z h
  · exact hparts_yes w c a f m i d x y z h
end Go.Proofs.Ytlhbfeddgopfjaa
