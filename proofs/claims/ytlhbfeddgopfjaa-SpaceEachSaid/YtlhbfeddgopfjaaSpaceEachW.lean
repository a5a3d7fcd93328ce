/-
  The walk of the law SpaceEach: for every from and size of type uint8 it returns true, and memory below the heap's old size is unchanged. No condition.
-/
import Derived.Test.YtlhbfeddgopfjaaSpc
namespace Go.Proofs.Ytlhbfeddgopfjaa
open Go.RowKit

set_option maxHeartbeats 1000000 in
set_option maxRecDepth 100000 in
theorem each_any (w : World) (a n : Int) (a0 : 0 ≤ a) (a1 : a ≤ 255) (n0 : 0 ≤ n) (n1 : n ≤ 255) :
    Calls Try.prog 8 #[.int .u8 a, .int .u8 n] w fun e w' => e = .returned (.bool true) ∧ Below w.heap.size w w' := by
  go_enter Try.func8, Try.ntmps8
  go_wp2_with fail
  refine (sawake_any _).mono ?_
  rintro e w1 ⟨rfl, hb1⟩
  have hz1 := hb1.size
  go_wp2_with fail
  refine (new_ok _ _ _ (by omega) (by omega) (by omega)).mono ?_
  rintro e w2 ⟨rfl, hb2⟩
  have hz2 := hb2.size
  have HB2 := Lib.hid (hb1.trans (hb2.mono hz1))
  clear hb1 hb2
  have hw2 : w.heap.size ≤ w2.heap.size := by omega
  go_wp2
  go_loopw [28] (fun c wr => ∃ k : Nat, (k : Int) ≤ n ∧ c = .int .i64 k ∧ Hid (Blk wr w2.heap.size (sp3 a (a + k) (a + n)) 31) ∧ Hid (Below w.heap.size w wr))
    (fun c _ => (n - intOf c).toNat)
  case atStart =>
    exact ⟨0, by omega, rfl, Lib.hid (by rw [show a + ((0 : Nat) : Int) = a from by omega]; exact Blk.new w2 (sp3 a a (a + n)) 31), (HB2.out).alloc (by omega) _⟩
  case round =>
    obtain ⟨k, hk, rfl, hS, hbel⟩ := hrel
    have c0 := hS.out.cell (i := 0) rfl
    have c1 := hS.out.cell (i := 1) rfl
    have c2 := hS.out.cell (i := 2) rfl
    have hlt := hS.out.lt
    by_cases hkn : (k : Int) < n
    · have hr2 := rt_yes (a := a) (b := a + k + 1) (c := a + n) (by omega) (by omega) (by omega) (by omega)
      have g1 := hs_no (a := a) (b := a + k) (c := a + n) (x := a + k) (.inr (by omega))
      have g2 := hs_yes (a := a) (b := a + k + 1) (c := a + n) (x := a + k) hr2 (by omega) (by omega)
      go_wp2_with fail
      refine (take_ok _ _ _ _ _ (by omega) (by omega) (by omega) (by omega) (by omega) (by omega)).mono ?_
      rintro e w3 ⟨rfl, hb3⟩
      have S3 := Lib.hid (hS.out.below hb3 hlt)
      have HB3 := Lib.hid (hbel.out.trans (hb3.mono hbel.out.size))
      clear c0 c1 c2 hb3 hS hbel
      have c0 := S3.out.cell (i := 0) rfl
      have c1 := S3.out.cell (i := 1) rfl
      have c2 := S3.out.cell (i := 2) rfl
      have hlt3 := S3.out.lt
      have hz3 := HB3.out.size
      go_wp2_with fail
      refine (has_any _ _ _ _ _).mono ?_
      rintro e w4 ⟨rfl, hb4⟩
      have T4 := Lib.hid ((Blk.new w3 (sp3 a (a + k + 1) (a + n)) 31).below hb4 (by simp))
      have S4 := Lib.hid ((S3.out.alloc _).below hb4 (by simp; omega))
      have HB4 := Lib.hid ((HB3.out.alloc hz3 _).trans (hb4.mono (by simp; omega)))
      clear c0 c1 c2 hb4 S3 HB3
      have d0 := T4.out.cell (i := 0) rfl
      have d1 := T4.out.cell (i := 1) rfl
      have d2 := T4.out.cell (i := 2) rfl
      have hlt4 := S4.out.lt
      have hx4 := T4.out.lt
      have hz4 := HB4.out.size
      go_wp2_with fail
      refine (has_any _ _ _ _ _).mono ?_
      rintro e w5 ⟨rfl, hb5⟩
      have T5 := Lib.hid (T4.out.below hb5 hx4)
      have S5 := Lib.hid (S4.out.below hb5 hlt4)
      have HB5 := Lib.hid (HB4.out.trans (hb5.mono hz4))
      clear d0 d1 d2 hb5 T4 S4 HB4
      have d0 := T5.out.cell (i := 0) rfl
      have d1 := T5.out.cell (i := 1) rfl
      have d2 := T5.out.cell (i := 2) rfl
      have c0 := S5.out.cell (i := 0) rfl
      have c1 := S5.out.cell (i := 1) rfl
      have c2 := S5.out.cell (i := 2) rfl
      have f0 := S5.out.free 0
      have f1 := S5.out.free 1
      have f2 := S5.out.free 2
      go_wp2
      go_roundw
      case rel =>
        have e1 : a + (k : Int) + 1 = a + ((k + 1 : Nat) : Int) := by omega
        have R := (S5.out.store3 (x' := a) (y' := a + (k : Int) + 1) (z' := a + n))
        refine ⟨k + 1, by omega, by go_num, ?_, Below.store3 HB5.out hw2 _ _ _⟩
        rw [← e1]
        exact R
      case measure => simp [intOf]; omega
    · have e : (k : Int) = n := by omega
      have hr1 := rt_yes (a := a) (b := a + k) (c := a + n) (by omega) (by omega) (by omega) (by omega)
      have m1 : rm a (a + k) (a + n) = 0 := by unfold rm; rw [hr1]; simp; omega
      have m2 : us a (a + k) (a + n) = n := by unfold us; rw [hr1]; simp; omega
      have g1 := hs_no (a := a) (b := a + k) (c := a + n) (x := a - 1) (.inl (by omega))
      have g2 := hs_no (a := a) (b := a + k) (c := a + n) (x := a + n) (.inr (by omega))
      have E := Lib.hid e
      clear e
      go_wp2_with fail
      refine (take_full _ _ _ _ _ (by omega) hr1 (by omega)).mono ?_
      rintro e w3 ⟨rfl, hb3⟩
      have S3 := Lib.hid (hS.out.below hb3 hlt)
      have HB3 := Lib.hid (hbel.out.trans (hb3.mono hbel.out.size))
      clear c0 c1 c2 hb3 hS hbel
      have c0 := S3.out.cell (i := 0) rfl
      have c1 := S3.out.cell (i := 1) rfl
      have c2 := S3.out.cell (i := 2) rfl
      have hlt3 := S3.out.lt
      have hz3 := HB3.out.size
      go_wp2_with fail
      refine (room_any _ _ _ _).mono ?_
      rintro e w4 ⟨rfl, hb4⟩
      have S4 := Lib.hid ((S3.out.alloc _).below hb4 (by simp; omega))
      have HB4 := Lib.hid ((HB3.out.alloc hz3 _).trans (hb4.mono (by simp; omega)))
      clear c0 c1 c2 hb4 S3 HB3
      have c0 := S4.out.cell (i := 0) rfl
      have c1 := S4.out.cell (i := 1) rfl
      have c2 := S4.out.cell (i := 2) rfl
      have hlt4 := S4.out.lt
      have hz4 := HB4.out.size
      go_wp2_with fail
      refine (used_any _ _ _ _).mono ?_
      rintro e w5 ⟨rfl, hb5⟩
      have S5 := Lib.hid (S4.out.below hb5 hlt4)
      have HB5 := Lib.hid (HB4.out.trans (hb5.mono hz4))
      clear c0 c1 c2 hb5 S4 HB4
      have c0 := S5.out.cell (i := 0) rfl
      have c1 := S5.out.cell (i := 1) rfl
      have c2 := S5.out.cell (i := 2) rfl
      have hlt5 := S5.out.lt
      have hz5 := HB5.out.size
      go_wp2_with fail
      refine (has_any _ _ _ _ _).mono ?_
      rintro e w6 ⟨rfl, hb6⟩
      have S6 := Lib.hid (S5.out.below hb6 hlt5)
      have HB6 := Lib.hid (HB5.out.trans (hb6.mono hz5))
      clear c0 c1 c2 hb6 S5 HB5
      have c0 := S6.out.cell (i := 0) rfl
      have c1 := S6.out.cell (i := 1) rfl
      have c2 := S6.out.cell (i := 2) rfl
      have hz6 := HB6.out.size
      go_wp2_with fail
      refine (has_any _ _ _ _ _).mono ?_
      rintro e w7 ⟨rfl, hb7⟩
      have HB7 := Lib.hid (HB6.out.trans (hb7.mono hz6))
      clear hb7
      go_wp2
      go_ret
      exact ⟨rfl, HB7.out⟩
theorem u8_range {a : Int} (h : (Lit.int .u8 a).wf = true) : 0 ≤ a ∧ a ≤ 255 := by
  simp [Lit.wf, IntKind.min, IntKind.max, IntKind.signed, IntKind.bits] at h
  omega
theorem spaceEach_walk (w : World) (a0 : Int) (w0 : (Lit.int .u8 a0).wf = true) (a1 : Int) (w1 : (Lit.int .u8 a1).wf = true) :
    Calls Try.prog 8 #[.int .u8 a0, .int .u8 a1] w fun e w' => e = .returned (.bool true) ∧ Below w.heap.size w w' :=
  each_any w a0 a1 (u8_range w0).1 (u8_range w0).2 (u8_range w1).1 (u8_range w1).2
end Go.Proofs.Ytlhbfeddgopfjaa
