/-
  The walk of the law HeadOlder: for every head and every uint8 number of times it returns true, and memory below the heap's old size is unchanged. No condition.
-/
import Derived.Test.YtlhbfeddgopfjaaHde
namespace Go.Proofs.Ytlhbfeddgopfjaa
open Go.RowKit
/-- A head in memory. -/
abbrev hd6 (c a f : Int) (m i d : Bool) : Array Value := #[.int .i64 c, .int .i64 a, .int .i64 f, .bool m, .bool i, .bool d]
theorem Blk.store6 {w : World} {b : Nat} {u0 u1 u2 u3 u4 u5 : Value} {t : TypeId} (v0 v1 v2 v3 v4 v5 : Value) (h : Blk w b #[u0, u1, u2, u3, u4, u5] t) :
    Blk ((((((w.setCell ⟨b, 0, none⟩ v0).setCell ⟨b, 1, none⟩ v1).setCell ⟨b, 2, none⟩ v2).setCell ⟨b, 3, none⟩ v3).setCell ⟨b, 4, none⟩ v4).setCell ⟨b, 5, none⟩ v5) b #[v0, v1, v2, v3, v4, v5] t := by
  have e0 : Blk (w.setCell ⟨b, 0, none⟩ v0) b #[v0, u1, u2, u3, u4, u5] t := h.set (i := 0) v0
  have e1 : Blk ((w.setCell ⟨b, 0, none⟩ v0).setCell ⟨b, 1, none⟩ v1) b #[v0, v1, u2, u3, u4, u5] t := e0.set (i := 1) v1
  have e2 := e1.set (i := 2) v2
  have e3 := e2.set (i := 3) v3
  have e4 := e3.set (i := 4) v4
  exact e4.set (i := 5) v5
theorem Blk.other6 {w : World} {b k : Nat} {cs : Array Value} {t : TypeId} (v0 v1 v2 v3 v4 v5 : Value) (h : Blk w k cs t) (hne : k ≠ b) :
    Blk ((((((w.setCell ⟨b, 0, none⟩ v0).setCell ⟨b, 1, none⟩ v1).setCell ⟨b, 2, none⟩ v2).setCell ⟨b, 3, none⟩ v3).setCell ⟨b, 4, none⟩ v4).setCell ⟨b, 5, none⟩ v5) k cs t :=
  (((((h.other _ v0 hne).other _ v1 hne).other _ v2 hne).other _ v3 hne).other _ v4 hne).other _ v5 hne
theorem Below.store6 {B : Nat} {x w : World} {b : Nat} (v0 v1 v2 v3 v4 v5 : Value) (h : Below B x w) (hb : B ≤ b) :
    Below B x ((((((w.setCell ⟨b, 0, none⟩ v0).setCell ⟨b, 1, none⟩ v1).setCell ⟨b, 2, none⟩ v2).setCell ⟨b, 3, none⟩ v3).setCell ⟨b, 4, none⟩ v4).setCell ⟨b, 5, none⟩ v5) :=
  (((((h.setCell (p := ⟨b, 0, none⟩) hb v0).setCell (p := ⟨b, 1, none⟩) hb v1).setCell (p := ⟨b, 2, none⟩) hb v2).setCell (p := ⟨b, 3, none⟩) hb v3).setCell (p := ⟨b, 4, none⟩) hb v4).setCell (p := ⟨b, 5, none⟩) hb v5
set_option maxHeartbeats 2000000 in
set_option maxRecDepth 100000 in
theorem holder_no (w : World) (c a f : Int) (m i d : Bool) (n : Int) (h : hr c a f i d = false) :
    Calls Try.prog 14 #[.agg #[.int .i64 c, .int .i64 a, .int .i64 f, .bool m, .bool i, .bool d], .int .u8 n] w fun x w' => x = .returned (.bool true) ∧ Below w.heap.size w w' := by
  go_enter Try.func14, Try.ntmps14
  go_wp2_with fail
  refine (hawake_any _).mono ?_
  rintro e w1 ⟨rfl, hb⟩
  have N_s := Lib.hid ((Blk.new' (k := w.heap.size) (by simp) #[.int .i64 c, .int .i64 a, .int .i64 f, .bool m, .bool i, .bool d] 41).below hb (by first | assumption | (simp; done) | (simp; omega) | omega))
  have N_HB := Lib.hid (((Below.refl w.heap.size w).alloc (by first | exact Nat.le_refl _ | assumption | (simp; done) | (simp; omega) | omega) _).trans (hb.mono (by first | exact Nat.le_refl _ | assumption | (simp; done) | (simp; omega) | omega)))
  clear hb
  have S_s := Lib.hid N_s.out
  clear N_s
  have HB_ := Lib.hid N_HB.out
  clear N_HB
  have hz_ : w.heap.size ≤ w1.heap.size := HB_.out.size
  have hl_s : w.heap.size < w1.heap.size := S_s.out.lt
  have c_s_0 : w1.cell? ⟨w.heap.size, 0, none⟩ = some (.int .i64 c) := S_s.out.cell (i := 0) rfl
  have c_s_1 : w1.cell? ⟨w.heap.size, 1, none⟩ = some (.int .i64 a) := S_s.out.cell (i := 1) rfl
  have c_s_2 : w1.cell? ⟨w.heap.size, 2, none⟩ = some (.int .i64 f) := S_s.out.cell (i := 2) rfl
  have c_s_3 : w1.cell? ⟨w.heap.size, 3, none⟩ = some (.bool m) := S_s.out.cell (i := 3) rfl
  have c_s_4 : w1.cell? ⟨w.heap.size, 4, none⟩ = some (.bool i) := S_s.out.cell (i := 4) rfl
  have c_s_5 : w1.cell? ⟨w.heap.size, 5, none⟩ = some (.bool d) := S_s.out.cell (i := 5) rfl
  go_wp2_with fail
  refine (rhright_any _ _ _ _ _ _ _).mono ?_
  rintro e w2 ⟨rfl, hb⟩
  have N_s := Lib.hid ((S_s.out).below hb (by first | assumption | (simp; done) | (simp; omega) | omega))
  have N_HB := Lib.hid (HB_.out.trans (hb.mono (by first | exact Nat.le_refl _ | assumption | (simp; done) | (simp; omega) | omega)))
  clear hb S_s hl_s c_s_0 c_s_1 c_s_2 c_s_3 c_s_4 c_s_5 HB_ hz_
  have S_s := Lib.hid N_s.out
  clear N_s
  have HB_ := Lib.hid N_HB.out
  clear N_HB
  have hz_ : w.heap.size ≤ w2.heap.size := HB_.out.size
  have hl_s : w.heap.size < w2.heap.size := S_s.out.lt
  have c_s_0 : w2.cell? ⟨w.heap.size, 0, none⟩ = some (.int .i64 c) := S_s.out.cell (i := 0) rfl
  have c_s_1 : w2.cell? ⟨w.heap.size, 1, none⟩ = some (.int .i64 a) := S_s.out.cell (i := 1) rfl
  have c_s_2 : w2.cell? ⟨w.heap.size, 2, none⟩ = some (.int .i64 f) := S_s.out.cell (i := 2) rfl
  have c_s_3 : w2.cell? ⟨w.heap.size, 3, none⟩ = some (.bool m) := S_s.out.cell (i := 3) rfl
  have c_s_4 : w2.cell? ⟨w.heap.size, 4, none⟩ = some (.bool i) := S_s.out.cell (i := 4) rfl
  have c_s_5 : w2.cell? ⟨w.heap.size, 5, none⟩ = some (.bool d) := S_s.out.cell (i := 5) rfl
  go_wp2_with fail
  refine (hawake_any _).mono ?_
  rintro e w3 ⟨rfl, hb⟩
  have N_s := Lib.hid ((S_s.out).below hb (by first | assumption | (simp; done) | (simp; omega) | omega))
  have N_HB := Lib.hid (HB_.out.trans (hb.mono (by first | exact Nat.le_refl _ | assumption | (simp; done) | (simp; omega) | omega)))
  clear hb S_s hl_s c_s_0 c_s_1 c_s_2 c_s_3 c_s_4 c_s_5 HB_ hz_
  have S_s := Lib.hid N_s.out
  clear N_s
  have HB_ := Lib.hid N_HB.out
  clear N_HB
  have hz_ : w.heap.size ≤ w3.heap.size := HB_.out.size
  have hl_s : w.heap.size < w3.heap.size := S_s.out.lt
  have c_s_0 : w3.cell? ⟨w.heap.size, 0, none⟩ = some (.int .i64 c) := S_s.out.cell (i := 0) rfl
  have c_s_1 : w3.cell? ⟨w.heap.size, 1, none⟩ = some (.int .i64 a) := S_s.out.cell (i := 1) rfl
  have c_s_2 : w3.cell? ⟨w.heap.size, 2, none⟩ = some (.int .i64 f) := S_s.out.cell (i := 2) rfl
  have c_s_3 : w3.cell? ⟨w.heap.size, 3, none⟩ = some (.bool m) := S_s.out.cell (i := 3) rfl
  have c_s_4 : w3.cell? ⟨w.heap.size, 4, none⟩ = some (.bool i) := S_s.out.cell (i := 4) rfl
  have c_s_5 : w3.cell? ⟨w.heap.size, 5, none⟩ = some (.bool d) := S_s.out.cell (i := 5) rfl
  go_wp2
  go_ret
  exact ⟨rfl, HB_.out⟩
set_option maxHeartbeats 2000000 in
set_option maxRecDepth 100000 in
theorem holder_yes (w : World) (c a f : Int) (m i d : Bool) (n : Int) (n0 : 0 ≤ n) (n2 : n ≤ 255) (h : hr c a f i d = true) :
    Calls Try.prog 14 #[.agg #[.int .i64 c, .int .i64 a, .int .i64 f, .bool m, .bool i, .bool d], .int .u8 n] w fun x w' => x = .returned (.bool true) ∧ Below w.heap.size w w' := by
  obtain ⟨_, ⟨a0, a1⟩, _, _⟩ := hr_true h
  go_enter Try.func14, Try.ntmps14
  go_wp2_with fail
  refine (hawake_any _).mono ?_
  rintro e w1 ⟨rfl, hb⟩
  have N_s := Lib.hid ((Blk.new' (k := w.heap.size) (by simp) #[.int .i64 c, .int .i64 a, .int .i64 f, .bool m, .bool i, .bool d] 41).below hb (by first | assumption | (simp; done) | (simp; omega) | omega))
  have N_HB := Lib.hid (((Below.refl w.heap.size w).alloc (by first | exact Nat.le_refl _ | assumption | (simp; done) | (simp; omega) | omega) _).trans (hb.mono (by first | exact Nat.le_refl _ | assumption | (simp; done) | (simp; omega) | omega)))
  clear hb
  have S_s := Lib.hid N_s.out
  clear N_s
  have HB_ := Lib.hid N_HB.out
  clear N_HB
  have hz_ : w.heap.size ≤ w1.heap.size := HB_.out.size
  have hl_s : w.heap.size < w1.heap.size := S_s.out.lt
  have c_s_0 : w1.cell? ⟨w.heap.size, 0, none⟩ = some (.int .i64 c) := S_s.out.cell (i := 0) rfl
  have c_s_1 : w1.cell? ⟨w.heap.size, 1, none⟩ = some (.int .i64 a) := S_s.out.cell (i := 1) rfl
  have c_s_2 : w1.cell? ⟨w.heap.size, 2, none⟩ = some (.int .i64 f) := S_s.out.cell (i := 2) rfl
  have c_s_3 : w1.cell? ⟨w.heap.size, 3, none⟩ = some (.bool m) := S_s.out.cell (i := 3) rfl
  have c_s_4 : w1.cell? ⟨w.heap.size, 4, none⟩ = some (.bool i) := S_s.out.cell (i := 4) rfl
  have c_s_5 : w1.cell? ⟨w.heap.size, 5, none⟩ = some (.bool d) := S_s.out.cell (i := 5) rfl
  go_wp2_with fail
  refine (rhright_any _ _ _ _ _ _ _).mono ?_
  rintro e w2 ⟨rfl, hb⟩
  have N_s := Lib.hid ((S_s.out).below hb (by first | assumption | (simp; done) | (simp; omega) | omega))
  have N_HB := Lib.hid (HB_.out.trans (hb.mono (by first | exact Nat.le_refl _ | assumption | (simp; done) | (simp; omega) | omega)))
  clear hb S_s hl_s c_s_0 c_s_1 c_s_2 c_s_3 c_s_4 c_s_5 HB_ hz_
  have S_s := Lib.hid N_s.out
  clear N_s
  have HB_ := Lib.hid N_HB.out
  clear N_HB
  have hz_ : w.heap.size ≤ w2.heap.size := HB_.out.size
  have hl_s : w.heap.size < w2.heap.size := S_s.out.lt
  have c_s_0 : w2.cell? ⟨w.heap.size, 0, none⟩ = some (.int .i64 c) := S_s.out.cell (i := 0) rfl
  have c_s_1 : w2.cell? ⟨w.heap.size, 1, none⟩ = some (.int .i64 a) := S_s.out.cell (i := 1) rfl
  have c_s_2 : w2.cell? ⟨w.heap.size, 2, none⟩ = some (.int .i64 f) := S_s.out.cell (i := 2) rfl
  have c_s_3 : w2.cell? ⟨w.heap.size, 3, none⟩ = some (.bool m) := S_s.out.cell (i := 3) rfl
  have c_s_4 : w2.cell? ⟨w.heap.size, 4, none⟩ = some (.bool i) := S_s.out.cell (i := 4) rfl
  have c_s_5 : w2.cell? ⟨w.heap.size, 5, none⟩ = some (.bool d) := S_s.out.cell (i := 5) rfl
  go_wp2
  go_loopw [17] (fun u wr => ∃ k : Nat, (k : Int) ≤ n ∧ u = .int .u8 k ∧ Hid (Blk wr w2.heap.size (hd6 c (min (a + k) 7) f m i d) 42) ∧ Hid (Blk wr w.heap.size (hd6 c a f m i d) 41) ∧ Hid (Below w.heap.size w wr))
    (fun u _ => (n - intOf u).toNat)
  case atStart =>
    exact ⟨0, by omega, rfl, Lib.hid (by rw [show min (a + ((0 : Nat) : Int)) 7 = a from by omega]; exact Blk.new w2 (hd6 c a f m i d) 42), Lib.hid (S_s.out.alloc _), Lib.hid (HB_.out.alloc hz_ _)⟩
  case round =>
    clear HB_ S_s c_s_0 c_s_1 c_s_2 c_s_3 c_s_4 c_s_5
    obtain ⟨k, hk, rfl, hX, hS, hB⟩ := hrel
    have x0 := hX.out.cell (i := 0) rfl
    have x1 := hX.out.cell (i := 1) rfl
    have x2 := hX.out.cell (i := 2) rfl
    have x3 := hX.out.cell (i := 3) rfl
    have x4 := hX.out.cell (i := 4) rfl
    have x5 := hX.out.cell (i := 5) rfl
    have lx := hX.out.lt
    have ls := hS.out.lt
    by_cases hkn : (k : Int) < n
    · go_wp2_with fail
      refine (older_any _ _ _ _ _ _ _ (by omega)).mono ?_
      rintro e w3 ⟨rfl, hb⟩
      have X3 := Lib.hid (hX.out.below hb lx)
      have S3 := Lib.hid (hS.out.below hb ls)
      have B3 := Lib.hid (hB.out.trans (hb.mono hB.out.size))
      clear x0 x1 x2 x3 x4 x5 hb hX hS hB
      have x0 := X3.out.cell (i := 0) rfl
      have x1 := X3.out.cell (i := 1) rfl
      have x2 := X3.out.cell (i := 2) rfl
      have x3 := X3.out.cell (i := 3) rfl
      have x4 := X3.out.cell (i := 4) rfl
      have x5 := X3.out.cell (i := 5) rfl
      have fx : ∀ o, w3.frozen? ⟨w2.heap.size, o, none⟩ = false := fun o => X3.out.free o
      go_wp2
      go_roundw
      case rel =>
        have e : min (min (a + (k : Int)) 7 + 1) 7 = min (a + ((k + 1 : Nat) : Int)) 7 := by omega
        refine ⟨k + 1, by omega, by go_num, Lib.hid ?_, Lib.hid (Blk.other6 _ _ _ _ _ _ S3.out (by omega)), Lib.hid (Below.store6 _ _ _ _ _ _ B3.out (by omega))⟩
        rw [← e]
        exact Blk.store6 _ _ _ _ _ _ X3.out
      case measure => simp [intOf]; omega
    · have e : (k : Int) = n := by omega
      have s0 := hS.out.cell (i := 0) rfl
      have s1 := hS.out.cell (i := 1) rfl
      have s2 := hS.out.cell (i := 2) rfl
      have s3 := hS.out.cell (i := 3) rfl
      have s4 := hS.out.cell (i := 4) rfl
      have s5 := hS.out.cell (i := 5) rfl
      have hr2 : hr c (min (a + (k : Int)) 7) f i d = true := by
        unfold hr at h ⊢
        rw [wn_yes (n := min (a + (k : Int)) 7) (e := 8) (by omega) (by omega)]
        simp only [Bool.and_eq_true] at h ⊢
        exact ⟨⟨⟨h.1.1.1, trivial⟩, h.1.2⟩, h.2⟩
      have hm : (min (a + (k : Int)) 7 == min 7 (a + n)) = true := beq_iff_eq.2 (by omega)
      have hm2 : min (a + (k : Int)) 7 = if a + n < 7 then a + n else 7 := by split <;> omega
      have HM := Lib.hid hm2
      have E := Lib.hid e
      clear hm2 e
      go_wp2_with fail
      all_goals
        refine (hright_any _ _ _ _ _ _ _).mono ?_
        rintro e w3 ⟨rfl, hb⟩
        have B3 := Lib.hid ((hB.out.alloc hB.out.size _).trans (hb.mono (by have := hB.out.size; simp; omega)))
        clear hb hB
        go_wp2
        go_ret
        exact ⟨rfl, B3.out⟩
theorem u8_range' {a : Int} (h : (Lit.int .u8 a).wf = true) : 0 ≤ a ∧ a ≤ 255 := by
  simp [Lit.wf, IntKind.min, IntKind.max, IntKind.signed, IntKind.bits] at h
  omega
theorem headOlder_walk (w : World) (c : Int) (_ : (Lit.int .i64 c).wf = true) (a : Int) (_ : (Lit.int .i64 a).wf = true) (f : Int) (_ : (Lit.int .i64 f).wf = true) (m i d : Bool) (n : Int) (wn : (Lit.int .u8 n).wf = true) :
    Calls Try.prog 14 #[.agg #[.int .i64 c, .int .i64 a, .int .i64 f, .bool m, .bool i, .bool d], .int .u8 n] w fun x w' => x = .returned (.bool true) ∧ Below w.heap.size w w' := by
  obtain ⟨n0, n2⟩ := u8_range' wn
  cases h : hr c a f i d
  · exact holder_no w c a f m i d n h
  · exact holder_yes w c a f m i d n n0 n2 h
end Go.Proofs.Ytlhbfeddgopfjaa
