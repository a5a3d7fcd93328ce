/-
  The walk of the law SpaceTakes: for every from and size of type uint16 and every slice of bytes it returns true, and memory below the heap's old size is unchanged. No condition.
-/
import Derived.Test.YtlhbfeddgopfjaaSpd
import Derived.Test.YtlhbfeddgopfjaaArg
namespace Go.Proofs.Ytlhbfeddgopfjaa
open Go.RowKit
set_option linter.unusedVariables false in
set_option maxHeartbeats 4000000 in
set_option maxRecDepth 100000 in
theorem takes_long (w : World) (a n : Int) (s : Option Addr) (len cap : Nat) (hl : 200 < len) :
    Calls Try.prog 16 #[.int .u16 a, .int .u16 n, .slice s len cap] w fun e w' => e = .returned (.bool true) ∧ Below w.heap.size w w' := by
  go_enter Try.func16, Try.ntmps16
  go_wp2_with fail
  refine (sawake_any _).mono ?_
  rintro e w1 ⟨rfl, hb⟩
  have N_HB := Lib.hid ((Below.refl w.heap.size w).trans (hb.mono (by first | exact Nat.le_refl _ | assumption | (simp; done) | (simp; omega) | omega)))
  clear hb
  have HB_ := Lib.hid N_HB.out
  clear N_HB
  have hz_ : w.heap.size ≤ w1.heap.size := HB_.out.size
  go_wp2_with fail
  refine (sawake_any _).mono ?_
  rintro e w2 ⟨rfl, hb⟩
  have N_HB := Lib.hid (HB_.out.trans (hb.mono (by first | exact Nat.le_refl _ | assumption | (simp; done) | (simp; omega) | omega)))
  clear hb HB_ hz_
  have HB_ := Lib.hid N_HB.out
  clear N_HB
  have hz_ : w.heap.size ≤ w2.heap.size := HB_.out.size
  go_wp2
  go_ret
  exact ⟨rfl, HB_.out⟩
set_option linter.unusedVariables false in
set_option maxHeartbeats 4000000 in
set_option maxRecDepth 100000 in
theorem takes_none (w : World) (a n : Int) (a0 : 0 ≤ a) (a1 : a ≤ 65535) (n0 : 0 ≤ n) (n1 : n ≤ 65535) (h : 4096 < a + n) (s : Option Addr) (len cap : Nat) (hl : len ≤ 200) :
    Calls Try.prog 16 #[.int .u16 a, .int .u16 n, .slice s len cap] w fun e w' => e = .returned (.bool true) ∧ Below w.heap.size w w' := by
  go_enter Try.func16, Try.ntmps16
  go_wp2_with fail
  refine (sawake_any _).mono ?_
  rintro e w1 ⟨rfl, hb⟩
  have N_HB := Lib.hid ((Below.refl w.heap.size w).trans (hb.mono (by first | exact Nat.le_refl _ | assumption | (simp; done) | (simp; omega) | omega)))
  clear hb
  have HB_ := Lib.hid N_HB.out
  clear N_HB
  have hz_ : w.heap.size ≤ w1.heap.size := HB_.out.size
  go_wp2_with fail
  refine (new_no a n _ (by omega)).mono ?_
  rintro e w2 ⟨rfl, hb⟩
  have N_HB := Lib.hid (HB_.out.trans (hb.mono (by first | exact Nat.le_refl _ | assumption | (simp; done) | (simp; omega) | omega)))
  clear hb HB_ hz_
  have HB_ := Lib.hid N_HB.out
  clear N_HB
  have hz_ : w.heap.size ≤ w2.heap.size := HB_.out.size
  go_wp2
  go_ret
  exact ⟨rfl, HB_.out.alloc hz_ _⟩
set_option linter.unusedVariables false in
set_option maxHeartbeats 4000000 in
set_option maxRecDepth 100000 in
theorem takes_empty (w : World) (a n : Int) (a0 : 0 ≤ a) (a1 : a ≤ 65535) (n0 : 0 ≤ n) (n1 : n ≤ 65535) (h : a + n ≤ 4096) (s : Option Addr) (cap : Nat) :
    Calls Try.prog 16 #[.int .u16 a, .int .u16 n, .slice s 0 cap] w fun e w' => e = .returned (.bool true) ∧ Below w.heap.size w w' := by
  obtain ⟨len, hlen⟩ : ∃ len : Nat, len = 0 := ⟨0, rfl⟩
  rw [← hlen]
  have hl : len ≤ 0 := by omega
  clear hlen
  go_enter Try.func16, Try.ntmps16
  go_wp2_with fail
  refine (sawake_any _).mono ?_
  rintro e w1 ⟨rfl, hb⟩
  have N_HB := Lib.hid ((Below.refl w.heap.size w).trans (hb.mono (by first | exact Nat.le_refl _ | assumption | (simp; done) | (simp; omega) | omega)))
  clear hb
  have HB_ := Lib.hid N_HB.out
  clear N_HB
  have hz_ : w.heap.size ≤ w1.heap.size := HB_.out.size
  go_wp2_with fail
  refine (new_ok a n _ (by omega) (by omega) (by omega)).mono ?_
  rintro e w2 ⟨rfl, hb⟩
  have N_HB := Lib.hid (HB_.out.trans (hb.mono (by first | exact Nat.le_refl _ | assumption | (simp; done) | (simp; omega) | omega)))
  clear hb HB_ hz_
  have HB_ := Lib.hid N_HB.out
  clear N_HB
  have hz_ : w.heap.size ≤ w2.heap.size := HB_.out.size
  go_wp2
  go_loopw [10, 45] (fun u v wr => ∃ (k : Nat) (t : Int), k ≤ len ∧ 0 ≤ t ∧ t ≤ n ∧ u = .int .i64 (a + t) ∧ v = .int .i64 k ∧ Hid (Blk wr w2.heap.size (sp3 a (a + t) (a + n)) 31) ∧ Hid (Blk wr (w2.heap.size + 1) (sp3 a a (a + n)) 31) ∧ Hid (Below w.heap.size w wr))
    (fun _ v _ => len - (intOf v).toNat)
  case atStart =>
    refine ⟨0, 0, by omega, by omega, by omega, by simp, rfl, Lib.hid ?_, Lib.hid ?_, Lib.hid ((HB_.out.alloc hz_ _).alloc (by simp; omega) _)⟩
    · rw [Int.add_zero]
      exact (Blk.new w2 (sp3 a a (a + n)) 31).alloc _
    · exact Blk.new' (by simp) (sp3 a a (a + n)) 31
  case round =>
    have hw2 := hz_
    clear HB_
    obtain ⟨k, t, hk, t0, t1, rfl, rfl, hS, hF, hB⟩ := hrel
    have ls := hS.out.lt
    have lf := hF.out.lt
    have s0 := hS.out.cell (i := 0) rfl
    have s1 := hS.out.cell (i := 1) rfl
    have s2 := hS.out.cell (i := 2) rfl
    have hke : k = len := by omega
    have e : (k : Int) = len := by omega
    have hr1 := rt_yes (a := a) (b := a + t) (c := a + n) (by omega) (by omega) (by omega) (by omega)
    have m1 : us a (a + t) (a + n) = t := by unfold us; rw [hr1]; simp; omega
    have m2 : rm a (a + t) (a + n) = n - t := by unfold rm; rw [hr1]; simp; omega
    have m3 : emF a (a + t) (a + n) = a := by unfold emF; rw [hr1]; simp
    have m4 : emE a (a + t) (a + n) = a + n := by unfold emE; rw [hr1]; simp
    have m5 : IntKind.i64.wrap (t + (n - t)) = n := by rw [IntWalk.i64_in _ (by omega)]; omega
    have m6 : t + (n - t) = n := by omega
    have m7 : (t + (n - t) == n) = true := beq_iff_eq.2 m6
    have f0 := hF.out.cell (i := 0) rfl
    have f1 := hF.out.cell (i := 1) rfl
    have f2 := hF.out.cell (i := 2) rfl
    have E := Lib.hid e
    clear e m6
    go_wp2_with fail
    have hq_ := bw_cell wr
    refine wp_region_bw (by kernel_rfl) (by kernel_rfl) ?_
    repeat go_big_quiet_step (first | (go_at_call 36; exact calls_bw (used_any _ _ _ _)) | (go_at_call 35; exact calls_bw (room_any _ _ _ _)) | (go_at_call 50; exact calls_bw (empty_any _ _ _ _)) | (go_at_call 48; exact calls_bw (right_any _ _ _ _)))
    with_reducible refine wpQuiet_nil ?_
    rintro ⟨w5, hb⟩
    dsimp only
    clear hq_
    go_wp2
    go_ret
    exact ⟨rfl, hB.out.trans (hb.mono hB.out.size)⟩
set_option linter.unusedVariables false in
set_option maxHeartbeats 4000000 in
set_option maxRecDepth 100000 in
theorem takes_some (w : World) (a n : Int) (a0 : 0 ≤ a) (a1 : a ≤ 65535) (n0 : 0 ≤ n) (n1 : n ≤ 65535) (h : a + n ≤ 4096) (sb so len cap : Nat) (zs : List Int) (hl : len ≤ 200) (hsb : sb < w.heap.size) (hc : ∀ i, i < len → w.cell? ⟨sb, so + i, none⟩ = some (.int .u8 (zs.getD i 0))) (hz : ∀ i, i < len → 0 ≤ zs.getD i 0 ∧ zs.getD i 0 ≤ 255) :
    Calls Try.prog 16 #[.int .u16 a, .int .u16 n, .slice (some ⟨sb, so, none⟩) len cap] w fun e w' => e = .returned (.bool true) ∧ Below w.heap.size w w' := by
  replace hc := Lib.hid hc
  replace hz := Lib.hid hz
  go_enter Try.func16, Try.ntmps16
  go_wp2_with fail
  refine (sawake_any _).mono ?_
  rintro e w1 ⟨rfl, hb⟩
  have N_HB := Lib.hid ((Below.refl w.heap.size w).trans (hb.mono (by first | exact Nat.le_refl _ | assumption | (simp; done) | (simp; omega) | omega)))
  clear hb
  have HB_ := Lib.hid N_HB.out
  clear N_HB
  have hz_ : w.heap.size ≤ w1.heap.size := HB_.out.size
  go_wp2_with fail
  refine (new_ok a n _ (by omega) (by omega) (by omega)).mono ?_
  rintro e w2 ⟨rfl, hb⟩
  have N_HB := Lib.hid (HB_.out.trans (hb.mono (by first | exact Nat.le_refl _ | assumption | (simp; done) | (simp; omega) | omega)))
  clear hb HB_ hz_
  have HB_ := Lib.hid N_HB.out
  clear N_HB
  have hz_ : w.heap.size ≤ w2.heap.size := HB_.out.size
  go_wp2
  go_loopw [10, 45] (fun u v wr => ∃ (k : Nat) (t : Int), k ≤ len ∧ 0 ≤ t ∧ t ≤ n ∧ u = .int .i64 (a + t) ∧ v = .int .i64 k ∧ Hid (Blk wr w2.heap.size (sp3 a (a + t) (a + n)) 31) ∧ Hid (Blk wr (w2.heap.size + 1) (sp3 a a (a + n)) 31) ∧ Hid (Below w.heap.size w wr))
    (fun _ v _ => len - (intOf v).toNat)
  case atStart =>
    refine ⟨0, 0, by omega, by omega, by omega, by simp, rfl, Lib.hid ?_, Lib.hid ?_, Lib.hid ((HB_.out.alloc hz_ _).alloc (by simp; omega) _)⟩
    · rw [Int.add_zero]
      exact (Blk.new w2 (sp3 a a (a + n)) 31).alloc _
    · exact Blk.new' (by simp) (sp3 a a (a + n)) 31
  case round =>
    have hw2 := hz_
    clear HB_
    obtain ⟨k, t, hk, t0, t1, rfl, rfl, hS, hF, hB⟩ := hrel
    have ls := hS.out.lt
    have lf := hF.out.lt
    have s0 := hS.out.cell (i := 0) rfl
    have s1 := hS.out.cell (i := 1) rfl
    have s2 := hS.out.cell (i := 2) rfl
    by_cases hkl : k < len
    · have hx : wr.cell? ⟨sb, so + k, none⟩ = some (.int .u8 (zs.getD k 0)) := (hB.out.cell (p := ⟨sb, so + k, none⟩) hsb).trans (hc.out k hkl)
      obtain ⟨z0, z1⟩ := hz.out k hkl
      obtain ⟨z, hzz⟩ : ∃ z, z = zs.getD k 0 := ⟨_, rfl⟩
      rw [← hzz] at hx z0 z1
      clear hzz
      by_cases hfit : a + t + (1 + z) ≤ a + n
      · have hr2 := rt_yes (a := a) (b := a + t + (1 + z)) (c := a + n) (by omega) (by omega) (by omega) (by omega)
        have hr1 := rt_yes (a := a) (b := a + t) (c := a + n) (by omega) (by omega) (by omega) (by omega)
        have g1 := hs_yes (x := a + t) hr2 (by omega) (by omega)
        have g2 := hs_yes (x := a + t + (1 + z) - 1) hr2 (by omega) (by omega)
        have g3 := hs_no (a := a) (b := a + t + (1 + z)) (c := a + n) (x := a + t + (1 + z)) (.inr (by omega))
        have g4 := hs_no (a := a) (b := a + t) (c := a + n) (x := a + t) (.inr (by omega))
        have u1 : us a (a + t + (1 + z)) (a + n) = t + (1 + z) := by unfold us; rw [hr2]; simp; omega
        have u2 : us a (a + t) (a + n) = t := by unfold us; rw [hr1]; simp; omega
        have u3 : rm a (a + t + (1 + z)) (a + n) = n - t - (1 + z) := by unfold rm; rw [hr2]; simp; omega
        have u4 : rm a (a + t) (a + n) = n - t := by unfold rm; rw [hr1]; simp; omega
        have e1 : IntKind.i64.wrap (a + t + (1 + z)) = a + t + (1 + z) := IntWalk.i64_in _ (by omega)
        have e2 : IntKind.i64.wrap (a + t + (1 + z) - 1) = a + t + (1 + z) - 1 := IntWalk.i64_in _ (by omega)
        have e3 : IntKind.i64.wrap (t + (1 + z)) = t + (1 + z) := IntWalk.i64_in _ (by omega)
        have e4 : IntKind.i64.wrap (n - t - (1 + z)) = n - t - (1 + z) := IntWalk.i64_in _ (by omega)
        have GG := Lib.hid (And.intro e1 (And.intro e2 (And.intro e3 e4)))
        clear e1 e2 e3 e4
        go_wp2_with fail
        refine (take_ok _ _ _ _ _ (by omega) (by omega) (by omega) (by omega) (by omega) (by omega)).mono ?_
        rintro e w3 ⟨rfl, hb⟩
        have S3 := Lib.hid (hS.out.below hb ls)
        have F3 := Lib.hid (hF.out.below hb lf)
        have B3 := Lib.hid (hB.out.trans (hb.mono hB.out.size))
        clear hb hS hF hB s0 s1 s2 hx
        have s0 := S3.out.cell (i := 0) rfl
        have s1 := S3.out.cell (i := 1) rfl
        have s2 := S3.out.cell (i := 2) rfl
        have ls3 := S3.out.lt
        have hb3 := B3.out.size
        obtain ⟨e1, e2, e3, e4⟩ := GG.out
        have hq_ := bw_cell (w3.alloc (.cells #[.int .i64 a, .int .i64 (a + t + (1 + z)), .int .i64 (a + n)] 31))
        go_wp2_with fail
        refine wp_region_bw (by kernel_rfl) (by kernel_rfl) ?_
        repeat go_big_quiet_step (first | (go_at_call 34; exact calls_bw (has_any _ _ _ _ _)) | (go_at_call 36; exact calls_bw (used_any _ _ _ _)) | (go_at_call 35; exact calls_bw (room_any _ _ _ _)))
        with_reducible refine wpQuiet_nil ?_
        rintro ⟨w4, hb⟩
        dsimp only
        clear hq_ e1 e2 e3 e4
        have T4 := Lib.hid ((Blk.new w3 (sp3 a (a + t + (1 + z)) (a + n)) 31).below hb (by simp))
        have S4 := Lib.hid ((S3.out.alloc _).below hb (by simp; omega))
        have F4 := Lib.hid ((F3.out.alloc _).below hb (by have := F3.out.lt; simp; omega))
        have B4 := Lib.hid ((B3.out.alloc hb3 _).trans (hb.mono (by simp; omega)))
        clear hb S3 F3 B3 s0 s1 s2
        have t0' := T4.out.cell (i := 0) rfl
        have t1' := T4.out.cell (i := 1) rfl
        have t2' := T4.out.cell (i := 2) rfl
        have s0 := S4.out.cell (i := 0) rfl
        have s1 := S4.out.cell (i := 1) rfl
        have s2 := S4.out.cell (i := 2) rfl
        have q0 := S4.out.free 0
        have q1 := S4.out.free 1
        have q2 := S4.out.free 2
        go_wp2
        go_roundw
        case rel =>
          refine ⟨k + 1, t + (1 + z), by omega, by omega, by omega, by go_num, by go_num, Lib.hid ?_, Lib.hid (((F4.out.other _ _ (by simp)).other _ _ (by simp)).other _ _ (by simp)), Lib.hid (Below.store3 B4.out (by omega) _ _ _)⟩
          have e : a + (t + (1 + z)) = a + t + (1 + z) := by omega
          rw [e]
          exact S4.out.store3
        case measure => simp [intOf]; omega
      · have hr1 := rt_yes (a := a) (b := a + t) (c := a + n) (by omega) (by omega) (by omega) (by omega)
        go_wp2_with fail
        refine (take_full _ _ _ _ _ (by omega) hr1 (by omega)).mono ?_
        rintro e w3 ⟨rfl, hb⟩
        have S3 := Lib.hid (hS.out.below hb ls)
        have F3 := Lib.hid (hF.out.below hb lf)
        have B3 := Lib.hid (hB.out.trans (hb.mono hB.out.size))
        clear hb hS hF hB s0 s1 s2 hx
        go_wp2
        go_roundw
        case rel => exact ⟨k + 1, t, by omega, by omega, by omega, rfl, by go_num, Lib.hid (S3.out.alloc _), Lib.hid (F3.out.alloc _), Lib.hid (B3.out.alloc B3.out.size _)⟩
        case measure => simp [intOf]; omega
    · have hke : k = len := by omega
      skip
      have e : (k : Int) = len := by omega
      have hr1 := rt_yes (a := a) (b := a + t) (c := a + n) (by omega) (by omega) (by omega) (by omega)
      have m1 : us a (a + t) (a + n) = t := by unfold us; rw [hr1]; simp; omega
      have m2 : rm a (a + t) (a + n) = n - t := by unfold rm; rw [hr1]; simp; omega
      have m3 : emF a (a + t) (a + n) = a := by unfold emF; rw [hr1]; simp
      have m4 : emE a (a + t) (a + n) = a + n := by unfold emE; rw [hr1]; simp
      have m5 : IntKind.i64.wrap (t + (n - t)) = n := by rw [IntWalk.i64_in _ (by omega)]; omega
      have m6 : t + (n - t) = n := by omega
      have m7 : (t + (n - t) == n) = true := beq_iff_eq.2 m6
      have f0 := hF.out.cell (i := 0) rfl
      have f1 := hF.out.cell (i := 1) rfl
      have f2 := hF.out.cell (i := 2) rfl
      have E := Lib.hid e
      clear e m6
      go_wp2_with fail
      have hq_ := bw_cell wr
      refine wp_region_bw (by kernel_rfl) (by kernel_rfl) ?_
      repeat go_big_quiet_step (first | (go_at_call 36; exact calls_bw (used_any _ _ _ _)) | (go_at_call 35; exact calls_bw (room_any _ _ _ _)) | (go_at_call 50; exact calls_bw (empty_any _ _ _ _)) | (go_at_call 48; exact calls_bw (right_any _ _ _ _)))
      with_reducible refine wpQuiet_nil ?_
      rintro ⟨w5, hb⟩
      dsimp only
      clear hq_
      go_wp2
      go_ret
      exact ⟨rfl, hB.out.trans (hb.mono hB.out.size)⟩
theorem spaceTakes_walk (w : World) (a : Int) (wa : (Lit.int .u16 a).wf = true) (n : Int) (wn : (Lit.int .u16 n).wf = true) (s : Option Addr) (len cap : Nat) (zs : List Int) (ws : IsRow .u8 w s len cap zs) :
    Calls Try.prog 16 #[.int .u16 a, .int .u16 n, .slice s len cap] w fun e w' => e = .returned (.bool true) ∧ Below w.heap.size w w' := by
  obtain ⟨a0, a1⟩ := wf_u16 wa
  obtain ⟨n0, n1⟩ := wf_u16 wn
  by_cases hl : 200 < len
  · exact takes_long w a n s len cap hl
  · by_cases h : 4096 < a + n
    · exact takes_none w a n a0 a1 n0 n1 h s len cap (by omega)
    · by_cases hp : 0 < len
      · obtain ⟨sb, so, rfl, hsb, hlz, hc⟩ := ws.at hp
        exact takes_some w a n a0 a1 n0 n1 (by omega) sb so len cap zs (by omega) hsb hc (fun i hi => wf_u8 (ws.wf (by omega)))
      · obtain rfl : len = 0 := by omega
        exact takes_empty w a n a0 a1 n0 n1 (by omega) s cap
end Go.Proofs.Ytlhbfeddgopfjaa
