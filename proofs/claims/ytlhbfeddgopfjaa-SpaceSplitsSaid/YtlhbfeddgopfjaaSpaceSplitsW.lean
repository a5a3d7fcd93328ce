/-
  The walk of the law SpaceSplits: for every from and every slice of ints it returns true, and memory below the heap's old size is unchanged. No condition.
-/
import Derived.Test.YtlhbfeddgopfjaaSpl
import Derived.Test.YtlhbfeddgopfjaaArg
namespace Go.Proofs.Ytlhbfeddgopfjaa
open Go.RowKit Go.Proofs.Ytlhbfeddgopfjaa.PSpaceSplits Go.Proofs.YtlhbfeddgopfjaaW.PrintWords Go.Proofs.YtlhbfeddgopfjaaW.PrintLast
set_option linter.unusedVariables false in
set_option maxHeartbeats 4000000 in
set_option maxRecDepth 100000 in
theorem splits_long (w : World) (a : Int) (s : Option Addr) (len cap : Nat) (hl : 200 < len) :
    Calls Try.prog 19 #[.int .i64 a, .slice s len cap] w fun e w' => e = .returned (.bool true) ∧ Below w.heap.size w w' := by
  go_enter Try.func19, Try.ntmps19
  go_wp2_with fail
  refine (sawake_any _).mono ?_
  rintro e w1 ⟨rfl, hb⟩
  have N_HB := Lib.hid ((Below.refl w.heap.size w).trans (hb.mono (by first | exact Nat.le_refl _ | assumption | (simp; done) | (simp; omega) | omega)))
  clear hb
  have HB_ := Lib.hid N_HB.out
  clear N_HB
  have hz_ : w.heap.size ≤ w1.heap.size := HB_.out.size
  go_wp2_with fail
  refine (sawake_any _).mono ?_
  rintro e w2 ⟨rfl, hb⟩
  have N_HB := Lib.hid (HB_.out.trans (hb.mono (by first | exact Nat.le_refl _ | assumption | (simp; done) | (simp; omega) | omega)))
  clear hb HB_ hz_
  have HB_ := Lib.hid N_HB.out
  clear N_HB
  go_wp2
  go_ret
  exact ⟨rfl, HB_.out⟩
set_option linter.unusedVariables false in
set_option maxHeartbeats 4000000 in
set_option maxRecDepth 100000 in
theorem splits_bad (w : World) (a : Int) (s : Option Addr) (cap : Nat) (zs : List Int) (hl : zs.length ≤ 200) (hC : Kd.C (Kd.int .i64) w s zs.length zs) (hc : zs.length ≤ cap)
    (h1 : space_Split.f 201 a zs = some ([], 1)) (h2 : gleaningref02_Split.f 201 a zs = some ([], 1)) :
    Calls Try.prog 19 #[.int .i64 a, .slice s zs.length cap] w fun e w' => e = .returned (.bool true) ∧ Below w.heap.size w w' := by
  replace h1 := Lib.hid h1
  replace h2 := Lib.hid h2
  replace hC := Lib.hid hC
  obtain ⟨len, hlen⟩ : ∃ len, len = zs.length := ⟨_, rfl⟩
  have HL := Lib.hid hlen
  rw [← hlen] at hl hc ⊢
  clear hlen
  go_enter Try.func19, Try.ntmps19
  go_wp2_with fail
  refine (sawake_any _).mono ?_
  rintro e w1 ⟨rfl, hb⟩
  have HB_ := Lib.hid hb
  have C1 := Lib.hid (Kd.C_below hC.out hb)
  clear hb hC
  go_wp2_with fail
  rw [HL.out]
  refine (space_Split.calls 201 a s cap zs [] 1 _ C1.out (by rw [← HL.out]; exact hc) h1.out).mono ?_
  rintro e w2 ⟨v0, rfl, hR, hb⟩
  obtain ⟨A, c, rfl⟩ := Kd.R_slice hR
  have HB2 := Lib.hid (HB_.out.trans (hb.mono HB_.out.size))
  have C2 := Lib.hid (Kd.C_below C1.out hb)
  clear hb HB_ C1 hR
  rw [← HL.out]
  go_wp2_with fail
  rw [HL.out]
  refine (gleaningref02_Split.calls 201 a s cap zs [] 1 _ C2.out (by rw [← HL.out]; exact hc) h2.out).mono ?_
  rintro e w3 ⟨v0, rfl, hR, hb⟩
  obtain ⟨A', c', rfl⟩ := Kd.R_slice hR
  have HB3 := Lib.hid (HB2.out.trans (hb.mono HB2.out.size))
  clear hb HB2 C2 hR
  go_wp2
  go_loopw [42] (fun v wr => v = .int .i64 0 ∧ Hid (Below w.heap.size w wr)) (fun _ _ => 0)
  case atStart => exact ⟨rfl, Lib.hid HB3.out⟩
  case round =>
    obtain ⟨rfl, hB⟩ := hrel
    go_wp2
    go_ret
    exact ⟨rfl, hB.out⟩
set_option linter.unusedVariables false in
set_option maxHeartbeats 4000000 in
set_option maxRecDepth 100000 in
theorem splits_none (w : World) (a : Int) (s : Option Addr) (cap : Nat) (zs : List Int) (hl : zs.length ≤ 200) (hC : Kd.C (Kd.int .i64) w s zs.length zs) (hc : zs.length ≤ cap)
    (h1 : space_Split.f 201 a zs = some ([], 0)) (h2 : gleaningref02_Split.f 201 a zs = some ([], 0)) :
    Calls Try.prog 19 #[.int .i64 a, .slice s zs.length cap] w fun e w' => e = .returned (.bool true) ∧ Below w.heap.size w w' := by
  replace h1 := Lib.hid h1
  replace h2 := Lib.hid h2
  replace hC := Lib.hid hC
  obtain ⟨len, hlen⟩ : ∃ len, len = zs.length := ⟨_, rfl⟩
  have HL := Lib.hid hlen
  rw [← hlen] at hl hc ⊢
  clear hlen
  go_enter Try.func19, Try.ntmps19
  go_wp2_with fail
  refine (sawake_any _).mono ?_
  rintro e w1 ⟨rfl, hb⟩
  have HB_ := Lib.hid hb
  have C1 := Lib.hid (Kd.C_below hC.out hb)
  clear hb hC
  go_wp2_with fail
  rw [HL.out]
  refine (space_Split.calls 201 a s cap zs [] 0 _ C1.out (by rw [← HL.out]; exact hc) h1.out).mono ?_
  rintro e w2 ⟨v0, rfl, hR, hb⟩
  obtain ⟨A, c, rfl⟩ := Kd.R_slice hR
  have HB2 := Lib.hid (HB_.out.trans (hb.mono HB_.out.size))
  have C2 := Lib.hid (Kd.C_below C1.out hb)
  clear hb HB_ C1 hR
  rw [← HL.out]
  go_wp2_with fail
  rw [HL.out]
  refine (gleaningref02_Split.calls 201 a s cap zs [] 0 _ C2.out (by rw [← HL.out]; exact hc) h2.out).mono ?_
  rintro e w3 ⟨v0, rfl, hR, hb⟩
  obtain ⟨A', c', rfl⟩ := Kd.R_slice hR
  have HB3 := Lib.hid (HB2.out.trans (hb.mono HB2.out.size))
  clear hb HB2 C2 hR
  go_wp2
  go_loopw [42] (fun v wr => v = .int .i64 0 ∧ Hid (Below w.heap.size w wr)) (fun _ _ => 0)
  case atStart => exact ⟨rfl, Lib.hid HB3.out⟩
  case round =>
    obtain ⟨rfl, hB⟩ := hrel
    go_wp2
    go_ret
    exact ⟨rfl, hB.out⟩
set_option linter.unusedVariables false in
set_option maxHeartbeats 4000000 in
set_option maxRecDepth 100000 in
theorem splits_good (w : World) (a : Int) (sb so cap : Nat) (zs : List Int) (hl : zs.length ≤ 200) (hp : 0 < zs.length) (hC : Kd.C (Kd.int .i64) w (some ⟨sb, so, none⟩) zs.length zs) (hc : zs.length ≤ cap)
    (hsb : sb < w.heap.size) (hcell : ∀ i, i < zs.length → w.cell? ⟨sb, so + i, none⟩ = some (.int .i64 (zs.getD i 0)))
    (h1 : space_Split.f 201 a zs = some (spP a zs zs.length, 0)) (h2 : gleaningref02_Split.f 201 a zs = some (spQ a zs zs.length, 0)) (hf : spFit a zs zs.length) :
    Calls Try.prog 19 #[.int .i64 a, .slice (some ⟨sb, so, none⟩) zs.length cap] w fun e w' => e = .returned (.bool true) ∧ Below w.heap.size w w' := by
  replace h1 := Lib.hid h1
  replace h2 := Lib.hid h2
  replace hC := Lib.hid hC
  replace hcell := Lib.hid hcell
  replace hf := Lib.hid hf
  obtain ⟨len, hlen⟩ : ∃ len, len = zs.length := ⟨_, rfl⟩
  have HL := Lib.hid hlen
  rw [← hlen] at hl hc hp ⊢
  clear hlen
  go_enter Try.func19, Try.ntmps19
  go_wp2_with fail
  refine (sawake_any _).mono ?_
  rintro e w1 ⟨rfl, hb⟩
  have HB_ := Lib.hid hb
  have C1 := Lib.hid (Kd.C_below hC.out hb)
  clear hb hC
  go_wp2_with fail
  rw [HL.out]
  refine (space_Split.calls 201 a _ cap zs _ 0 _ C1.out (by rw [← HL.out]; exact hc) h1.out).mono ?_
  rintro e w2 ⟨v0, rfl, hR, hb⟩
  obtain ⟨A, c, rfl⟩ := Kd.R_slice hR
  rw [spP_len] at hR ⊢
  obtain ⟨_, g, rfl, hG⟩ := row3_P hR (by rw [← HL.out]; exact hp)
  have HB2 := Lib.hid (HB_.out.trans (hb.mono HB_.out.size))
  have C2 := Lib.hid (Kd.C_below C1.out hb)
  replace hG := Lib.hid hG
  clear hb HB_ C1 hR
  rw [← HL.out]
  go_wp2_with fail
  rw [HL.out]
  refine (gleaningref02_Split.calls 201 a _ cap zs _ 0 _ C2.out (by rw [← HL.out]; exact hc) h2.out).mono ?_
  rintro e w3 ⟨v0, rfl, hR, hb⟩
  obtain ⟨A', c', rfl⟩ := Kd.R_slice hR
  rw [spQ_len] at hR ⊢
  obtain ⟨_, g', rfl, hG'⟩ := row3_Q hR (by rw [← HL.out]; exact hp)
  have HB3 := Lib.hid (HB2.out.trans (hb.mono HB2.out.size))
  have HG := Lib.hid (hG.out.below hb)
  have HG' := Lib.hid hG'
  clear hb HB2 C2 hR hG hG'
  rw [← HL.out]
  rw [← HL.out] at HG HG'
  go_wp2
  go_loopw [42] (fun v wr => ∃ k : Nat, k ≤ len ∧ v = .int .i64 k ∧ Hid (Below w.heap.size w wr) ∧ Hid (Row3 wr g len (fun i => a + spSum zs i)) ∧ Hid (Row3 wr g' len (fun i => a + spSum zs i))) (fun v _ => len - (intOf v).toNat)
  case atStart => exact ⟨0, by omega, rfl, Lib.hid HB3.out, Lib.hid HG.out, Lib.hid HG'.out⟩
  case round =>
    clear HB3 HG HG'
    obtain ⟨k, hk, rfl, hB, hG, hG'⟩ := hrel
    by_cases hkl : k < len
    · obtain ⟨lg, hcg⟩ := hG.out
      obtain ⟨lg', hcg'⟩ := hG'.out
      obtain ⟨p0, p1, p2⟩ := hcg k hkl
      obtain ⟨q0, q1, q2⟩ := hcg' k hkl
      have hx : wr.cell? ⟨sb, so + k, none⟩ = some (.int .i64 (zs.getD k 0)) := (hB.out.cell (p := ⟨sb, so + k, none⟩) hsb).trans (hcell.out k (by rw [← HL.out]; exact hkl))
      have lsb : sb < wr.heap.size := Nat.lt_of_lt_of_le hsb hB.out.size
      obtain ⟨f0, f1, f2⟩ := hf.out k (by rw [← HL.out]; exact hkl)
      dsimp only at p0 p1 p2 q0 q1 q2
      have ex : a + spSum zs (k + 1) = a + spSum zs k + zs.getD k 0 := by rw [spSum_succ]; omega
      rw [ex] at p2 q2 f2
      clear ex
      obtain ⟨x, hxx⟩ : ∃ x, x = a + spSum zs k := ⟨_, rfl⟩
      obtain ⟨z, hzz⟩ : ∃ z, z = zs.getD k 0 := ⟨_, rfl⟩
      rw [← hxx, ← hzz] at p2 q2 f2
      rw [← hxx] at p0 p1 q0 q1 f0
      rw [← hzz] at hx f1
      have hr := rt_yes (a := x) (b := x) (c := x + z) (by omega) (by omega) (by omega) (by omega)
      have m1 : us x x (x + z) = 0 := by unfold us; rw [hr]; simp
      have m2 : rm x x (x + z) = z := by unfold rm; rw [hr]; simp; omega
      have hq_ := bw_cell wr
      have hB' := Lib.hid hB.out
      by_cases hk0 : k = 0
      · have hz0 : decide ((k : Int) > 0) = false := decide_eq_false (by omega)
        rw [hk0] at p0 p1 p2 q0 q1 q2 hx
        replace p0 : wr.cell? ⟨g, 0, none⟩ = some (.int .i64 x) := by simpa using p0
        replace p1 : wr.cell? ⟨g, 1, none⟩ = some (.int .i64 x) := by simpa using p1
        replace p2 : wr.cell? ⟨g, 2, none⟩ = some (.int .i64 (x + z)) := by simpa using p2
        replace q0 : wr.cell? ⟨g', 0, none⟩ = some (.int .i64 x) := by simpa using q0
        replace q1 : wr.cell? ⟨g', 1, none⟩ = some (.int .i64 x) := by simpa using q1
        replace q2 : wr.cell? ⟨g', 2, none⟩ = some (.int .i64 (x + z)) := by simpa using q2
        replace hx : wr.cell? ⟨sb, so, none⟩ = some (.int .i64 z) := by simpa using hx
        clear hcg hcg' hxx hzz
        go_wp2_with fail
        refine wp_region_bw (by kernel_rfl) (by kernel_rfl) ?_
        repeat go_big_quiet_step (first | (go_at_call 36; exact calls_bw (used_any _ _ _ _)) | (go_at_call 35; exact calls_bw (room_any _ _ _ _)))
        with_reducible refine wpQuiet_nil ?_
        rintro ⟨w5, hb⟩
        dsimp only
        clear hq_
        go_wp2
        go_roundw
        case rel => exact ⟨k + 1, by omega, by go_num, Lib.hid (hB'.out.trans (hb.mono hB'.out.size)), Lib.hid (hG.out.below hb), Lib.hid (hG'.out.below hb)⟩
        case measure => simp [intOf]; omega
      · obtain ⟨j, rfl⟩ : ∃ j, k = j + 1 := ⟨k - 1, by omega⟩
        have hz0 : decide (((j + 1 : Nat) : Int) > 0) = true := decide_eq_true (by omega)
        have ej : IntKind.i64.wrap (((j + 1 : Nat) : Int) - 1) = (j : Int) := by rw [IntWalk.i64_in _ (by omega)]; omega
        obtain ⟨_, _, r2⟩ := hcg j (by omega)
        dsimp only at r2
        rw [← hxx] at r2
        clear hcg hcg' hxx hzz
        go_wp2_with fail
        refine wp_region_bw (by kernel_rfl) (by kernel_rfl) ?_
        repeat go_big_quiet_step (first | (go_at_call 36; exact calls_bw (used_any _ _ _ _)) | (go_at_call 35; exact calls_bw (room_any _ _ _ _)))
        with_reducible refine wpQuiet_nil ?_
        rintro ⟨w5, hb⟩
        dsimp only
        clear hq_
        go_wp2
        go_roundw
        case rel => exact ⟨j + 1 + 1, by omega, by go_num, Lib.hid (hB'.out.trans (hb.mono hB'.out.size)), Lib.hid (hG.out.below hb), Lib.hid (hG'.out.below hb)⟩
        case measure => simp [intOf]; omega
    · have hke : k = len := by omega
      go_wp2
      go_ret
      exact ⟨rfl, hB.out⟩
set_option linter.unusedVariables false in
theorem spaceSplits_walk (w : World) (a : Int) (wa : (Lit.int .i64 a).wf = true) (s : Option Addr) (len cap : Nat) (zs : List Int) (ws : IsRow .i64 w s len cap zs) :
    Calls Try.prog 19 #[.int .i64 a, .slice s len cap] w fun e w' => e = .returned (.bool true) ∧ Below w.heap.size w w' := by
  by_cases hl : 200 < len
  · exact splits_long w a s len cap hl
  obtain ⟨l1, rfl, hr1, hm1, hw1, hc1⟩ := ReadsInt.ofRowC ws
  have hC : Kd.C (Kd.int .i64) w s l1.length l1 := Kd.C_of_reads (d := (0 : Int)) (h1 := fun _ => rfl) hr1
  have hn : l1.length ≤ 200 := by omega
  have e0 : a + spSum l1 0 = a := by simp [spSum]
  have G := spGo (a := a) hn l1.length 0 201 (by omega) (by omega) (fun j hj => by omega)
  rw [e0] at G
  rcases G with ⟨g1, g2, hf⟩ | ⟨g1, g2⟩
  · by_cases hp : 0 < l1.length
    · obtain ⟨sb, so, rfl, hsb, _, _⟩ := ws.at hp
      refine splits_good w a sb so cap l1 hn hp hC hc1 hsb (fun i hi => ?_) g1 g2 hf
      obtain ⟨ad, e, h⟩ := Kd.at_int hC i (by omega) (by omega)
      obtain rfl := Option.some.inj e
      have er : rd l1 (i : Int) = l1.getD i 0 := by unfold rd; simp
      rw [er, Int.toNat_natCast] at h
      have ea : Addr.add ⟨sb, so, none⟩ i = ⟨sb, so + i, none⟩ := by by_cases ei : i = 0 <;> simp [Addr.add, ei]
      rw [ea] at h
      exact h
    · have hz : l1.length = 0 := by omega
      rw [hz] at g1 g2
      refine splits_none w a s cap l1 hn hC hc1 ?_ ?_
      · unfold space_Split.f; rw [hz]; exact g1
      · unfold gleaningref02_Split.f; rw [hz]; exact g2
  · exact splits_bad w a s cap l1 hn hC hc1 g1 g2
end Go.Proofs.Ytlhbfeddgopfjaa
