/-
  The walk of the law BitsSome: for every slice of numbers and every three numbers it returns true, and memory below the heap's old size is unchanged, where the library's table lies. No other condition.
-/
import Derived.Test.YtdfpmgpdkajhkaaDoorBits6
import Derived.Test.YtdfpmgpdkajhkaaDoorArg
import Derived.Test.YtdfpmgpdkajhkaaDoorNc
import Derived.WalkLawsBesides
namespace Go.Proofs.YtdfpmgpdkajhkaaDoor
open Go.RowKit
set_option maxRecDepth 100000 in
set_option maxHeartbeats 4000000 in
theorem bitsSome_main (w : World) (s : Option Addr) (len cap : Nat) (zs : List Int) (ws : IsRow .u16 w s len cap zs) (a b c : Int) (ha : 0 ≤ a ∧ a ≤ 65535) (hb : 0 ≤ b ∧ b ≤ 65535) (hc : 0 ≤ c ∧ c ≤ 65535) (hl : len ≤ 200) (hT : Tab w) :
    Calls Tryd.prog 6 #[.slice s len cap, .int .u16 a, .int .u16 b, .int .u16 c] w fun e w' => e = .returned (.bool true) ∧ Below w.heap.size w w' := by
  have HT := Lib.hid hT
  have HW := Lib.hid ws
  clear hT ws
  obtain ⟨ha1, ha2⟩ := ha
  obtain ⟨hb1, hb2⟩ := hb
  obtain ⟨hc1, hc2⟩ := hc
  obtain ⟨X, hX⟩ : ∃ X, (if c < (if b < a then b else a) then c else (if b < a then b else a)) = X := ⟨_, rfl⟩
  obtain ⟨Z, hZ⟩ : ∃ Z, (if (if a < b then b else a) < c then c else (if a < b then b else a)) = Z := ⟨_, rfl⟩
  obtain ⟨Y, hY⟩ : ∃ Y, a + b + c - X - Z = Y := ⟨_, rfl⟩
  have hXY : 0 ≤ X ∧ X ≤ Y ∧ Y ≤ Z ∧ Z ≤ 65535 := by
    by_cases h1 : b < a
    · have h2 : ¬ a < b := by omega
      simp only [h1, h2, if_true, if_false] at hX hZ
      by_cases h3 : c < b <;> by_cases h4 : a < c <;> simp only [h3, h4, if_true, if_false] at hX hZ <;> omega
    · simp only [h1, if_false] at hX
      by_cases h2 : a < b <;> simp only [h2, if_true, if_false] at hZ <;> by_cases h3 : c < a <;> simp only [h3, if_true, if_false] at hX <;> (split at hZ <;> omega)
  obtain ⟨hX0, hXY, hYZ, hZ1⟩ := hXY
  replace hX := Lib.hid hX
  replace hZ := Lib.hid hZ
  replace hY := Lib.hid hY
  go_enter Tryd.func6, Tryd.ntmps6
  go_wp2_with fail
  refine (awake3_any HT.out).mono ?_
  rintro e w1 ⟨rfl, hB⟩
  have HB := Lib.hid hB
  have HT1 := Lib.hid (HT.out.below hB HT.out.2)
  clear hB
  go_wp2_with fail
  refine (new_any HT1.out 4096).mono ?_
  rintro e w2 ⟨m, g, rfl, hb, hg, hM, hB⟩
  rw [plc4096] at hM
  have H0 := Lib.hid hM
  have HB2 := Lib.hid (HB.out.trans (hB.mono HB.out.size))
  have HG := Lib.hid (Nat.le_trans HB.out.size hg)
  clear hM hB hg hb HB HT1
  go_wp2
  go_loopw [26] (fun i wr => ∃ k : Nat, k ≤ len ∧ i = .int .i64 k ∧ Hid (BM wr m g 4096 (adds 4096 zs k)) ∧ Hid (Below w.heap.size w wr)) (fun i _ => len - (intOf i).toNat)
  case atStart => exact ⟨0, Nat.zero_le _, rfl, H0, HB2⟩
  case round =>
    clear H0 HB2
    obtain ⟨k, hk, rfl, H0, HB⟩ := hrel
    by_cases hkl : k < len
    · obtain ⟨sb, so, rfl, hsb, hlz, hcell⟩ := HW.out.at (by omega)
      have hx : wr.cell? ⟨sb, so + k, none⟩ = some (.int .u16 (zs.getD k 0)) := (HB.out.cell (p := ⟨sb, so + k, none⟩) hsb).trans (hcell k hkl)
      obtain ⟨x0, x1⟩ := wf_u16 (HW.out.wf (i := k) (by omega))
      clear hcell
      obtain ⟨x, hxx⟩ : ∃ x, x = zs.getD k 0 := ⟨_, rfl⟩
      rw [← hxx] at hx x0 x1
      have HX := Lib.hid hxx
      clear hxx
      go_wp2_with fail
      refine (set_any H0.out _).mono ?_
      rintro e w3 ⟨rfl, hM, hG⟩
      have H1 := Lib.hid hM
      have HB1 := Lib.hid (below_only HB.out hG HB.out.size HG.out)
      clear hM hG
      go_wp2
      go_roundw
      case rel => exact ⟨k + 1, by omega, by go_num, by rw [HX.out] at H1; exact H1, HB1⟩
      case measure => simp [intOf]; omega
    · have hke : k = len := by omega
      clear hk
      have hM := H0.out.lt
      generalize hMM : adds 4096 zs k = M at H0 hM
      clear hMM
      have S1 := betM_split (n := 4096) (M := M) hXY hYZ
      have S0 : Z ≤ X → betM 4096 M X Z = 0 := betM_empty
      have SE : betM 4096 M Z X = 0 := betM_empty (by omega)
      have l1 := betM_le 4096 M X Y
      have l2 := betM_le 4096 M Y Z
      obtain ⟨p, hp⟩ : ∃ p, p = betM 4096 M X Y := ⟨_, rfl⟩
      obtain ⟨q, hq⟩ : ∃ q, q = betM 4096 M Y Z := ⟨_, rfl⟩
      rw [← hp] at l1 S1
      rw [← hq] at l2 S1
      have HP := Lib.hid hp
      have HQ := Lib.hid hq
      have HS : Hid (((betM 4096 M X Z : Nat) : Int) = (p : Int) + (q : Int)) := by show ((betM 4096 M X Z : Nat) : Int) = (p : Int) + (q : Int); omega
      have HE := Lib.hid SE
      clear S1 S0 SE hp hq
      have hXf := hX.out
      have hZf := hZ.out
      have hYf := hY.out
      rcases nextM_cases hM 0 with ⟨e1, _⟩ | ⟨j, e1, _, hj, _, _⟩
      · have E1 := Lib.hid e1
        clear e1 hM
        by_cases hxz : Z = X
        · have hb : (Z == X) = true := by simp [hxz]
          replace hxz := Lib.hid hxz
          go_wp2_with fail
          refine (next_any H0.out _).mono ?_
          rintro e w_ ⟨rfl, rfl⟩
          rw [E1.out]
          go_wp2_with fail
          refine (between_any H0.out _ _).mono ?_
          rintro e w_ ⟨rfl, rfl⟩
          rw [← HP.out]
          go_wp2_with fail
          refine (between_any H0.out _ _).mono ?_
          rintro e w_ ⟨rfl, rfl⟩
          rw [← HQ.out]
          go_wp2_with fail
          refine (between_any H0.out _ _).mono ?_
          rintro e w_ ⟨rfl, rfl⟩
          rw [HS.out]
          go_wp2
          go_ret
          exact ⟨rfl, HB.out⟩
        · have hb : (Z == X) = false := by simp [hxz]
          replace hxz := Lib.hid hxz
          go_wp2_with fail
          refine (next_any H0.out _).mono ?_
          rintro e w_ ⟨rfl, rfl⟩
          rw [E1.out]
          go_wp2_with fail
          refine (between_any H0.out _ _).mono ?_
          rintro e w_ ⟨rfl, rfl⟩
          rw [← HP.out]
          go_wp2_with fail
          refine (between_any H0.out _ _).mono ?_
          rintro e w_ ⟨rfl, rfl⟩
          rw [← HQ.out]
          go_wp2_with fail
          refine (between_any H0.out _ _).mono ?_
          rintro e w_ ⟨rfl, rfl⟩
          rw [HS.out]
          go_wp2_with fail
          refine (between_any H0.out _ _).mono ?_
          rintro e w_ ⟨rfl, rfl⟩
          rw [HE.out]
          go_wp2
          go_ret
          exact ⟨rfl, HB.out⟩
      · obtain ⟨f1, f2⟩ := betM_first hM e1
        have E1 := Lib.hid e1
        have F1 := Lib.hid f1
        have F2 := Lib.hid f2
        clear e1 hM f1 f2
        by_cases hxz : Z = X
        · have hb : (Z == X) = true := by simp [hxz]
          replace hxz := Lib.hid hxz
          go_wp2_with fail
          refine (next_any H0.out _).mono ?_
          rintro e w_ ⟨rfl, rfl⟩
          rw [E1.out]
          go_wp2_with fail
          refine (between_any H0.out _ _).mono ?_
          rintro e w_ ⟨rfl, rfl⟩
          rw [← HP.out]
          go_wp2_with fail
          refine (between_any H0.out _ _).mono ?_
          rintro e w_ ⟨rfl, rfl⟩
          rw [← HQ.out]
          go_wp2_with fail
          refine (between_any H0.out _ _).mono ?_
          rintro e w_ ⟨rfl, rfl⟩
          rw [HS.out]
          go_wp2_with fail
          refine (between_any H0.out _ _).mono ?_
          rintro e w_ ⟨rfl, rfl⟩
          rw [F1.out]
          go_wp2_with fail
          refine (has_any H0.out _).mono ?_
          rintro e w_ ⟨rfl, rfl⟩
          rw [F2.out]
          go_wp2
          go_ret
          exact ⟨rfl, HB.out⟩
        · have hb : (Z == X) = false := by simp [hxz]
          replace hxz := Lib.hid hxz
          go_wp2_with fail
          refine (next_any H0.out _).mono ?_
          rintro e w_ ⟨rfl, rfl⟩
          rw [E1.out]
          go_wp2_with fail
          refine (between_any H0.out _ _).mono ?_
          rintro e w_ ⟨rfl, rfl⟩
          rw [← HP.out]
          go_wp2_with fail
          refine (between_any H0.out _ _).mono ?_
          rintro e w_ ⟨rfl, rfl⟩
          rw [← HQ.out]
          go_wp2_with fail
          refine (between_any H0.out _ _).mono ?_
          rintro e w_ ⟨rfl, rfl⟩
          rw [HS.out]
          go_wp2_with fail
          refine (between_any H0.out _ _).mono ?_
          rintro e w_ ⟨rfl, rfl⟩
          rw [HE.out]
          go_wp2_with fail
          refine (between_any H0.out _ _).mono ?_
          rintro e w_ ⟨rfl, rfl⟩
          rw [F1.out]
          go_wp2_with fail
          refine (has_any H0.out _).mono ?_
          rintro e w_ ⟨rfl, rfl⟩
          rw [F2.out]
          go_wp2
          go_ret
          exact ⟨rfl, HB.out⟩
set_option maxRecDepth 100000 in
set_option maxHeartbeats 4000000 in
theorem bitsSome_long (w : World) (s : Option Addr) (len cap : Nat) (a b c : Int) (hl : 200 < len) (hT : Tab w) :
    Calls Tryd.prog 6 #[.slice s len cap, .int .u16 a, .int .u16 b, .int .u16 c] w fun e w' => e = .returned (.bool true) ∧ Below w.heap.size w w' := by
  have HT := Lib.hid hT
  clear hT
  go_enter Tryd.func6, Tryd.ntmps6
  go_wp2_with fail
  refine (awake3_any HT.out).mono ?_
  rintro e w1 ⟨rfl, hB⟩
  have HB := Lib.hid hB
  have HT1 := Lib.hid (HT.out.below hB HT.out.2)
  clear hB
  go_wp2_with fail
  refine (awake3_any HT1.out).mono ?_
  rintro e w2 ⟨rfl, hB⟩
  have HB2 := Lib.hid (HB.out.trans (hB.mono HB.out.size))
  clear hB
  go_wp2
  go_ret
  exact ⟨rfl, HB2.out⟩
theorem bitsSome_walk (w : World) (s : Option Addr) (len cap : Nat) (zs : List Int) (ws : IsRow .u16 w s len cap zs) (a : Int) (wa : (Lit.int .u16 a).wf = true) (b : Int) (wb : (Lit.int .u16 b).wf = true) (c : Int) (wc : (Lit.int .u16 c).wf = true) (hT : Tab w) :
    Calls Tryd.prog 6 #[.slice s len cap, .int .u16 a, .int .u16 b, .int .u16 c] w fun e w' => e = .returned (.bool true) ∧ Below w.heap.size w w' := by
  by_cases hl : len ≤ 200
  · exact bitsSome_main w s len cap zs ws a b c (wf_u16 wa) (wf_u16 wb) (wf_u16 wc) hl hT
  · exact bitsSome_long w s len cap a b c (by omega) hT
end Go.Proofs.YtdfpmgpdkajhkaaDoor
