/-
  The walk of gleaninglaw03.awake: it returns true, where the library's table lies. Functions of package bits at the nil map and at the zero map. Premises in each theorem.
-/
import Derived.Test.YtdfpmgpdkajhkaaDoorBits5
namespace Go.Proofs.YtdfpmgpdkajhkaaDoor
open Go.RowKit
theorem plc100 : plc 100 = 100 := by decide
theorem plc4096 : plc 4096 = 4096 := by decide
set_option maxHeartbeats 1000000 in
theorem awake3_any {w : World} (hT : Tab w) : Calls Tryd.prog 30 #[] w fun e w' => e = .returned (.bool true) ∧ Below w.heap.size w w' := by
  have HT := Lib.hid hT
  clear hT
  go_enter Tryd.func30, Tryd.ntmps30
  go_wp2_with fail
  refine (new_any HT.out 100).mono ?_
  rintro e w1 ⟨b, g, rfl, hb, hg, hM, hB⟩
  rw [plc100] at hM
  have H0 := Lib.hid hM
  have HB := Lib.hid hB
  have HG := Lib.hid hg
  clear hM hB hg
  go_wp2_with fail
  refine (set_any H0.out 70).mono ?_
  rintro e w2 ⟨rfl, hM, hG⟩
  rw [show newB 100 0 70 = true by decide]
  have H1 := Lib.hid hM
  have B1 := Lib.hid (below_only HB.out hG HB.out.size HG.out)
  clear hM hG H0
  go_wp2_with fail
  refine (set_any H1.out 70).mono ?_
  rintro e w3 ⟨rfl, hM, hG⟩
  rw [show newB 100 (setM 100 0 70) 70 = false by decide]
  rw [show setM 100 (setM 100 0 70) 70 = setM 100 0 70 by decide] at hM
  have H2 := Lib.hid hM
  have B2 := Lib.hid (below_only B1.out hG B1.out.size HG.out)
  clear hM hG H1
  go_wp2_with fail
  refine (next_any H2.out 3).mono ?_
  rintro e w4 ⟨rfl, rfl⟩
  rw [show nextM 100 (setM 100 0 70) 3 = 70 by decide]
  go_wp2_with fail
  refine (count_any H2.out).mono ?_
  rintro e w4 ⟨rfl, rfl⟩
  rw [show popM 100 (setM 100 0 70) = 1 by decide]
  go_wp2_with fail
  refine (len_any H2.out).mono ?_
  rintro e w4 ⟨rfl, rfl⟩
  go_wp2
  go_ret
  exact ⟨rfl, B2.out⟩
/-- A map without places: nil, or one that says so. -/
def Emp (w : World) (v : Value) : Prop := v = .pointer none ∨ ∃ b, v = .pointer (some ⟨b, 0, none⟩) ∧ w.cell? ⟨b, 1, none⟩ = some (.int .i64 0)
theorem len_emp {w : World} {v : Value} (h : Emp w v) : Calls Tryd.prog 37 #[v] w fun e w' => e = .returned (.int .i64 0) ∧ w = w' := by
  rcases h with rfl | ⟨b, rfl, hc⟩
  · exact len_nil w
  · exact len_at w b 0 hc
theorem there_emp {w : World} {v : Value} (h : Emp w v) (x : Int) : Calls Tryd.prog 64 #[v, .int .i64 x] w fun e w' => e = .returned (.bool false) ∧ w = w' := by
  rcases h with rfl | ⟨b, rfl, hc⟩
  · exact there_nil w x
  · have := there_at w b 0 x hc
    rwa [decide_eq_false (by omega)] at this
set_option maxHeartbeats 400000 in
theorem has_emp {w : World} {v : Value} (h : Emp w v) (x : Int) : Calls Tryd.prog 34 #[v, .int .i64 x] w fun e w' => e = .returned (.bool false) ∧ w = w' := by
  have H := Lib.hid h
  clear h
  go_enter Tryd.func34, Tryd.ntmps34
  go_wp2_with (go_at_call 64; refine (there_emp H.out x).mono ?_; rintro e w' ⟨rfl, rfl⟩)
  go_ret
  exact ⟨rfl, rfl⟩
set_option maxHeartbeats 400000 in
theorem set_emp {w : World} {v : Value} (h : Emp w v) (x : Int) : Calls Tryd.prog 32 #[v, .int .i64 x] w fun e w' => e = .returned (.bool false) ∧ w = w' := by
  have H := Lib.hid h
  clear h
  go_enter Tryd.func32, Tryd.ntmps32
  go_wp2_with (go_at_call 64; refine (there_emp H.out x).mono ?_; rintro e w' ⟨rfl, rfl⟩)
  go_ret
  exact ⟨rfl, rfl⟩
set_option maxHeartbeats 400000 in
theorem clear_emp {w : World} {v : Value} (h : Emp w v) (x : Int) : Calls Tryd.prog 38 #[v, .int .i64 x] w fun e w' => e = .returned (.bool false) ∧ w = w' := by
  have H := Lib.hid h
  clear h
  go_enter Tryd.func38, Tryd.ntmps38
  go_wp2_with (go_at_call 34; refine (has_emp H.out x).mono ?_; rintro e w' ⟨rfl, rfl⟩)
  go_ret
  exact ⟨rfl, rfl⟩
set_option maxHeartbeats 400000 in
theorem next_emp {w : World} {v : Value} (h : Emp w v) (x : Int) : Calls Tryd.prog 33 #[v, .int .i64 x] w fun e w' => e = .returned (.int .i64 (-1)) ∧ w = w' := by
  have H := Lib.hid h
  clear h
  obtain ⟨m0, hm0⟩ : ∃ m0 : Nat, (if x < 0 then 0 else x) = (m0 : Int) := ⟨x.toNat, by split <;> omega⟩
  go_enter Tryd.func33, Tryd.ntmps33
  go_wp2
  go_step3
  go_wp2
  go_step3
  clear hm0
  go_wp2_with (go_at_call 64; refine (there_emp H.out m0).mono ?_; rintro e w' ⟨rfl, rfl⟩)
  rw [Exit.noGoto_ret]
  go_ret
  exact ⟨rfl, rfl⟩
set_option maxHeartbeats 400000 in
theorem between_emp {w : World} {v : Value} (h : Emp w v) (x y : Int) : Calls Tryd.prog 36 #[v, .int .i64 x, .int .i64 y] w fun e w' => e = .returned (.int .i64 0) ∧ w = w' := by
  have H := Lib.hid h
  clear h
  go_enter Tryd.func36, Tryd.ntmps36
  go_wp2_with (go_at_call 33; refine (next_emp H.out x).mono ?_; rintro e w' ⟨rfl, rfl⟩)
  go_loop [7, 8] (fun c a => c = .int .i64 0 ∧ a = .int .i64 (-1)) (fun _ _ => 0)
  case atStart => exact ⟨rfl, rfl⟩
  case round =>
    obtain ⟨rfl, rfl⟩ := hrel
    go_wp2
    go_ret
    exact ⟨rfl, rfl⟩
set_option maxHeartbeats 400000 in
theorem count_emp {w : World} {v : Value} (h : Emp w v) : Calls Tryd.prog 35 #[v] w fun e w' => e = .returned (.int .i64 0) ∧ w = w' := by
  have H := Lib.hid h
  clear h
  go_enter Tryd.func35, Tryd.ntmps35
  go_wp2_with (first | (go_at_call 37; refine (len_emp H.out).mono ?_; rintro e w' ⟨rfl, rfl⟩) | (go_at_call 36; refine (between_emp H.out 0 0).mono ?_; rintro e w' ⟨rfl, rfl⟩))
  go_ret
  exact ⟨rfl, rfl⟩
end Go.Proofs.YtdfpmgpdkajhkaaDoor
