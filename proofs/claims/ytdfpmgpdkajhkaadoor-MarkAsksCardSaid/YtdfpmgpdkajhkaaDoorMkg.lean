/-
  The walk of gleaninglaw14.awake: it returns true, where the library's table lies. Premises in each theorem.
-/
import Derived.Test.YtdfpmgpdkajhkaaDoorMkc
import Derived.Test.YtdfpmgpdkajhkaaDoorMkd
namespace Go.Proofs.YtdfpmgpdkajhkaaDoor
open Go.RowKit
/-- Just what is reached: closed, and each of it reached. -/
theorem isR_of {n : Nat} {E : Nat → List Int} {rts : List Int} {M : Nat} (h1 : ∀ y ∈ rts, 0 ≤ y → y < (n : Int) → M.testBit y.toNat = true) (h2 : ∀ i, M.testBit i = true → ∀ y ∈ E i, 0 ≤ y → y < (n : Int) → M.testBit y.toNat = true) (h3 : ∀ i, M.testBit i = true → Rch n E rts i) : IsR n E rts M :=
  fun i => ⟨h3 i, fun hr => hr (fun i => M.testBit i = true) h1 h2⟩
theorem IsR.uniq {n : Nat} {E : Nat → List Int} {rts : List Int} {M M' : Nat} (h : IsR n E rts M) (h' : IsR n E rts M') : M = M' := h.eq h' fun _ => Iff.rfl
theorem Tab.up {w w' : World} (h : Tab w) (hb : Below w.heap.size w w') : Tab w' := h.below hb h.2
def awRows : List (List Int) := [[1, 2], [], [4]]
theorem awR : IsR 5 (fun k => awRows.getD k []) [0] 23 := by
  have r0 : Rch 5 (fun k => awRows.getD k []) [0] 0 := rch_root (y := 0) (by simp) (by omega) (by omega)
  have r1 : Rch 5 (fun k => awRows.getD k []) [0] 1 := rch_step (y := 1) r0 (by simp [awRows]) (by omega) (by omega)
  have r2 : Rch 5 (fun k => awRows.getD k []) [0] 2 := rch_step (y := 2) r0 (by simp [awRows]) (by omega) (by omega)
  have r4 : Rch 5 (fun k => awRows.getD k []) [0] 4 := rch_step (y := 4) r2 (by simp [awRows]) (by omega) (by omega)
  have hb : ∀ i, Nat.testBit 23 i = true → i = 0 ∨ i = 1 ∨ i = 2 ∨ i = 4 := fun i hi => by
    have h5 := bit_lt (n := 5) (M := 23) (by decide) hi
    rcases i with _ | _ | _ | _ | _ | i
    · simp
    · simp
    · simp
    · exact absurd hi (by decide)
    · simp
    · omega
  refine isR_of (fun y hy _ _ => ?_) (fun i hi y hy _ _ => ?_) (fun i hi => ?_)
  · simp at hy; subst hy; decide
  · rcases hb i hi with rfl | rfl | rfl | rfl <;> simp [awRows] at hy
    · rcases hy with rfl | rfl <;> decide
    · subst hy; decide
  · rcases hb i hi with rfl | rfl | rfl | rfl
    · exact r0
    · exact r1
    · exact r2
    · exact r4
/-- The world that awake makes before it marks. -/
abbrev awW (w : World) : World :=
  ((((((w.alloc (.cells #[.int .i64 1, .int .i64 2] 3)).alloc (.cells #[] 3)).alloc (.cells #[.int .i64 4] 3)).alloc (.cells #[.slice (some ⟨w.heap.size, 0, none⟩) 2 2, .slice (some ⟨w.heap.size + 1, 0, none⟩) 0 0, .slice (some ⟨w.heap.size + 1 + 1, 0, none⟩) 1 1] 28)).alloc
    (.cells #[.slice (some ⟨w.heap.size + 1 + 1 + 1, 0, none⟩) 3 3] 59)).alloc (.cells #[.int .i64 0] 3))
theorem awW_size (w : World) : (awW w).heap.size = w.heap.size + 6 := by simp [awW]
theorem awW_below (w : World) : Below w.heap.size w (awW w) :=
  ((((((Below.refl w.heap.size w).alloc (Nat.le_refl _) _).alloc (by simp) _).alloc (by simp; omega) _).alloc (by simp; omega) _).alloc (by simp; omega) _).alloc (by simp; omega) _
theorem awW_inv (w : World) : InvBy (w.heap.size + 1 + 1 + 1 + 1) (awW w).heap.size (some ⟨w.heap.size + 1 + 1 + 1, 0, none⟩) 3 3 awRows 0 (awW w) := by
  have b0 : Blk (awW w) w.heap.size #[.int .i64 1, .int .i64 2] 3 := (((((Blk.new w _ _).alloc _).alloc _).alloc _).alloc _).alloc _
  have b2 : Blk (awW w) (w.heap.size + 1 + 1) #[.int .i64 4] 3 := (((Blk.new' (by simp) _ _).alloc _).alloc _).alloc _
  have b3 : Blk (awW w) (w.heap.size + 1 + 1 + 1) #[.slice (some ⟨w.heap.size, 0, none⟩) 2 2, .slice (some ⟨w.heap.size + 1, 0, none⟩) 0 0, .slice (some ⟨w.heap.size + 1 + 1, 0, none⟩) 1 1] 28 := ((Blk.new' (by simp) _ _).alloc _).alloc _
  have b4 : Blk (awW w) (w.heap.size + 1 + 1 + 1 + 1) #[.slice (some ⟨w.heap.size + 1 + 1 + 1, 0, none⟩) 3 3] 59 := (Blk.new' (by simp) _ _).alloc _
  have hz := awW_size w
  refine ⟨b4.cell rfl, by omega, rfl, fun _ => ⟨_, _, rfl, by omega, fun i hi => ?_⟩⟩
  rcases i with _ | _ | _ | i
  · refine ⟨_, _, _, b3.cell (i := 0 + 0) rfl, rfl, fun _ => ⟨_, _, rfl, by omega, fun j hj => ?_⟩⟩
    rcases j with _ | _ | j
    · exact b0.cell (i := 0 + 0) rfl
    · exact b0.cell (i := 0 + 1) rfl
    · omega
  · exact ⟨_, _, _, b3.cell (i := 0 + 1) rfl, rfl, fun h => by omega⟩
  · refine ⟨_, _, _, b3.cell (i := 0 + 2) rfl, rfl, fun _ => ⟨_, _, rfl, by omega, fun j hj => ?_⟩⟩
    rcases j with _ | j
    · exact b2.cell (i := 0 + 0) rfl
    · omega
  · omega
theorem awW_rd (w : World) : Rd (awW w) (some ⟨w.heap.size + 1 + 1 + 1 + 1 + 1, 0, none⟩) 1 [0] := by
  have b5 : Blk (awW w) (w.heap.size + 1 + 1 + 1 + 1 + 1) #[.int .i64 0] 3 := Blk.new' (by simp) _ _
  have hz := awW_size w
  refine ⟨rfl, fun _ => ⟨_, _, rfl, by omega, fun j hj => ?_⟩⟩
  rcases j with _ | j
  · exact b5.cell (i := 0 + 0) rfl
  · omega
theorem aw_len : ∀ k, (awRows.getD k []).length ≤ 100000 := fun k => by
  rcases k with _ | _ | _ | k <;> simp [awRows]
theorem Fx.below {w w' : World} (h : Fx w.heap.size none w w') : Below w.heap.size w w' := ⟨h.os, h.tape, h.output, h.size, fun j hj => h.block j hj (fun e => by cases e)⟩
theorem plc5 : plc 5 = 5 := by decide
set_option maxRecDepth 100000 in
set_option maxHeartbeats 2000000 in
theorem awake14_any {w : World} (hT : Tab w) : Calls Tryd.prog 45 #[] w fun e w' => e = .returned (.bool true) ∧ Below w.heap.size w w' := by
  have HT := Lib.hid hT
  have HI := Lib.hid (awW_inv w)
  have HR := Lib.hid (awW_rd w)
  have HB := Lib.hid (awW_below w)
  clear hT
  go_enter Tryd.func45, Tryd.ntmps45
  go_wp2_with fail
  refine (by_any _ _ _ _).mono ?_
  rintro e w1 ⟨rfl, rfl⟩
  go_wp2_with fail
  refine (reach_any (w := awW w) 5 9 (by_edges (by rw [plc5]; omega) aw_len) (HT.out.up HB.out) rfl HI.out HR.out (by omega)).mono ?_
  rintro e w2 ⟨b, g, M, ρ, rfl, hb, hg, hM, hIs, _, hF, hρ⟩
  rw [plc5] at hM hIs hρ
  have hM23 : M = 23 := hIs.uniq awR
  subst hM23
  have hρ0 : ρ = 0 := by
    rcases hρ with h | h
    · exact h
    · have := popM_le 5 23
      simp at h
      omega
  subst hρ0
  have HM := Lib.hid hM
  have HB2 := Lib.hid (HB.out.trans ((Fx.below hF).mono HB.out.size))
  clear hM hIs hF hb hg hρ HI HR HB
  go_wp2_with fail
  refine (len_any HM.out).mono ?_
  rintro e w_ ⟨rfl, rfl⟩
  go_wp2_with fail
  refine (count_any HM.out).mono ?_
  rintro e w_ ⟨rfl, rfl⟩
  rw [show popM 5 23 = 4 by decide]
  go_wp2_with fail
  refine (has_any HM.out _).mono ?_
  rintro e w_ ⟨rfl, rfl⟩
  rw [show hasB 23 3 = false by decide]
  go_wp2
  go_ret
  exact ⟨rfl, HB2.out⟩
end Go.Proofs.YtdfpmgpdkajhkaaDoor
