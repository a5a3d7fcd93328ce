/-
  The walk of the law MarkAsks: for every number, every slice of slices, every slice of ints and every number it returns true, and memory below the heap's old size is unchanged, where the library's table lies. No other condition.
-/
import Derived.Test.YtdfpmgpdkajhkaaDoorMki
import Derived.Test.YtdfpmgpdkajhkaaDoorMko
namespace Go.Proofs.YtdfpmgpdkajhkaaDoor
open Go.RowKit Go.Maps
set_option maxRecDepth 100000 in
set_option maxHeartbeats 4000000 in
theorem markAsks_few (w : World) (p r : Int) (A : Option Addr) (len c : Nat) (rows : List (List Int)) (hG : Grid w w.heap.size A len rows) (Bq : Option Addr) (m d : Nat) (hfew : fewB rows len m = false) (hT : Tab w) :
    Calls Tryd.prog 17 #[.int .i64 p, .slice A len c, .slice Bq m d, .int .i64 r] w fun e w' => e = .returned (.bool true) ∧ Below w.heap.size w w' := by
  have HT := Lib.hid hT
  have HG := Lib.hid hG
  have HF := Lib.hid hfew
  clear hT hG hfew
  go_enter Tryd.func17, Tryd.ntmps17
  go_wp2_with fail
  generalize hwa : w.alloc (.cells #[.slice A len c] 59) = wa
  generalize heb : w.heap.size = eb
  have HBK : Hid (Blk wa eb #[.slice A len c] 59) := Lib.hid (by rw [← hwa, ← heb]; exact Blk.new _ _ _)
  have HB0 : Hid (Below eb w wa) := Lib.hid (by rw [← hwa, ← heb]; exact (Below.refl w.heap.size w).alloc (Nat.le_refl _) _)
  have HG0 := Lib.hid (HG.out.below (by rw [heb]; exact HB0.out) (Nat.le_refl _))
  have HT0 : Hid (Tab wa) := Lib.hid (HT.out.up (by rw [heb]; exact HB0.out))
  rw [heb] at HG0
  clear hwa
  refine (awake14_any HT0.out).mono ?_
  rintro e w1 ⟨rfl, hB⟩
  have HB := Lib.hid (HB0.out.trans (hB.mono (by have := HB0.out.size; omega)))
  have HT1 := Lib.hid (HT0.out.up hB)
  have HBK1 := Lib.hid (HBK.out.below hB HBK.out.lt)
  have HG1 := Lib.hid (HG0.out.below hB (by have := HB0.out.size; omega))
  have cx := HBK1.out.cell (i := 0) rfl
  clear hB
  go_wp2_with fail
  refine (few_any (HG1.out.more (by have := HB.out.size; omega))).mono ?_
  rintro e w_ ⟨rfl, rfl⟩
  rw [HF.out]
  go_wp2_with fail
  refine (awake14_any HT1.out).mono ?_
  rintro e w2 ⟨rfl, hB⟩
  have HB2 := Lib.hid (HB.out.trans (hB.mono (by have := HB.out.size; omega)))
  clear hB
  go_wp2
  go_ret
  exact ⟨rfl, by rw [heb]; exact HB2.out⟩
set_option maxRecDepth 100000 in
set_option maxHeartbeats 4000000 in
theorem markAsks_wide (w : World) (p r : Int) (A : Option Addr) (len c : Nat) (rows : List (List Int)) (hG : Grid w w.heap.size A len rows) (Bq : Option Addr) (m d : Nat) (hfew : fewB rows len m = true) (hp : 300 < p) (hT : Tab w) :
    Calls Tryd.prog 17 #[.int .i64 p, .slice A len c, .slice Bq m d, .int .i64 r] w fun e w' => e = .returned (.bool true) ∧ Below w.heap.size w w' := by
  have HT := Lib.hid hT
  have HG := Lib.hid hG
  have HF := Lib.hid hfew
  have dp : decide (p > 300) = true := decide_eq_true hp
  clear hT hG hfew
  go_enter Tryd.func17, Tryd.ntmps17
  go_wp2_with fail
  generalize hwa : w.alloc (.cells #[.slice A len c] 59) = wa
  generalize heb : w.heap.size = eb
  have HBK : Hid (Blk wa eb #[.slice A len c] 59) := Lib.hid (by rw [← hwa, ← heb]; exact Blk.new _ _ _)
  have HB0 : Hid (Below eb w wa) := Lib.hid (by rw [← hwa, ← heb]; exact (Below.refl w.heap.size w).alloc (Nat.le_refl _) _)
  have HG0 := Lib.hid (HG.out.below (by rw [heb]; exact HB0.out) (Nat.le_refl _))
  have HT0 : Hid (Tab wa) := Lib.hid (HT.out.up (by rw [heb]; exact HB0.out))
  rw [heb] at HG0
  clear hwa
  refine (awake14_any HT0.out).mono ?_
  rintro e w1 ⟨rfl, hB⟩
  have HB := Lib.hid (HB0.out.trans (hB.mono (by have := HB0.out.size; omega)))
  have HT1 := Lib.hid (HT0.out.up hB)
  have HBK1 := Lib.hid (HBK.out.below hB HBK.out.lt)
  have HG1 := Lib.hid (HG0.out.below hB (by have := HB0.out.size; omega))
  have cx := HBK1.out.cell (i := 0) rfl
  clear hB
  go_wp2_with fail
  refine (few_any (HG1.out.more (by have := HB.out.size; omega))).mono ?_
  rintro e w_ ⟨rfl, rfl⟩
  rw [HF.out]
  go_wp2_with fail
  refine (awake14_any HT1.out).mono ?_
  rintro e w2 ⟨rfl, hB⟩
  have HB2 := Lib.hid (HB.out.trans (hB.mono (by have := HB.out.size; omega)))
  clear hB
  go_wp2
  go_ret
  exact ⟨rfl, by rw [heb]; exact HB2.out⟩
set_option maxRecDepth 100000 in
set_option maxHeartbeats 8000000 in
theorem markAsks_main (w : World) (p r : Int) (A : Option Addr) (len c : Nat) (rows : List (List Int)) (hG : Grid w w.heap.size A len rows) (Bq : Option Addr) (m d : Nat) (rts : List Int) (hR : Rd w Bq m rts) (hfew : fewB rows len m = true) (hp : p ≤ 300) (hT : Tab w) :
    Calls Tryd.prog 17 #[.int .i64 p, .slice A len c, .slice Bq m d, .int .i64 r] w fun e w' => e = .returned (.bool true) ∧ Below w.heap.size w w' := by
  have HT := Lib.hid hT
  have HG := Lib.hid hG
  have HF := Lib.hid hfew
  have HR := Lib.hid hR
  obtain ⟨hl1, hl2, hl3⟩ := fewB_rows hfew
  have HLEN := Lib.hid hl3
  have dp : decide (p > 300) = false := decide_eq_false (by omega)
  have HPL := Lib.hid (plc_le p)
  have hmm := @run_makeMap Tryd.prog
  clear hT hG hR hfew hl3
  go_enter Tryd.func17, Tryd.ntmps17
  go_wp2_with fail
  generalize hwa : w.alloc (.cells #[.slice A len c] 59) = wa
  generalize heb : w.heap.size = eb
  have HBK : Hid (Blk wa eb #[.slice A len c] 59) := Lib.hid (by rw [← hwa, ← heb]; exact Blk.new _ _ _)
  have HB0 : Hid (Below eb w wa) := Lib.hid (by rw [← hwa, ← heb]; exact (Below.refl w.heap.size w).alloc (Nat.le_refl _) _)
  have HG0 := Lib.hid (HG.out.below (by rw [heb]; exact HB0.out) (Nat.le_refl _))
  have HT0 : Hid (Tab wa) := Lib.hid (HT.out.up (by rw [heb]; exact HB0.out))
  rw [heb] at HG0
  clear hwa
  refine (awake14_any HT0.out).mono ?_
  rintro e w1 ⟨rfl, hB⟩
  have HB := Lib.hid (HB0.out.trans (hB.mono (by have := HB0.out.size; omega)))
  have HT1 := Lib.hid (HT0.out.up hB)
  have HBK1 := Lib.hid (HBK.out.below hB HBK.out.lt)
  have HG1 := Lib.hid (HG0.out.below hB (by have := HB0.out.size; omega))
  have cx := HBK1.out.cell (i := 0) rfl
  clear hB
  have HR1 : Hid (Rd w1 Bq m rts) := Lib.hid (HR.out.up (by rw [heb]; exact HB.out))
  clear HT HG HR HB0 HG0 HT0 HBK
  go_wp2_with fail
  refine (few_any (HG1.out.more (by have := HB.out.size; omega))).mono ?_
  rintro e w_ ⟨rfl, rfl⟩
  rw [HF.out]
  have ltE := HBK1.out.lt
  have hpos : 0 < w1.heap.size := by omega
  have hb2 : Below w1.heap.size w1 ((w1.alloc (.map #[] 0)).alloc (.cells #[.map (some w1.heap.size)] 69)) := ((Below.refl _ _).alloc (Nat.le_refl _) _).alloc (by simp) _
  have hI0 : InvA eb w1.heap.size (w1.heap.size + 1) ((w1.alloc (.map #[] 0)).alloc (.cells #[.map (some w1.heap.size)] 69)).heap.size A len c rows (plc p) 0 ((w1.alloc (.map #[] 0)).alloc (.cells #[.map (some w1.heap.size)] 69)) :=
    ⟨(Blk.new' (by simp) _ _).cell rfl, (HBK1.out.below hb2 ltE).cell rfl, ltE, by omega, by simp, HG1.out.below hb2 (by omega), .map [], (World.ownsMap_made _ _ _ _).alloc _, askD_start _⟩
  have HI0 := Lib.hid hI0
  have HB2 := Lib.hid hb2
  have HPOS := Lib.hid hpos
  have HLTE := Lib.hid ltE
  clear hb2 hI0 hpos ltE cx
  go_wp2_with fail
  refine (reach_any p r (ask_edges (vb := w1.heap.size + 1) HPL.out HPOS.out (by simp; omega) HLEN.out) (HT1.out.up HB2.out) rfl HI0.out (HR1.out.up HB2.out) (by omega)).mono ?_
  rintro e w3 ⟨b, g, M, ρ, rfl, _, _, hM, hI, hInv, hF, _⟩
  obtain ⟨D, hown, hD⟩ := hInv.map
  have hlen := fun ty => hown.len (t := 69) (e := 4) Tryd.underlying69 ty
  rw [hD.2] at hlen
  have hv := hInv.var
  have hb3 : Below eb w1 w3 := ⟨hF.os.trans HB2.out.os, hF.tape.trans HB2.out.tape, hF.output.trans HB2.out.output, Nat.le_trans HB2.out.size hF.size, fun j hj => (hF.block j (by have := HB2.out.size; have := HLTE.out; omega) (fun e => by have := Option.some.inj e; have := HLTE.out; omega)).trans (HB2.out.block j (by have := HLTE.out; omega))⟩
  have HB3 := Lib.hid (HB.out.trans hb3)
  have HM := Lib.hid hM
  have HD := Lib.hid hD
  have HOWN := Lib.hid hown
  have hnn : (((popM (plc p) M : Nat) : Int) != ((popM (plc p) M : Nat) : Int)) = false := by simp
  clear hM hI hInv hF hb3 hown hD HT1 HBK1 HG1 HR1 HB HI0
  generalize w1.heap.size = mb at *
  go_wp2_with fail
  refine (count_any HM.out).mono ?_
  rintro e w_ ⟨rfl, rfl⟩
  generalize hpp : ((popM (plc p) M : Nat) : Int) = pp at hlen hnn ⊢
  clear hpp
  go_wp2_with (first
    | (at_range; refine wpList_range_own _ rfl _ 69 rfl 3 4 askLaw Tryd.underlying69 _ mb _ D rfl HOWN.out ?_; intro w4 hrg0 hg0 hs0)
    | fail)
  go_frame
  have HRG := Lib.hid hrg0
  have HB4 : Hid (Below w3.heap.size w3 w4) := Lib.hid ⟨hg0.os, hg0.tape, hg0.output, hg0.size, fun j hj => hg0.block j hj (fun e => by cases e)⟩
  have HL0 : Hid (∀ kl, Maps.has D kl = true → Maps.has D kl = true) := Lib.hid fun _ h => h
  clear hrg0 hg0 hs0 hlen hv
  go_loopw [12] (fun _ wr => ∃ (left : Lit → Bool) (cnt : Nat), Hid (wr.ranges Tryd.prog 3 (plainElem Tryd.prog 4) mb w3.heap.size (Maps.size D) D left cnt) ∧ Hid (∀ kl, left kl = true → Maps.has D kl = true) ∧ Hid (Below w3.heap.size w3 wr)) (fun _ wr => wr.rangeLeft mb w3.heap.size)
  case atStart => exact ⟨_, _, HRG, HL0, HB4⟩
  case round =>
    clear HRG HL0 HB4
    obtain ⟨left, cnt, HRG, HL, HBL⟩ := hrel
    go_wp2_with (first
      | (at_next; refine wpList_next_ranges _ rfl _ rfl 3 askLaw _ (Value.int .i64) Value.bool (fun key kl hkey => by obtain ⟨x, h, _⟩ := Maps.keyOf_int_inv Tryd.underlying3 hkey; exact ⟨x, h⟩) askR_inv mb w3.heap.size _ _ _ _ rfl HRG.out ?_ ?_)
      | fail)
    · intro _ _
      go_wp2
      go_ret
      exact ⟨rfl, by rw [heb]; exact HB3.out.trans (HBL.out.mono (by have := HB3.out.size; omega))⟩
    · intro x
      constructor
      all_goals
        intro kl yd yp w5 cnt1 hkey hlk hvv hat hrg1 hlt hg1 hs1 hen
        have hkl : kl = .int .i64 x := by
          obtain ⟨x', ex, h, _⟩ := Maps.keyOf_int_inv Tryd.underlying3 hkey
          cases ex
          exact h
        have hbit : hasB M x = true := by rw [← HD.out.1 x, ← hkl]; exact HL.out kl hlk
        have HBIT := Lib.hid hbit
        have HL2 : Hid (∀ z, (left z && !z.sameKey kl) = true → Maps.has D z = true) := Lib.hid fun z hz => HL.out z (by simp at hz; exact hz.1)
        have HB5 := Lib.hid (below_only HBL.out hg1 HBL.out.size (Nat.le_refl _))
        have HRG2 := Lib.hid hrg1
        have HLT : Hid (cnt1 < cnt) := Lib.hid hlt
        clear hkey hlk hvv hat hrg1 hlt hg1 hs1 hkl hbit
        go_wp2_with fail
        refine (has_any (HM.out.up HB5.out) _).mono ?_
        rintro e w_ ⟨rfl, rfl⟩
        rw [HBIT.out]
        go_wp2
        go_roundw
        case rel => exact ⟨_, cnt1, HRG2, HL2, HB5⟩
        case measure => rw [HRG2.out.left_eq, HRG.out.left_eq]; exact HLT.out
theorem markAsks_walk (w : World) (p : Int) (_ : (Lit.int .i64 p).wf = true) (A : Option Addr) (len c : Nat) (rows : List (List Int)) (hG : Grid w w.heap.size A len rows) (Bq : Option Addr) (m d : Nat) (zs : List Int) (hR : IsRow .i64 w Bq m d zs) (r : Int) (_ : (Lit.int .i64 r).wf = true) (hT : Tab w) :
    Calls Tryd.prog 17 #[.int .i64 p, .slice A len c, .slice Bq m d, .int .i64 r] w fun e w' => e = .returned (.bool true) ∧ Below w.heap.size w w' := by
  cases hf : fewB rows len m
  · exact markAsks_few w p r A len c rows hG Bq m d hf hT
  · by_cases hp : p ≤ 300
    · exact markAsks_main w p r A len c rows hG Bq m d _ hR.rd hf hp hT
    · exact markAsks_wide w p r A len c rows hG Bq m d hf (by omega) hT
end Go.Proofs.YtdfpmgpdkajhkaaDoor
