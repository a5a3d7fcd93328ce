/-
  The walk of the law MarkGrows: for every number, every slice of slices, every slice of ints and every two numbers it returns true, and memory below the heap's old size is unchanged, where the library's table lies. No other condition.
-/
import Derived.Test.YtdfpmgpdkajhkaaDoorMki
import Derived.Test.YtdfpmgpdkajhkaaDoorMkf
import Derived.Test.YtdfpmgpdkajhkaaDoorMkm
import Derived.Test.YtdfpmgpdkajhkaaDoorApa
namespace Go.Proofs.YtdfpmgpdkajhkaaDoor
open Go.RowKit
set_option maxHeartbeats 1000000 in
theorem nil1_any (w : World) (k : Nat) : Calls Tryd.prog 66 #[.int .i64 (k : Nat)] w fun e w' => e = .returned (.slice none 0 0) ∧ w = w' := by
  go_enter Tryd.func66, Tryd.ntmps66
  go_wp2
  go_ret
  exact ⟨rfl, rfl⟩
theorem nil_edges {B N : Nat} : Edges 66 #[] (fun _ => []) N B none (fun _ _ => True) where
  en := fun args w => enters_of Tryd.func66 (by kernel_rfl) rfl args w
  call := fun w Q k hk hB h => (nil1_any w k).mono fun e w' ⟨he, hw⟩ => by
    subst hw
    exact ⟨_, _, _, he, ⟨rfl, fun h => by omega⟩, only_refl _ _, trivial⟩
  keep := fun Q w w' h hb => trivial
  row := fun r e => by cases e
  len := fun k => by simp
theorem nil_grid (w : World) (B : Nat) : Grid w B none 0 [] := ⟨rfl, fun h => by omega⟩
theorem isR_sub {n M M' : Nat} {E : Nat → List Int} {rts rts' : List Int} (h : IsR n E rts M) (h' : IsR n E rts' M') (hr : ∀ y ∈ rts, y ∈ rts') {k : Nat} (hk : hasB M (k : Int) = true) : hasB M' (k : Int) = true := by
  rw [hasB_nat] at hk ⊢
  exact (h' k).2 (rch_mono hr (fun _ _ _ q => q) ((h k).1 hk))
theorem isR_root {n M : Nat} {E : Nat → List Int} {rts : List Int} (h : IsR n E rts M) {x : Int} (hx : x ∈ rts) : hasB M x = (decide (0 ≤ x) && decide (x < (n : Int))) := by
  by_cases h0 : 0 ≤ x
  · by_cases h1 : x < (n : Int)
    · have := (h x.toNat).2 (rch_root hx h0 h1)
      simp [hasB, h0, h1, this]
    · have : M.testBit x.toNat = false := by
        cases e : M.testBit x.toNat
        · rfl
        · have := bit_lt h.lt e; omega
      simp [hasB, h1, this]
  · simp [hasB, h0]
/-- The list holds just the bits below k. -/
def Lst (M k : Nat) (xs : List Int) : Prop := ∀ y, y ∈ xs ↔ ∃ i : Nat, y = (i : Int) ∧ i < k ∧ M.testBit i = true
theorem Lst.start (M : Nat) : Lst M 0 [] := fun y => ⟨fun h => (by cases h), fun ⟨i, _, h, _⟩ => (by omega)⟩
theorem Lst.yes {M k : Nat} {xs : List Int} (h : Lst M k xs) (hb : hasB M (k : Int) = true) : Lst M (k + 1) (xs ++ [(k : Int)]) := fun y => by
  rw [hasB_nat] at hb
  rw [List.mem_append, h y]
  constructor
  · rintro (⟨i, e, hi, hm⟩ | q)
    · exact ⟨i, e, by omega, hm⟩
    · exact ⟨k, by simpa using q, by omega, hb⟩
  · rintro ⟨i, e, hi, hm⟩
    by_cases hik : i = k
    · right; simp [e, hik]
    · exact .inl ⟨i, e, by omega, hm⟩
theorem Lst.no {M k : Nat} {xs : List Int} (h : Lst M k xs) (hb : hasB M (k : Int) = false) : Lst M (k + 1) xs := fun y => by
  rw [hasB_nat] at hb
  rw [h y]
  constructor
  · rintro ⟨i, e, hi, hm⟩
    exact ⟨i, e, by omega, hm⟩
  · rintro ⟨i, e, hi, hm⟩
    by_cases hik : i = k
    · rw [hik, hb] at hm; cases hm
    · exact ⟨i, e, by omega, hm⟩
theorem Lst.again {n M M' : Nat} {E : Nat → List Int} {rts xs : List Int} (h : Lst M n xs) (hI : IsR n E rts M) (hI' : IsR n E xs M') : M' = M :=
  hI'.eq hI fun i => ⟨fun q => q (Rch n E rts) (fun y hy _ _ => by
    obtain ⟨j, e, _, hm⟩ := (h y).1 hy
    rw [e, Int.toNat_natCast]
    exact (hI j).1 hm) (rch_closed n E rts), fun q => by
    have hi := rch_lt q
    have := rch_root (n := n) (E := E) ((h (i : Int)).2 ⟨i, rfl, hi, (hI i).2 q⟩) (by omega) (by omega)
    rwa [Int.toNat_natCast] at this⟩
set_option maxRecDepth 100000 in
set_option maxHeartbeats 4000000 in
theorem markGrows_few (w : World) (p x r : Int) (A : Option Addr) (len c : Nat) (rows : List (List Int)) (hG : Grid w w.heap.size A len rows) (Bq : Option Addr) (m d : Nat) (hfew : fewB rows len m = false) (hT : Tab w) :
    Calls Tryd.prog 16 #[.int .i64 p, .slice A len c, .slice Bq m d, .int .i64 x, .int .i64 r] w fun e w' => e = .returned (.bool true) ∧ Below w.heap.size w w' := by
  have HT := Lib.hid hT
  have HG := Lib.hid hG
  have HF := Lib.hid hfew
  clear hT hG hfew
  go_enter Tryd.func16, Tryd.ntmps16
  go_wp2_with fail
  refine (awake14_any HT.out).mono ?_
  rintro e w1 ⟨rfl, hB⟩
  have HB := Lib.hid hB
  have HT1 := Lib.hid (HT.out.up hB)
  have HG1 := Lib.hid ((HG.out.below hB (Nat.le_refl _)).more hB.size)
  clear hB
  go_wp2_with fail
  refine (few_any HG1.out).mono ?_
  rintro e w_ ⟨rfl, rfl⟩
  rw [HF.out]
  go_wp2_with fail
  refine (awake14_any HT1.out).mono ?_
  rintro e w2 ⟨rfl, hB⟩
  have HB2 := Lib.hid (HB.out.trans (hB.mono HB.out.size))
  clear hB
  go_wp2
  go_ret
  exact ⟨rfl, HB2.out⟩
set_option maxRecDepth 100000 in
set_option maxHeartbeats 4000000 in
theorem markGrows_wide (w : World) (p x r : Int) (A : Option Addr) (len c : Nat) (rows : List (List Int)) (hG : Grid w w.heap.size A len rows) (Bq : Option Addr) (m d : Nat) (hfew : fewB rows len m = true) (hp : 300 < p) (hT : Tab w) :
    Calls Tryd.prog 16 #[.int .i64 p, .slice A len c, .slice Bq m d, .int .i64 x, .int .i64 r] w fun e w' => e = .returned (.bool true) ∧ Below w.heap.size w w' := by
  have HT := Lib.hid hT
  have HG := Lib.hid hG
  have HF := Lib.hid hfew
  have dp : decide (p > 300) = true := decide_eq_true hp
  clear hT hG hfew
  go_enter Tryd.func16, Tryd.ntmps16
  go_wp2_with fail
  refine (awake14_any HT.out).mono ?_
  rintro e w1 ⟨rfl, hB⟩
  have HB := Lib.hid hB
  have HT1 := Lib.hid (HT.out.up hB)
  have HG1 := Lib.hid ((HG.out.below hB (Nat.le_refl _)).more hB.size)
  clear hB
  go_wp2_with fail
  refine (few_any HG1.out).mono ?_
  rintro e w_ ⟨rfl, rfl⟩
  rw [HF.out]
  go_wp2_with fail
  refine (awake14_any HT1.out).mono ?_
  rintro e w2 ⟨rfl, hB⟩
  have HB2 := Lib.hid (HB.out.trans (hB.mono HB.out.size))
  clear hB
  go_wp2
  go_ret
  exact ⟨rfl, HB2.out⟩
set_option maxRecDepth 100000 in
set_option maxHeartbeats 16000000 in
theorem markGrows_main (w : World) (p x r : Int) (A : Option Addr) (len c : Nat) (rows : List (List Int)) (hG : Grid w w.heap.size A len rows) (Bq : Option Addr) (m d : Nat) (rts : List Int) (hR : Rd w Bq m rts) (hfew : fewB rows len m = true) (hp : p ≤ 300) (hT : Tab w) :
    Calls Tryd.prog 16 #[.int .i64 p, .slice A len c, .slice Bq m d, .int .i64 x, .int .i64 r] w fun e w' => e = .returned (.bool true) ∧ Below w.heap.size w w' := by
  have HT := Lib.hid hT
  have HG := Lib.hid hG
  have HR := Lib.hid hR
  have HF := Lib.hid hfew
  obtain ⟨hl1, hl2, hl3⟩ := fewB_rows hfew
  have HLEN := Lib.hid hl3
  have dp : decide (p > 300) = false := decide_eq_false (by omega)
  have HPL := Lib.hid (plc_le p)
  clear hT hG hR hfew hl3
  go_enter Tryd.func16, Tryd.ntmps16
  go_wp2_with fail
  refine (awake14_any HT.out).mono ?_
  rintro e w1 ⟨rfl, hB⟩
  have HB := Lib.hid hB
  have HT1 := Lib.hid (HT.out.up hB)
  have HG1 := Lib.hid ((HG.out.below hB (Nat.le_refl _)).more hB.size)
  have HR1 := Lib.hid (HR.out.up hB)
  clear hB HT HG HR
  go_wp2_with fail
  refine (few_any HG1.out).mono ?_
  rintro e w_ ⟨rfl, rfl⟩
  rw [HF.out]
  go_wp2_with fail
  refine (by_any _ _ _ _).mono ?_
  rintro e w2 ⟨rfl, rfl⟩
  go_wp2_with fail
  refine (reach_by HT1.out p r HG1.out (Nat.le_refl _) HLEN.out HR1.out (by omega)).mono ?_
  rintro e w3 ⟨b1, g1, M, ρ, rfl, _, _, hM, hI, hB, _⟩
  have HM := Lib.hid hM
  have HI := Lib.hid hI
  have HT3 := Lib.hid (HT1.out.up hB)
  have HG3 := Lib.hid ((HG1.out.below hB (Nat.le_refl _)).more hB.size)
  have HR3 := Lib.hid (HR1.out.up hB)
  have HB3 := Lib.hid (HB.out.trans (hB.mono HB.out.size))
  clear hM hI hB HT1 HG1 HR1 HB
  go_wp2_with fail
  refine (by_any _ _ _ _).mono ?_
  rintro e w2 ⟨rfl, rfl⟩
  generalize hwa : w3.alloc (Obj.cells #[.slice A len c] 59) = wa
  generalize heb : w3.heap.size = eb
  have HE : Hid (Blk wa eb #[.slice A len c] 59) := Lib.hid (by rw [← hwa, ← heb]; exact Blk.new _ _ _)
  have HBA : Hid (Below w3.heap.size w3 wa) := Lib.hid (by rw [← hwa]; exact (Below.refl _ _).alloc (Nat.le_refl _) _)
  clear hwa heb
  have HOZ := Lib.hid (own_empty (w := wa) (Nat.le_refl _))
  have HBZ : Hid (Below wa.heap.size wa (wa.alloc (.cells #[] 3))) := Lib.hid ((Below.refl _ _).alloc (Nat.le_refl _) _)
  have HRZ : Hid (Rd (wa.alloc (.cells #[] 3)) Bq m rts) := Lib.hid ((HR3.out.up HBA.out).up HBZ.out)
  have HZZ : Hid (wa.heap.size ≤ (wa.alloc (.cells #[] 3)).heap.size) := Lib.hid HBZ.out.size
  go_wp2_with (first
    | (at_builtin; refine app_ints rfl _ _ rfl _ wa.heap.size _ 0 0 [] Bq m d rts rfl rfl HOZ.out HRZ.out (by omega) HZZ.out ?_; intro A4 c4 w4 hO hg _; rw [Nat.zero_add, List.nil_append] at hO; have HO4 := Lib.hid hO; have B4 := Lib.hid (below_own HBZ.out HOZ.out (Nat.le_refl _) HZZ.out hg); clear hO hg)
    | (at_builtin; refine app_int rfl _ _ rfl _ wa.heap.size A4 m c4 rts x rfl rfl HO4.out (by omega) B4.out.size ?_; intro A5 c5 w5 hO hg; have HO5 := Lib.hid hO; have B5 := Lib.hid (below_own B4.out HO4.out (Nat.le_refl _) B4.out.size hg); clear hO hg)
    | fail)
  clear HOZ HBZ HRZ HZZ HO4 B4
  have HB5 := Lib.hid (HBA.out.trans (B5.out.mono HBA.out.size))
  have HE5 := Lib.hid (HE.out.below B5.out HE.out.lt)
  have HBT := Lib.hid (HB3.out.trans (HB5.out.mono HB3.out.size))
  clear HBA HE B5
  refine (reach_any (w := w5) (base := w5.heap.size) p r (by_edges HPL.out HLEN.out) (HT3.out.up HB5.out) rfl (show InvBy eb w5.heap.size A len c rows 0 w5 from ⟨HE5.out.cell rfl, HE5.out.lt, (HG3.out.below HB5.out (Nat.le_refl _)).more HB5.out.size⟩) HO5.out.rd (by omega)).mono ?_
  rintro e w6 ⟨b2, g2, M2, ρ2, rfl, _, _, hM, hI, _, hF, _⟩
  have hbf := Fx.below hF
  have hb6 := HB5.out.trans (hbf.mono HB5.out.size)
  have HM2 := Lib.hid hM
  have HI2 := Lib.hid hI
  have HM6 := Lib.hid (HM.out.up hb6)
  have HT6 := Lib.hid (HT3.out.up hb6)
  have HG6 := Lib.hid ((HG3.out.below hb6 (Nat.le_refl _)).more hb6.size)
  have HR6 := Lib.hid (HR3.out.up hb6)
  have HB6 := Lib.hid (HB3.out.trans (hb6.mono HB3.out.size))
  clear hM hI hF hbf hb6 HM HT3 HG3 HR3 HB3 HB5 HE5 HBT HO5
  go_wp2_with fail
  refine (len_any HM6.out).mono ?_
  rintro e w_ ⟨rfl, rfl⟩
  go_wp2
  go_loopw [15, 65] (fun v15 v wr => ∃ (k q cc : Nat) (AA : Option Addr) (xs : List Int), k ≤ plc p ∧ q ≤ k ∧ v15 = .slice AA q cc ∧ v = .int .i64 k ∧ Hid (Own wr w6.heap.size AA q cc xs) ∧ Hid (Lst M k xs) ∧ Hid (Below w6.heap.size w6 wr)) (fun _ v _ => plc p - (intOf v).toNat)
  case atStart => exact ⟨0, 0, 0, none, [], Nat.zero_le _, Nat.le_refl _, rfl, rfl, Lib.hid (Own.nil _ _), Lib.hid (Lst.start M), Lib.hid (Below.refl _ _)⟩
  case round =>
    obtain ⟨k, q, cc, AA, xs, hk, hqk, rfl, rfl, HO, HX, HBL⟩ := hrel
    have hPL := HPL.out
    by_cases hkN : k < plc p
    · have HMr := Lib.hid (HM6.out.up HBL.out)
      cases hb : hasB M (k : Int)
      · have HBIT := Lib.hid hb
        have HX2 := Lib.hid (HX.out.no hb)
        clear hb
        go_wp2_with fail
        refine (has_any HMr.out _).mono ?_
        rintro e w_ ⟨rfl, rfl⟩
        rw [HBIT.out]
        go_wp2
        go_roundw
        case rel => exact ⟨k + 1, q, cc, AA, xs, by omega, by omega, by go_num, by go_num, HO, HX2, HBL⟩
        case measure => simp [intOf]; omega
      · have HBIT := Lib.hid hb
        have HX2 := Lib.hid (HX.out.yes hb)
        have HBIT2 := Lib.hid (isR_sub HI.out HI2.out (fun y hy => by simp [hy]) hb)
        clear hb
        go_wp2_with fail
        refine (has_any HMr.out _).mono ?_
        rintro e w_ ⟨rfl, rfl⟩
        rw [HBIT.out]
        go_wp2_with (first
          | (at_builtin; refine app_int rfl _ _ rfl _ w6.heap.size AA q cc xs k rfl rfl HO.out (by omega) HBL.out.size ?_; intro A7 c7 w7 hO hg; have HO7 := Lib.hid hO; have B7 := Lib.hid (below_own HBL.out HO.out (Nat.le_refl _) HBL.out.size hg); clear hO hg)
          | fail)
        refine (has_any (HM2.out.up B7.out) _).mono ?_
        rintro e w_ ⟨rfl, rfl⟩
        rw [HBIT2.out]
        go_wp2
        go_roundw
        case rel => exact ⟨k + 1, q + 1, c7, A7, xs ++ [(k : Int)], by omega, by omega, by go_num, by go_num, HO7, HX2, B7⟩
        case measure => simp [intOf]; omega
    · have hke : k = plc p := by omega
      have hX := HX.out
      rw [hke] at hX
      have HXX := Lib.hid hX
      have HMr := Lib.hid (HM6.out.up HBL.out)
      have HM2r := Lib.hid (HM2.out.up HBL.out)
      have HTr := Lib.hid (HT6.out.up HBL.out)
      have HGr := Lib.hid ((HG6.out.below HBL.out (Nat.le_refl _)).more HBL.out.size)
      have HRr := Lib.hid (HR6.out.up HBL.out)
      have HBr := Lib.hid (HB6.out.trans (HBL.out.mono HB6.out.size))
      clear hX hke HX HM6 HM2 HT6 HG6 HR6 HB6 HBL
      go_wp2_with fail
      refine (by_any _ _ _ _).mono ?_
      rintro e w2 ⟨rfl, rfl⟩
      go_wp2_with fail
      refine (reach_by HTr.out p r HGr.out (Nat.le_refl _) HLEN.out HO.out.rd (by omega)).mono ?_
      rintro e w8 ⟨b3, g3, M3, ρ3, rfl, _, _, hM, hI, hB, _⟩
      have he : M3 = M := HXX.out.again HI.out hI
      rw [he] at hM
      have HM3 := Lib.hid hM
      have HM8 := Lib.hid (HMr.out.up hB)
      have HN8 := Lib.hid (HM2r.out.up hB)
      have HT8 := Lib.hid (HTr.out.up hB)
      have HR8 := Lib.hid (HRr.out.up hB)
      have HB8 := Lib.hid (HBr.out.trans (hB.mono HBr.out.size))
      clear he hM hI hB HMr HM2r HTr HGr HRr HBr HO HXX
      go_wp2_with fail
      refine (reach_nil (w := w8) (base := w8.heap.size) p r nil_edges HT8.out rfl trivial HR8.out (by omega)).mono ?_
      rintro e w9 ⟨b4, g4, M4, ρ4, rfl, _, _, hM, hI, _, hF, hρ⟩
      have hbf := Fx.below hF
      have HN9 := Lib.hid hM
      have HI9 := Lib.hid hI
      have HRHO := Lib.hid hρ
      have HC9 := Lib.hid (HM8.out.up hbf)
      have HA9 := Lib.hid (HM3.out.up hbf)
      have HM9 := Lib.hid (HN8.out.up hbf)
      have HR9 := Lib.hid (HR8.out.up hbf)
      have HB9 := Lib.hid (HB8.out.trans (hbf.mono HB8.out.size))
      have HROOT := Lib.hid (isR_root HI2.out (x := x) (by simp))
      clear hM hI hF hρ hbf HM8 HM3 HN8 HR8 HB8 HT8
      go_wp2_with fail
      refine (count_any HA9.out).mono ?_
      rintro e w_ ⟨rfl, rfl⟩
      go_wp2_with fail
      refine (count_any HC9.out).mono ?_
      rintro e w_ ⟨rfl, rfl⟩
      clear HA9 HC9
      by_cases hx0 : 0 ≤ x
      · by_cases hx1 : x < ((plc p : Nat) : Int)
        · have dx0 : decide (0 ≤ x) = true := decide_eq_true hx0
          have dx1 : decide (x < ((plc p : Nat) : Int)) = true := decide_eq_true hx1
          have dx2 : decide (x ≥ 0) = true := decide_eq_true hx0
          go_wp2_with fail
          refine (has_any HM9.out _).mono ?_
          rintro e w_ ⟨rfl, rfl⟩
          rw [HROOT.out, dx0, dx1]
          go_wp2_with fail
          refine (len_any HM9.out).mono ?_
          rintro e w_ ⟨rfl, rfl⟩
          go_wp2_with fail
          refine (rreach_any p (nil_grid w9 _) HR9.out (by omega) (by omega) (by simp)).mono ?_
          rintro e w10 ⟨hb, M', rfl, hhb, hH, hI', hB⟩
          have he : M' = M4 := hI'.uniq (show IsR (plc p) (fun k => ([] : List (List Int)).getD k []) rts M4 from HI9.out)
          rw [he] at hH
          have HH := Lib.hid hH
          have HN10 := Lib.hid (HN9.out.up hB)
          have HB10 := Lib.hid (HB9.out.trans (hB.mono HB9.out.size))
          clear he hH hI' hB hhb HR9 HI9 HN9 HB9 HM9
          go_wp2_with fail
          refine (msame_yes HN10.out HH.out).mono ?_
          rintro e w11 ⟨rfl, hB⟩
          have HN11 := Lib.hid (HN10.out.up hB)
          have HB11 := Lib.hid (HB10.out.trans (hB.mono HB10.out.size))
          clear hB HN10 HB10 HH
          by_cases hr0 : ρ4 = 0
          · subst hr0
            go_wp2
            go_ret
            exact ⟨rfl, HB11.out⟩
          · have d0 : ((ρ4 : Int) == 0) = false := by simp; omega
            have hrl : r < ((plc p : Nat) : Int) := by
              rcases HRHO.out with h | h
              · exact absurd h hr0
              · have := popM_le (plc p) M4
                revert h
                split <;> omega
            have d1 : decide (r < ((plc p : Nat) : Int)) = true := decide_eq_true hrl
            go_wp2_with fail
            refine (len_any HN11.out).mono ?_
            rintro e w_ ⟨rfl, rfl⟩
            go_wp2
            go_ret
            exact ⟨rfl, HB11.out⟩
        · have dx0 : decide (0 ≤ x) = true := decide_eq_true hx0
          have dx1 : decide (x < ((plc p : Nat) : Int)) = false := decide_eq_false hx1
          have dx2 : decide (x ≥ 0) = true := decide_eq_true hx0
          go_wp2_with fail
          refine (has_any HM9.out _).mono ?_
          rintro e w_ ⟨rfl, rfl⟩
          rw [HROOT.out, dx0, dx1]
          go_wp2_with fail
          refine (len_any HM9.out).mono ?_
          rintro e w_ ⟨rfl, rfl⟩
          go_wp2_with fail
          refine (rreach_any p (nil_grid w9 _) HR9.out (by omega) (by omega) (by simp)).mono ?_
          rintro e w10 ⟨hb, M', rfl, hhb, hH, hI', hB⟩
          have he : M' = M4 := hI'.uniq (show IsR (plc p) (fun k => ([] : List (List Int)).getD k []) rts M4 from HI9.out)
          rw [he] at hH
          have HH := Lib.hid hH
          have HN10 := Lib.hid (HN9.out.up hB)
          have HB10 := Lib.hid (HB9.out.trans (hB.mono HB9.out.size))
          clear he hH hI' hB hhb HR9 HI9 HN9 HB9 HM9
          go_wp2_with fail
          refine (msame_yes HN10.out HH.out).mono ?_
          rintro e w11 ⟨rfl, hB⟩
          have HN11 := Lib.hid (HN10.out.up hB)
          have HB11 := Lib.hid (HB10.out.trans (hB.mono HB10.out.size))
          clear hB HN10 HB10 HH
          by_cases hr0 : ρ4 = 0
          · subst hr0
            go_wp2
            go_ret
            exact ⟨rfl, HB11.out⟩
          · have d0 : ((ρ4 : Int) == 0) = false := by simp; omega
            have hrl : r < ((plc p : Nat) : Int) := by
              rcases HRHO.out with h | h
              · exact absurd h hr0
              · have := popM_le (plc p) M4
                revert h
                split <;> omega
            have d1 : decide (r < ((plc p : Nat) : Int)) = true := decide_eq_true hrl
            go_wp2_with fail
            refine (len_any HN11.out).mono ?_
            rintro e w_ ⟨rfl, rfl⟩
            go_wp2
            go_ret
            exact ⟨rfl, HB11.out⟩
      · have dx0 : decide (0 ≤ x) = false := decide_eq_false hx0
        have dx1 : decide (x < ((plc p : Nat) : Int)) = decide (x < ((plc p : Nat) : Int)) := rfl
        have dx2 : decide (x ≥ 0) = false := decide_eq_false hx0
        go_wp2_with fail
        refine (has_any HM9.out _).mono ?_
        rintro e w_ ⟨rfl, rfl⟩
        rw [HROOT.out, dx0, Bool.false_and]
        go_wp2_with fail
        refine (rreach_any p (nil_grid w9 _) HR9.out (by omega) (by omega) (by simp)).mono ?_
        rintro e w10 ⟨hb, M', rfl, hhb, hH, hI', hB⟩
        have he : M' = M4 := hI'.uniq (show IsR (plc p) (fun k => ([] : List (List Int)).getD k []) rts M4 from HI9.out)
        rw [he] at hH
        have HH := Lib.hid hH
        have HN10 := Lib.hid (HN9.out.up hB)
        have HB10 := Lib.hid (HB9.out.trans (hB.mono HB9.out.size))
        clear he hH hI' hB hhb HR9 HI9 HN9 HB9 HM9
        go_wp2_with fail
        refine (msame_yes HN10.out HH.out).mono ?_
        rintro e w11 ⟨rfl, hB⟩
        have HN11 := Lib.hid (HN10.out.up hB)
        have HB11 := Lib.hid (HB10.out.trans (hB.mono HB10.out.size))
        clear hB HN10 HB10 HH
        by_cases hr0 : ρ4 = 0
        · subst hr0
          go_wp2
          go_ret
          exact ⟨rfl, HB11.out⟩
        · have d0 : ((ρ4 : Int) == 0) = false := by simp; omega
          have hrl : r < ((plc p : Nat) : Int) := by
            rcases HRHO.out with h | h
            · exact absurd h hr0
            · have := popM_le (plc p) M4
              revert h
              split <;> omega
          have d1 : decide (r < ((plc p : Nat) : Int)) = true := decide_eq_true hrl
          go_wp2_with fail
          refine (len_any HN11.out).mono ?_
          rintro e w_ ⟨rfl, rfl⟩
          go_wp2
          go_ret
          exact ⟨rfl, HB11.out⟩
theorem markGrows_walk (w : World) (p : Int) (_ : (Lit.int .i64 p).wf = true) (A : Option Addr) (len c : Nat) (rows : List (List Int)) (hG : Grid w w.heap.size A len rows) (Bq : Option Addr) (m d : Nat) (zs : List Int) (hR : IsRow .i64 w Bq m d zs) (x : Int) (_ : (Lit.int .i64 x).wf = true) (r : Int) (_ : (Lit.int .i64 r).wf = true) (hT : Tab w) :
    Calls Tryd.prog 16 #[.int .i64 p, .slice A len c, .slice Bq m d, .int .i64 x, .int .i64 r] w fun e w' => e = .returned (.bool true) ∧ Below w.heap.size w w' := by
  cases hf : fewB rows len m
  · exact markGrows_few w p x r A len c rows hG Bq m d hf hT
  · by_cases hp : p ≤ 300
    · exact markGrows_main w p x r A len c rows hG Bq m d _ hR.rd hf hp hT
    · exact markGrows_wide w p x r A len c rows hG Bq m d hf (by omega) hT
end Go.Proofs.YtdfpmgpdkajhkaaDoor
