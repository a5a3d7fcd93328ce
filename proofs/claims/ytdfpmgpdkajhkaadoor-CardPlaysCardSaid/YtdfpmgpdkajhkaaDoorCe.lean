/-
  Contracts: gleaningref01.Same over slices that read as lists; gleaninglaw07.awake. Premises in each theorem.
-/
import Derived.Test.YtdfpmgpdkajhkaaDoorCd
namespace Go.Proofs.YtdfpmgpdkajhkaaDoor
open Go.RowKit
/-- The slice '.slice A n _' reads as the ints xs. -/
def Rd (w : World) (A : Option Addr) (n : Nat) (xs : List Int) : Prop :=
  xs.length = n ∧ (0 < n → ∃ g off, A = some ⟨g, off, none⟩ ∧ g < w.heap.size ∧ ∀ i, i < n → w.cell? ⟨g, off + i, none⟩ = some (.int .i64 (xs.getD i 0)))
theorem Rd.up {w w' : World} {A : Option Addr} {n : Nat} {xs : List Int} (h : Rd w A n xs) (hb : Below w.heap.size w w') : Rd w' A n xs :=
  ⟨h.1, fun hp => by
    obtain ⟨g, off, e, hg, hc⟩ := h.2 hp
    exact ⟨g, off, e, Nat.lt_of_lt_of_le hg hb.size, fun i hi => (hb.cell (p := ⟨g, off + i, none⟩) hg).trans (hc i hi)⟩⟩
theorem Own.rd {w : World} {base : Nat} {A : Option Addr} {n c : Nat} {xs : List Int} (h : Own w base A n c xs) : Rd w A n xs :=
  ⟨h.1, fun hp => by
    obtain ⟨g, e, _, hg, _, hc⟩ := h.at hp
    exact ⟨g, 0, e, hg, fun i hi => by rw [Nat.zero_add]; exact hc i hi⟩⟩
theorem eq_of_getD {xs ys : List Int} (hl : xs.length = ys.length) (h : ∀ i, i < xs.length → xs.getD i 0 = ys.getD i 0) : xs = ys := by
  apply List.ext_getElem hl
  intro i h1 h2
  have := h i h1
  rw [List.getD_eq_getElem?_getD, List.getD_eq_getElem?_getD, List.getElem?_eq_getElem h1, List.getElem?_eq_getElem h2] at this
  exact this
set_option maxRecDepth 100000 in
set_option maxHeartbeats 2000000 in
/-- Same, of lists that are alike. -/
theorem same_yes {w : World} {A A' : Option Addr} {n c c' : Nat} {xs : List Int} (h : Rd w A n xs) (h' : Rd w A' n xs) (hn : n ≤ 1000000) :
    Calls Tryd.prog 29 #[.slice A n c, .slice A' n c'] w fun e w' => e = .returned (.bool true) ∧ Below w.heap.size w w' := by
  have H := Lib.hid h
  have H' := Lib.hid h'
  clear h h'
  go_enter Tryd.func29, Tryd.ntmps29
  go_wp2
  go_loopw [13] (fun i wr => ∃ k : Nat, k ≤ n ∧ i = .int .i64 k ∧ Hid (Below w.heap.size w wr)) (fun i _ => n - (intOf i).toNat)
  case atStart => exact ⟨0, Nat.zero_le _, rfl, Lib.hid (Below.refl _ _)⟩
  case round =>
    obtain ⟨k, hk, rfl, HB⟩ := hrel
    by_cases hkn : k < n
    · obtain ⟨g, off, rfl, hg, hc⟩ := (H.out.up HB.out).2 (by omega)
      obtain ⟨g', off', rfl, hg', hc'⟩ := (H'.out.up HB.out).2 (by omega)
      have c1 := hc k hkn
      have c2 := hc' k hkn
      clear hc hc'
      generalize xs.getD k 0 = x at c1 c2
      have i0 : (0 : Int) ≤ (k : Int) := by omega
      have i1 : (k : Int) < (n : Int) := by omega
      have hq := bw_cell wr
      go_wp2_with fail
      refine wp_region_bw (by kernel_rfl) (by kernel_rfl) ?_
      repeat go_big_quiet_step (fail)
      with_reducible refine wpQuiet_nil ?_
      rintro ⟨w5, hb⟩
      dsimp only
      have HB1 := Lib.hid (HB.out.trans (hb.mono HB.out.size))
      clear hq hb
      go_wp2
      go_roundw
      case rel => exact ⟨k + 1, by omega, by go_num, HB1⟩
      case measure => simp [intOf]; omega
    · go_wp2
      go_ret
      exact ⟨rfl, HB.out⟩
theorem plc10 : plc 10 = 10 := by decide
theorem plt50 : plt 10 50 = 50 := by decide
set_option maxRecDepth 100000 in
set_option maxHeartbeats 2000000 in
theorem awake7_any {w : World} (hT : Tab w) : Calls Tryd.prog 22 #[] w fun e w' => e = .returned (.bool true) ∧ Below w.heap.size w w' := by
  have HT := Lib.hid hT
  clear hT
  go_enter Tryd.func22, Tryd.ntmps22
  go_wp2_with fail
  refine (tnew_any HT.out 10 50).mono ?_
  rintro e w1 ⟨t, b, g, rfl, ht, hb, hg, hM, hB⟩
  rw [plc10, plt50] at hM
  have H0 := Lib.hid hM
  have HB := Lib.hid hB
  have HG := Lib.hid hg
  clear hM hB hg hb ht
  go_wp2_with fail
  refine (touch_any H0.out 30).mono ?_
  rintro e w2 ⟨rfl, hM, hG⟩
  rw [show newB (ncard 10 50) 0 (cardI 10 50 30) = true by decide]
  rw [show setM (ncard 10 50) 0 (cardI 10 50 30) = 2 by decide] at hM
  have H1 := Lib.hid hM
  have B1 := Lib.hid (below_only HB.out hG HB.out.size HG.out)
  clear hM hG H0
  go_wp2_with fail
  refine (dirty_any H1.out 26).mono ?_
  rintro e w_ ⟨rfl, rfl⟩
  rw [show hasB 2 (cardI 10 50 26) = true by decide]
  go_wp2_with fail
  refine (take_some (k := 1) H1.out (by decide)).mono ?_
  rintro e w3 ⟨rfl, hM, hG⟩
  rw [show clrM 2 ((1 : Nat) : Int) = 0 by decide] at hM
  have H2 := Lib.hid hM
  have B2 := Lib.hid (below_only B1.out hG B1.out.size HG.out)
  clear hM hG H1
  go_wp2_with fail
  refine (dirty_any H2.out 30).mono ?_
  rintro e w_ ⟨rfl, rfl⟩
  rw [hasB_zero]
  go_wp2
  go_ret
  exact ⟨rfl, B2.out⟩
end Go.Proofs.YtdfpmgpdkajhkaaDoor
