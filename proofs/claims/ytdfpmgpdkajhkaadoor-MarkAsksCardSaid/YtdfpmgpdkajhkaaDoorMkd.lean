/-
  The law's functions of edges: a list's function (by), and its closure; what a walk is told of a slice of slices. Premises in each theorem.
-/
import Derived.Test.YtdfpmgpdkajhkaaDoorMkb
import Derived.Test.YtdfpmgpdkajhkaaDoorRd
namespace Go.Proofs.YtdfpmgpdkajhkaaDoor
open Go.RowKit
/-- The slice '.slice A n _', in a block below B, reads as the ints xs. -/
def RdB (w : World) (B : Nat) (A : Option Addr) (n : Nat) (xs : List Int) : Prop :=
  xs.length = n ∧ (0 < n → ∃ g off, A = some ⟨g, off, none⟩ ∧ g < B ∧ ∀ i, i < n → w.cell? ⟨g, off + i, none⟩ = some (.int .i64 (xs.getD i 0)))
theorem RdB.below {w w' : World} {B B' : Nat} {A : Option Addr} {n : Nat} {xs : List Int} (h : RdB w B A n xs) (hb : Below B' w w') (hB : B ≤ B') : RdB w' B A n xs :=
  ⟨h.1, fun hp => by
    obtain ⟨g, off, e, hg, hc⟩ := h.2 hp
    exact ⟨g, off, e, hg, fun i hi => (hb.cell (p := ⟨g, off + i, none⟩) (by dsimp only; omega)).trans (hc i hi)⟩⟩
theorem RdB.rd {w : World} {B : Nat} {A : Option Addr} {n : Nat} {xs : List Int} (h : RdB w B A n xs) (hB : B ≤ w.heap.size) : Rd w A n xs :=
  ⟨h.1, fun hp => by
    obtain ⟨g, off, e, hg, hc⟩ := h.2 hp
    exact ⟨g, off, e, by omega, hc⟩⟩
theorem Rd.rdB {w : World} {A : Option Addr} {n : Nat} {xs : List Int} (h : Rd w A n xs) : RdB w w.heap.size A n xs := h
theorem RdB.more {w : World} {B B' : Nat} {A : Option Addr} {n : Nat} {xs : List Int} (h : RdB w B A n xs) (hB : B ≤ B') : RdB w B' A n xs :=
  ⟨h.1, fun hp => by
    obtain ⟨g, off, e, hg, hc⟩ := h.2 hp
    exact ⟨g, off, e, by omega, hc⟩⟩
/-- A slice of slices of ints, all of it below B. -/
def Grid (w : World) (B : Nat) (A : Option Addr) (n : Nat) (rows : List (List Int)) : Prop :=
  rows.length = n ∧ (0 < n → ∃ g off, A = some ⟨g, off, none⟩ ∧ g < B ∧ ∀ i, i < n → ∃ A' d c, w.cell? ⟨g, off + i, none⟩ = some (.slice A' d c) ∧ RdB w B A' d (rows.getD i []))
theorem Grid.below {w w' : World} {B B' : Nat} {A : Option Addr} {n : Nat} {rows : List (List Int)} (h : Grid w B A n rows) (hb : Below B' w w') (hB : B ≤ B') : Grid w' B A n rows :=
  ⟨h.1, fun hp => by
    obtain ⟨g, off, e, hg, hc⟩ := h.2 hp
    refine ⟨g, off, e, hg, fun i hi => ?_⟩
    obtain ⟨A', d, c, h1, h2⟩ := hc i hi
    exact ⟨A', d, c, (hb.cell (p := ⟨g, off + i, none⟩) (by dsimp only; omega)).trans h1, h2.below hb hB⟩⟩
theorem Grid.more {w : World} {B B' : Nat} {A : Option Addr} {n : Nat} {rows : List (List Int)} (h : Grid w B A n rows) (hB : B ≤ B') : Grid w B' A n rows :=
  ⟨h.1, fun hp => by
    obtain ⟨g, off, e, hg, hc⟩ := h.2 hp
    refine ⟨g, off, e, by omega, fun i hi => ?_⟩
    obtain ⟨A', d, c, h1, h2⟩ := hc i hi
    exact ⟨A', d, c, h1, h2.more hB⟩⟩
/-- What 'by' captured. -/
def InvBy (eb B : Nat) (A : Option Addr) (n c : Nat) (rows : List (List Int)) (_ : Nat) (w : World) : Prop := w.cell? ⟨eb, 0, none⟩ = some (.slice A n c) ∧ eb < B ∧ Grid w B A n rows
theorem InvBy.below {eb B n c Q : Nat} {A : Option Addr} {rows : List (List Int)} {w w' : World} (h : InvBy eb B A n c rows Q w) (hb : Below B w w') : InvBy eb B A n c rows Q w' :=
  ⟨(hb.cell (p := ⟨eb, 0, none⟩) h.2.1).trans h.1, h.2.1, h.2.2.below hb (Nat.le_refl _)⟩
set_option maxHeartbeats 1000000 in
/-- by's closure, at a place. -/
theorem by1_any {w : World} {eb B n c Q : Nat} {A : Option Addr} {rows : List (List Int)} (h : InvBy eb B A n c rows Q w) (k : Nat) (hk : k ≤ 1000000) :
    Calls Tryd.prog 69 #[.int .i64 (k : Nat), .pointer (some ⟨eb, 0, none⟩)] w fun e w' => (∃ A' d c', e = .returned (.slice A' d c') ∧ RdB w B A' d (rows.getD k [])) ∧ w = w' := by
  obtain ⟨h1, h2, h3⟩ := h
  have hl := h3.1
  have d0 : decide ((k : Int) < 0) = false := decide_eq_false (by omega)
  by_cases hkn : k < n
  · obtain ⟨g, off, rfl, hg, hc⟩ := h3.2 (by omega)
    obtain ⟨A', d, c', hx, hr⟩ := hc k hkn
    have HR := Lib.hid hr
    have d1 : decide ((k : Int) ≥ (n : Int)) = false := decide_eq_false (by omega)
    clear hc hr h3 hl
    have H : Calls Tryd.prog 69 #[.int .i64 (k : Nat), .pointer (some ⟨eb, 0, none⟩)] w fun e w' => e = .returned (.slice A' d c') ∧ w = w' := by
      go_enter Tryd.func69, Tryd.ntmps69
      go_wp2
      go_ret
      exact ⟨rfl, rfl⟩
    exact H.mono fun e w' hh => ⟨⟨A', d, c', hh.1, HR.out⟩, hh.2⟩
  · have HE : Hid (rows.getD k [] = []) := Lib.hid (by rw [List.getD_eq_getElem?_getD, List.getElem?_eq_none (by omega)]; rfl)
    have d1 : decide ((k : Int) ≥ (n : Int)) = true := decide_eq_true (by omega)
    clear h3 hl
    have H : Calls Tryd.prog 69 #[.int .i64 (k : Nat), .pointer (some ⟨eb, 0, none⟩)] w fun e w' => e = .returned (.slice none 0 0) ∧ w = w' := by
      go_enter Tryd.func69, Tryd.ntmps69
      go_wp2
      go_ret
      exact ⟨rfl, rfl⟩
    exact H.mono fun e w' hh => ⟨⟨none, 0, 0, hh.1, by rw [HE.out]; exact ⟨rfl, fun h => by omega⟩⟩, hh.2⟩
theorem by_edges {eb B n c N : Nat} {A : Option Addr} {rows : List (List Int)} (hN : N ≤ 4096) (hlen : ∀ k, (rows.getD k []).length ≤ 100000) :
    Edges 69 #[.pointer (some ⟨eb, 0, none⟩)] (fun k => rows.getD k []) N B none (InvBy eb B A n c rows) where
  en := fun args w => enters_of Tryd.func69 (by kernel_rfl) rfl args w
  call := fun w Q k hk hB h => (by1_any h k (by omega)).mono fun e w' ⟨⟨A', d, c', he, hr⟩, hw⟩ => by
    subst hw
    refine ⟨A', d, c', he, ⟨hr.1, fun hp => ?_⟩, only_refl _ _, h⟩
    obtain ⟨g, off, e1, hg, hc⟩ := hr.2 hp
    exact ⟨g, off, e1, .inl hg, by omega, hc⟩
  keep := fun Q w w' h hb => h.below hb
  row := fun r e => by cases e
  len := hlen
set_option maxHeartbeats 1000000 in
/-- by. -/
theorem by_any (w : World) (A : Option Addr) (n c : Nat) : Calls Tryd.prog 48 #[.slice A n c] w fun e w' => e = .returned (.func (.func 69) #[] #[.pointer (some ⟨w.heap.size, 0, none⟩)]) ∧ w' = w.alloc (.cells #[.slice A n c] 59) := by
  go_enter Tryd.func48, Tryd.ntmps48
  go_wp2
  go_ret
  exact ⟨rfl, rfl⟩
theorem inv_by {w : World} {A : Option Addr} {n c B : Nat} {rows : List (List Int)} (h : Grid w B A n rows) (hB : B ≤ w.heap.size) : InvBy w.heap.size (w.heap.size + 1) A n c rows 0 (w.alloc (.cells #[.slice A n c] 59)) :=
  ⟨(Blk.new w #[.slice A n c] 59).cell rfl, by omega, (h.below ((Below.refl w.heap.size w).alloc (Nat.le_refl _) _) hB).more (by omega)⟩
end Go.Proofs.YtdfpmgpdkajhkaaDoor
