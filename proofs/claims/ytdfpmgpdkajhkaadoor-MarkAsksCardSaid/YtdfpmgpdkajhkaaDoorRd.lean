/-
  A slice that reads as a list of ints. No condition.
-/
import Derived.Test.YtdfpmgpdkajhkaaDoorOw
namespace Go.Proofs.YtdfpmgpdkajhkaaDoor
open Go.RowKit
/-- The slice '.slice A n _' reads as the ints xs. -/
def Rd (w : World) (A : Option Addr) (n : Nat) (xs : List Int) : Prop :=
  xs.length = n ∧ (0 < n → ∃ g off, A = some ⟨g, off, none⟩ ∧ g < w.heap.size ∧ ∀ i, i < n → w.cell? ⟨g, off + i, none⟩ = some (.int .i64 (xs.getD i 0)))
theorem Rd.up {w w' : World} {A : Option Addr} {n : Nat} {xs : List Int} (h : Rd w A n xs) (hb : Below w.heap.size w w') : Rd w' A n xs :=
  ⟨h.1, fun hp => by
    obtain ⟨g, off, e, hg, hc⟩ := h.2 hp
    exact ⟨g, off, e, Nat.lt_of_lt_of_le hg hb.size, fun i hi => (hb.cell (p := ⟨g, off + i, none⟩) hg).trans (hc i hi)⟩⟩
theorem Own.rd {w : World} {base : Nat} {A : Option Addr} {n c : Nat} {xs : List Int} (h : Own w base A n c xs) : Rd w A n xs :=
  ⟨h.1, fun hp => by
    obtain ⟨g, e, _, hg, _, hc⟩ := h.at hp
    exact ⟨g, 0, e, hg, fun i hi => by rw [Nat.zero_add]; exact hc i hi⟩⟩
end Go.Proofs.YtdfpmgpdkajhkaaDoor
