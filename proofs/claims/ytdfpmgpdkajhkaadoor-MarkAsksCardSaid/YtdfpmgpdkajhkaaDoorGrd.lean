/-
  The form's reading of a slice of slices of ints gives 'Grid'. Premises in each theorem.
-/
import Derived.Test.YtdfpmgpdkajhkaaDoorMkd
import Derived.Deep.Matrix
import Derived.ChangeSame
import Derived.ProofKit
namespace Go.Proofs.YtdfpmgpdkajhkaaDoor
open Go.RowKit Go.ChangeShapes Go.WideShapes Go.Deep
theorem add_at {b off i : Nat} : Addr.add ⟨b, off, none⟩ i = ⟨b, off + i, none⟩ := by
  unfold Addr.add
  split
  · next e => rw [e]; rfl
  · rfl
/-- A row of the model, as a list that reads. -/
theorem rdB_row {w : World} {A : Option Addr} {L C : Nat} {Z : List Int} (hL : L ≤ C) (hZ : Z.length = C) (hn : A = none → C = 0) (hc : ∀ a', A = some a' → ∀ c, c < C → w.cell? (a'.add c) = some (.int .i64 (Z.getD c 0))) : RdB w w.heap.size A L (Z.take L) := by
  refine ⟨by simp; omega, fun hp => ?_⟩
  rcases A with _ | a
  · have := hn rfl; omega
  · obtain ⟨b, off, spot⟩ := a
    have h0 := hc _ rfl 0 (by omega)
    have hspot : spot = none := by simpa [Addr.add] using World.cell?_spot h0
    subst hspot
    refine ⟨b, off, rfl, World.block_lt_of_cell? w _ (by simpa [Addr.add] using h0), fun i hi => ?_⟩
    have := hc _ rfl i (by omega)
    rw [add_at] at this
    rw [this, List.getD_eq_getElem?_getD, List.getD_eq_getElem?_getD, List.getElem?_take_of_lt hi]
theorem isGrid_of_trod {H : Type} {enc : TypeId × Value → H} {P : Program} {w : World} {base : Nat} {held : Bool} {t e q : TypeId} {a : Option Addr} {len cap : Nat} {d : DataW H} {p : List MemPlace}
    (ht : P.underlying t = some (.slice e)) (he : P.underlying e = some (.slice q)) (hq : P.underlying q = some (.int .i64)) (ce : P.cellsOf e = 1) (cq : P.cellsOf q = 1) (h : DataW.Trod enc P w base (fun _ => true) held t (.slice a len cap) d p) :
    ∃ rows, Grid w w.heap.size a len rows := by
  obtain ⟨fuel, hf⟩ := h
  rcases open_int_rows ht he hq ce cq hf with ⟨hcs, _⟩ | ⟨x, l, c, A, L, C, Z, hcs, _, hl, _, _, hr⟩
  · simp [Value.cells] at hcs
    obtain ⟨rfl, rfl, rfl⟩ := hcs
    exact ⟨[], rfl, fun h => by omega⟩
  · simp [Value.cells] at hcs
    obtain ⟨rfl, rfl, rfl⟩ := hcs
    refine ⟨(List.range len).map fun r => (Z r).take (L r), by simp, fun hp => ?_⟩
    obtain ⟨b, off, spot⟩ := x
    have h0 := (hr 0 (by omega)).1
    have hspot : spot = none := by simpa [Addr.add] using World.cell?_spot h0
    subst hspot
    refine ⟨b, off, rfl, World.block_lt_of_cell? w _ (by simpa [Addr.add] using h0), fun i hi => ?_⟩
    obtain ⟨h1, h2, _, h4, _, h6, h7⟩ := hr i (by omega)
    rw [add_at] at h1
    refine ⟨A i, L i, C i, h1, ?_⟩
    have e1 : ((List.range len).map fun r => (Z r).take (L r)).getD i [] = (Z i).take (L i) := by
      rw [List.getD_eq_getElem?_getD, List.getElem?_map, List.getElem?_range hi]
      rfl
    rw [e1]
    exact rdB_row h2 h4 h6 fun a' ha c hc => (h7 a' ha).2 c hc
end Go.Proofs.YtdfpmgpdkajhkaaDoor
