/-
  Small laws on worlds, for whatever program: a block of memory known whole ('Blk'), behind a new block, a store, a draw, a call that leaves old memory alone; what 'Below' gives. No condition beyond each theorem's own premises.
-/
import Derived.WalkKit
import Derived.Lib.Hide
import Derived.Deep.QuietTactic
import Derived.BigQuiet
import Derived.StillTailTactics
namespace Go.Proofs.YtdfpmgpdkajhkaaDoor
open Go.RowKit

theorem bcell {W w1 : World} (hb : Below W.heap.size W w1) : (∀ b o, b < W.heap.size → w1.cell? ⟨b, o, none⟩ = W.cell? ⟨b, o, none⟩) ∧ (∀ b o, b < W.heap.size → w1.frozen? ⟨b, o, none⟩ = W.frozen? ⟨b, o, none⟩) :=
  ⟨fun b o h => hb.cell (p := ⟨b, o, none⟩) h, fun b o h => hb.frozen (p := ⟨b, o, none⟩) h⟩
theorem bstep {B B' : Nat} {w W w1 : World} (k : Below B w W) (h : Below B' W w1) (hB : B ≤ B') : Below B w w1 := k.trans (h.mono hB)
theorem ret_int' {k : IntKind} {a b : Int} (h : a = b) : Ending.returned (.int k a) = .returned (.int k b) := by rw [h]
theorem ret_bool' {a b : Bool} (h : a = b) : Ending.returned (.bool a) = .returned (.bool b) := by rw [h]

/-- The block b holds just these cells, none of them frozen. -/
def Blk (w : World) (b : Nat) (cs : Array Value) (t : TypeId) : Prop := w.heap[b]? = some (.cells cs t (0, 0))

theorem Blk.lt {w : World} {b : Nat} {cs : Array Value} {t : TypeId} (h : Blk w b cs t) : b < w.heap.size := by
  unfold Blk at h
  exact (Array.getElem?_eq_some_iff.1 h).1
theorem Blk.cell {w : World} {b : Nat} {cs : Array Value} {t : TypeId} (h : Blk w b cs t) {i : Nat} {v : Value} (hv : cs[i]? = some v) : w.cell? ⟨b, i, none⟩ = some v := by
  unfold Blk at h
  simp [World.cell?, h, hv]
theorem Blk.free {w : World} {b : Nat} {cs : Array Value} {t : TypeId} (h : Blk w b cs t) (i : Nat) : w.frozen? ⟨b, i, none⟩ = false := by
  unfold Blk at h
  simp [World.frozen?, h]
theorem Blk.below {w w1 : World} {b B : Nat} {cs : Array Value} {t : TypeId} (h : Blk w b cs t) (hb : Below B w w1) (hB : b < B) : Blk w1 b cs t :=
  (hb.block b hB).trans h
theorem Blk.alloc {w : World} {b : Nat} {cs : Array Value} {t : TypeId} (h : Blk w b cs t) (o : Obj) : Blk (w.alloc o) b cs t :=
  (Below.heap_alloc w o b h.lt).trans h
theorem Blk.new (w : World) (cs : Array Value) (t : TypeId) : Blk (w.alloc (.cells cs t)) w.heap.size cs t := by
  show (w.heap.push _)[w.heap.size]? = _
  simp
theorem Blk.new' {w : World} {k : Nat} (hk : k = w.heap.size) (cs : Array Value) (t : TypeId) : Blk (w.alloc (.cells cs t)) k cs t := by subst hk; exact Blk.new w cs t
theorem Blk.drew {w : World} {b : Nat} {cs : Array Value} {t : TypeId} (h : Blk w b cs t) : Blk w.drew b cs t := h
theorem Blk.other {w : World} {b : Nat} {cs : Array Value} {t : TypeId} (h : Blk w b cs t) (a : Addr) (v : Value) (hne : b ≠ a.block) : Blk (w.setCell a v) b cs t :=
  (Below.heap_setCell w a v b hne).trans h
theorem Blk.set {w : World} {b i : Nat} {cs : Array Value} {t : TypeId} (h : Blk w b cs t) (v : Value) : Blk (w.setCell ⟨b, i, none⟩ v) b (cs.setIfInBounds i v) t := by
  unfold Blk at *
  have hlt := (Array.getElem?_eq_some_iff.1 h).1
  simp only [World.setCell, Array.getElem?_modify]
  simp [h]

/-! ### A region that draws its order, whose own operations only read and whose callees may make memory: one walk, in the order of the text -/

/-- A world in which all that was there in W is as it was. -/
structure BW (W : World) where
  w : World
  is : Below W.heap.size W w
instance (W : World) : Nonempty (BW W) := ⟨⟨W, Below.refl _ _⟩⟩
theorem wp_region_bw {P : Program} {id : Nat} {Q : Exit → Act → World → Prop} {a : Act} {w : World} {l : List Oper} (hm : P.follows .mixedOrders = true) (hB : Region.lexB .any l.toArray = true)
    (h : wpQuiet P l.toArray (fun w' => ∃ u : BW w, w' = u.w) (fun a' => ∀ u : BW w, Q .normal a' u.w) l a) : (Code.region id l.toArray true).wp P Q a w := by
  refine wp_region_quiet (C := fun w' => ∃ u : BW w, w' = u.w) hm hB ⟨⟨_, (Below.refl w.heap.size w).drew⟩, rfl⟩ ?_
  have e : (fun a' => ∀ w', (∃ u : BW w, w' = u.w) → Q .normal a' w') = fun a' => ∀ u : BW w, Q .normal a' u.w := by
    funext a'
    exact propext ⟨fun k u => k _ ⟨u, rfl⟩, fun k w' ⟨u, hu⟩ => hu ▸ k u⟩
  rw [e]
  exact h
/-- A callee's contract, met within such a region. -/
theorem calls_bw {P : Program} {f : FuncId} {args : Array Value} {w : World} {u : BW w} {v : Value}
    (h : Calls P f args u.w fun e w' => e = .returned v ∧ Below u.w.heap.size u.w w') : Calls P f args u.w fun e w'' => e = .returned v ∧ ∃ u' : BW w, w'' = u'.w :=
  h.mono fun _ w' hh => ⟨hh.1, ⟨⟨w', u.is.trans (hh.2.mono u.is.size)⟩, rfl⟩⟩
/-- A region that draws its order: its first n operations only read and call nothing; the rest comes in the order of the text: one walk. -/
theorem wp_region_st {P : Program} {id : Nat} {Q : Exit → Act → World → Prop} {a : Act} {w : World} {l : List Oper} (n : Nat) (hm : P.follows .mixedOrders = true) (hB : Region.lexTailB .any l.toArray n = true)
    (h : wpStill P l.toArray w.drew (fun a' => wpList P l.toArray Q (l.drop n) a' w.drew) (l.take n) a) : (Code.region id l.toArray true).wp P Q a w := wp_region_still_tail n hm hB h
theorem bw_cell (W : World) : ∀ (u : BW W) (b o : Nat), b < W.heap.size → u.w.cell? ⟨b, o, none⟩ = W.cell? ⟨b, o, none⟩ := fun u b o h => u.is.cell (p := ⟨b, o, none⟩) h
end Go.Proofs.YtdfpmgpdkajhkaaDoor
