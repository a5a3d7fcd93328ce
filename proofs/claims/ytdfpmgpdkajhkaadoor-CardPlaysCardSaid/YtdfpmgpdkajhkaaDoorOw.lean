/-
  A slice of ints that a call makes by append: 'Own'; what append does to it; that maps of bits stay. Premises in each theorem.
-/
import Derived.Test.YtdfpmgpdkajhkaaDoorBits2
import Derived.Maps.AppendAt
import Derived.OwnWalk
namespace Go.Proofs.YtdfpmgpdkajhkaaDoor
open Go.RowKit
/-- The slice value '.slice A n c' owns the ints xs, in a block from 'base' on. -/
def Own (w : World) (base : Nat) (A : Option Addr) (n c : Nat) (xs : List Int) : Prop :=
  xs.length = n ∧ w.ownsRow base 3 1 (.slice A n c) n (xs.map fun x => Value.int .i64 x)
theorem Own.nil (w : World) (base : Nat) : Own w base none 0 0 [] := ⟨rfl, World.ownsRow_nil w base 3 1⟩
/-- Its block. -/
theorem Own.at {w : World} {base : Nat} {A : Option Addr} {n c : Nat} {xs : List Int} (h : Own w base A n c xs) (hp : 0 < n) :
    ∃ g, A = some ⟨g, 0, none⟩ ∧ base ≤ g ∧ g < w.heap.size ∧ n ≤ c ∧ ∀ i, i < n → w.cell? ⟨g, i, none⟩ = some (.int .i64 (xs.getD i 0)) := by
  obtain ⟨hl, ho⟩ := h
  rcases ho.2 with ⟨_, h0⟩ | ⟨g, cap, cur, hv, hb, hh, hn, hm, _, hc⟩
  · omega
  · injection hv with hA _ hcc
    subst hA hcc
    refine ⟨g, rfl, hb, (Array.getElem?_eq_some_iff.1 hh).1, hn, fun i hi => ?_⟩
    rw [ho.cellAt i (by omega)]
    rw [List.getElem?_map, List.getElem?_eq_getElem (by omega), List.getD_eq_getElem?_getD, List.getElem?_eq_getElem (by omega)]
    rfl
theorem Own.kept {w w' : World} {base : Nat} {A : Option Addr} {n c : Nat} {xs : List Int} (h : Own w base A n c xs) {row : Option Nat} (hg : w.grownBy w' row) (hne : ∀ g, row = some g → ∀ t cs, w.heap[g]? = some (.cells cs t (0, 0)) → t ≠ 3) : Own w' base A n c xs := by
  refine ⟨h.1, h.2.kept hg ?_⟩
  rcases h.2.2 with ⟨hv, _⟩ | ⟨g, cap, cur, hv, _, hh, _⟩
  · left; rw [hv]; rfl
  · right
    rw [hv]
    intro e
    exact hne g (by rw [← e]; rfl) 3 cur hh rfl
theorem Own.below {w w' : World} {base B : Nat} {A : Option Addr} {n c : Nat} {xs : List Int} (h : Own w base A n c xs) (hg : Below B w w') (hB : w.heap.size ≤ B) : Own w' base A n c xs := by
  have hg' : w.grownBy w' none := ⟨hg.os, hg.tape, hg.output, hg.size, fun k hk _ => hg.block k (by omega)⟩
  exact h.kept hg' (fun g e => by cases e)
theorem Own.up {w w' : World} {base : Nat} {A : Option Addr} {n c : Nat} {xs : List Int} (h : Own w base A n c xs) (hg : Below w.heap.size w w') : Own w' base A n c xs := h.below hg (Nat.le_refl _)
/-- A store into a map's words leaves it. -/
theorem Own.words {w w' : World} {base b g m M : Nat} {A : Option Addr} {n c : Nat} {xs : List Int} (h : Own w base A n c xs) (hM : BM w b g m M) (hg : w.grownBy w' (some g)) : Own w' base A n c xs := by
  refine h.kept hg fun g' e t cs hh => ?_
  injection e with e
  subst e
  have := hM.ws
  unfold Blk at this
  rw [this] at hh
  injection hh with hh
  injection hh with _ ht
  subst ht
  decide
/-- What append writes is no map. -/
theorem own_blk {w : World} {base b : Nat} {A : Option Addr} {n c : Nat} {xs : List Int} {cs : Array Value} {t : TypeId} (h : Own w base A n c xs) (hB : Blk w b cs t) (ht : t ≠ 3) : some b ≠ (Value.slice A n c).ownBlock := by
  rcases h.2.2 with ⟨hv, _⟩ | ⟨g, cap, cur, hv, _, hh, _⟩
  · rw [hv]; intro e; cases e
  · rw [hv]
    intro e
    have e' : b = g := Option.some.inj e
    subst e'
    unfold Blk at hB
    rw [hh] at hB
    injection hB with hB
    injection hB with _ q
    exact ht q.symm
theorem own_zero {w : World} {base k : Nat} {A : Option Addr} {n c : Nat} {xs : List Int} (h : Own w base A n c xs) (hk : k < base) : some k ≠ (Value.slice A n c).ownBlock := by
  intro e
  have := h.2.lt k e.symm
  omega
theorem BM.own {w w' : World} {b g m M base : Nat} {A : Option Addr} {n c : Nat} {xs : List Int} (h : BM w b g m M) (ho : Own w base A n c xs) (h0 : 0 < base) (hg : w.grownBy w' (Value.slice A n c).ownBlock) : BM w' b g m M :=
  h.grown hg (own_zero ho h0) (own_blk ho h.hd (by decide)) (own_blk ho h.ws (by decide))
theorem below_own {w w' W : World} {B base : Nat} {A : Option Addr} {n c : Nat} {xs : List Int} (h : Below B W w) (ho : Own w base A n c xs) (hB : B ≤ base) (hs : B ≤ w.heap.size) (hg : w.grownBy w' (Value.slice A n c).ownBlock) : Below B W w' :=
  h.grown hg hs (fun k e => by have := ho.2.lt k e; omega)
theorem info3 : (Tryd.prog.info? 3).map (fun i => (i.zero, i.size, i.bytes)) = some (some (.int .i64 0), 1, 8) := by kernel_rfl
/-- 'out = append(out, y)', out the call's own. -/
theorem app_int {ops : Array Oper} {rest : List Oper} {o : Oper} {a : Act} {Q : Exit → Act → World → Prop} (hgd : o.guard = none) (s x : Operand)
    (ho : o.op = .call { callee := .builtin .append, args := #[s, x], argTypes := #[28, 28] }) (w : World) (base : Nat) (A : Option Addr) (n c : Nat) (xs : List Int) (y : Int)
    (hs : a.eval s = .slice A n c) (hx : a.eval x = .slice (some ⟨w.heap.size, 0, none⟩) 1 1) (hown : Own w base A n c xs) (hlen : n ≤ 1000000) (hbase : base ≤ w.heap.size)
    (h : ∀ A' c' w', Own w' base A' (n + 1) c' (xs ++ [y]) → w.grownBy w' (Value.slice A n c).ownBlock → wpList Tryd.prog ops Q rest (a.put o.dst (.slice A' (n + 1) c')) w') :
    wpList Tryd.prog ops Q (o :: rest) a (w.alloc (.cells #[.int .i64 y] 3)) := by
  obtain ⟨i, hi, h0, h1, h2⟩ := info_parts info3
  refine wpList_append_own_at (P := Tryd.prog) _ hgd s x 28 ho base 3 i (.int .i64 0) 1 8 Tryd.underlying28 hi h0 h1 h2 rfl (by decide) (.slice A n c) n _ hs (hown.2.alloc _) ⟨w.heap.size, 0, none⟩ 1 1 [.int .i64 y] hx rfl
    (fun j u hu => ?_) (fun u hu => by simp at hu; subst hu; rfl) (by unfold maxLen; omega) (by omega) (by simp; omega) (fun v' w' h1 h2 _ _ => ?_)
  · rcases j with _ | j
    · simp at hu
      subst hu
      show (w.alloc _).cell? ⟨w.heap.size, 0, none⟩ = _
      exact (Blk.new w #[.int .i64 y] 3).cell rfl
    · simp at hu
  · have hsz : w.grownBy w' (Value.slice A n c).ownBlock := only_trans (World.grownBy_alloc w _ _) h2
    have hform : ∃ A' c', v' = .slice A' (n + 1) c' := by
      rcases h1.2 with ⟨_, q⟩ | ⟨g, cap, cur, hv, _⟩
      · omega
      · exact ⟨_, _, hv⟩
    obtain ⟨A', c', rfl⟩ := hform
    refine h A' c' w' ⟨by simp [hown.1], ?_⟩ hsz
    simpa using h1
end Go.Proofs.YtdfpmgpdkajhkaaDoor
