/-
  What the walks of the mark laws share: the arguments; by, and a marking over it. Premises in each theorem.
-/
import Derived.Test.YtdfpmgpdkajhkaaDoorMkg
import Derived.Test.YtdfpmgpdkajhkaaDoorMke
import Derived.Test.YtdfpmgpdkajhkaaDoorArg
namespace Go.Proofs.YtdfpmgpdkajhkaaDoor
open Go.RowKit
theorem IsRow.rd {w : World} {a : Option Addr} {len cap : Nat} {zs : List Int} (h : IsRow .i64 w a len cap zs) : Rd w a len (zs.take len) := by
  rcases h with ⟨rfl, rfl, rfl, rfl⟩ | ⟨x, rfl, hl, hm, hz, hc, hw⟩
  · exact ⟨rfl, fun h => by omega⟩
  · refine ⟨by simp; omega, fun hp => ?_⟩
    obtain ⟨b, off, e, hb, hlz, hcell⟩ := (show IsRow .i64 w (some x) len cap zs from .inr ⟨x, rfl, hl, hm, hz, hc, hw⟩).at hp
    refine ⟨b, off, e, hb, fun i hi => ?_⟩
    rw [hcell i hi]
    have e1 : (zs.take len).getD i 0 = zs.getD i 0 := by
      rw [List.getD_eq_getElem?_getD, List.getD_eq_getElem?_getD, List.getElem?_take_of_lt hi]
    rw [e1]
theorem fewB_rows {rows : List (List Int)} {n m : Nat} (h : fewB rows n m = true) : n ≤ 100 ∧ m ≤ 100 ∧ ∀ k, (rows.getD k []).length ≤ 100000 := by
  unfold fewB at h
  simp only [Bool.and_eq_true, decide_eq_true_eq, List.all_eq_true] at h
  refine ⟨h.1.1, h.1.2, fun k => ?_⟩
  by_cases hk : k < rows.length
  · have := h.2 (rows.getD k []) (by rw [List.getD_eq_getElem?_getD, List.getElem?_eq_getElem hk]; exact List.getElem_mem _)
    omega
  · rw [List.getD_eq_getElem?_getD, List.getElem?_eq_none (by omega)]; simp
/-- Reach over by: the world in which 'by' has captured its list. -/
theorem reach_by {w : World} (hT : Tab w) (p r : Int) {A : Option Addr} {n c B : Nat} {rows : List (List Int)} (hG : Grid w B A n rows) (hB : B ≤ w.heap.size) (hlen : ∀ k, (rows.getD k []).length ≤ 100000) {rA : Option Addr} {rl rc : Nat} {rts : List Int} (hR : Rd w rA rl rts) (hrl : rl ≤ 1000000) :
    Calls Tryd.prog 47 #[.int .i64 p, .int .i64 r, .func (.func 69) #[] #[.pointer (some ⟨w.heap.size, 0, none⟩)], .slice rA rl rc] (w.alloc (.cells #[.slice A n c] 59)) fun e w' => ∃ b g M ρ : Nat, e = .returned (.tuple #[.pointer (some ⟨b, 0, none⟩), .int .i64 ρ]) ∧ w.heap.size ≤ b ∧ w.heap.size ≤ g ∧ BM w' b g (plc p) M ∧ IsR (plc p) (fun k => rows.getD k []) rts M ∧ Below w.heap.size w w' ∧ (ρ = 0 ∨ (if r < 1 then 1 else r) < (popM (plc p) M : Int)) := by
  have hb := (Below.refl w.heap.size w).alloc (Nat.le_refl _) (.cells #[.slice A n c] 59)
  refine (reach_any (w := w.alloc (.cells #[.slice A n c] 59)) (base := w.heap.size + 1) p r (by_edges (plc_le p) hlen) (hT.up hb) (by simp) (inv_by (c := c) hG hB) (hR.up hb) hrl).mono ?_
  rintro e w' ⟨b, g, M, ρ, he, h1, h2, hM, hI, _, hF, hρ⟩
  refine ⟨b, g, M, ρ, he, by omega, by omega, hM, hI, ⟨hF.os, hF.tape, hF.output, ?_, fun j hj => ?_⟩, hρ⟩
  · have := hF.size; simp at this; omega
  · exact (hF.block j (by omega) (fun e => by cases e)).trans (hb.block j hj)
end Go.Proofs.YtdfpmgpdkajhkaaDoor
