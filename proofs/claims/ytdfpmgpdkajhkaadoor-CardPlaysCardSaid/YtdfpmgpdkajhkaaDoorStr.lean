/-
  What a walk is told of an argument that is a slice of structs of ints: 'IsStr', and that the form's reading gives it. Premises in each theorem.
-/
import Derived.Test.YtdfpmgpdkajhkaaDoorArg
import Derived.Deep.Slices
import Derived.Deep.Fields
import Derived.ChangeSame
import Derived.ProofKit
namespace Go.Proofs.YtdfpmgpdkajhkaaDoor
open Go.RowKit Go.ChangeShapes Go.WideShapes Go.Deep
/-- A slice of structs of k ints that came in: where it has an element, its cells. -/
def IsStr (k : Nat) (w : World) (a : Option Addr) (len : Nat) (f : Nat → Nat → Int) : Prop :=
  0 < len → ∃ b off, a = some ⟨b, off, none⟩ ∧ b < w.heap.size ∧ ∀ i j, i < len → j < k → w.cell? ⟨b, off + (i * k + j), none⟩ = some (.int .i64 (f i j)) ∧ (Lit.int .i64 (f i j)).wf = true
def numOf : Option Value → Int | some (.int _ n) => n | _ => 0
theorem isStr_of_trod {H : Type} {enc : TypeId × Value → H} {P : Program} {w : World} {base : Nat} {spare : Nat → Bool} {held : Bool} {t e : TypeId} {fs : Array Field} {k : Nat} {a : Option Addr} {len cap : Nat} {d : DataW H} {p : List MemPlace}
    (ht : P.underlying t = some (.slice e)) (he : P.underlying e = some (.struct fs)) (hone : oneCellFields P fs = true) (hC : P.cellsOf e = k) (hsz : fs.size = k) (hk0 : 0 < k)
    (hall : (fs.all fun f => f.type == 3) = true) (hu : P.underlying 3 = some (.int .i64)) (h : DataW.Trod enc P w base spare held t (.slice a len cap) d p) : ∃ f, IsStr k w a len f := by
  have hty : ∀ (j : Nat) (f : Field), fs[j]? = some f → f.type = 3 := fun j f hj => by simpa using Array.all_eq_true_iff_forall_mem.1 hall f (Array.mem_of_getElem? hj)
  obtain ⟨fuel, hf⟩ := h
  rcases open_slice ht hf with ⟨hcs, _⟩ | ⟨x, l, c, m, n, D, Pl, hcs, _, hl, _, hmm, _, hi⟩
  · simp [Value.cells] at hcs
    exact ⟨fun _ _ => 0, fun hp => by omega⟩
  · simp [Value.cells] at hcs
    obtain ⟨rfl, rfl, rfl⟩ := hcs
    have hlm : len ≤ m := by rw [hmm]; split <;> omega
    have key : ∀ i j, i < len → j < k → ∃ v, w.cell? (x.add (i * k + j)) = some (.int .i64 v) ∧ (Lit.int .i64 v).wf = true := by
      intro i j hil hjk
      obtain ⟨cs, hc, hr⟩ := hi i (by omega)
      rw [hC] at hc
      obtain ⟨ys, n', _, _, _, hyl, hfl⟩ := DataW.trod_struct he hr
      obtain ⟨_, hcl, hat⟩ := World.cells?_some hc
      have hjf : fs[j]? = some (fs[j]'(by omega)) := Array.getElem?_eq_getElem (by omega)
      obtain ⟨ho, hkk⟩ := hone_of hone j _ hjf
      have hcell := hat j (by omega)
      have h1 := hfl j _ hjf
      rw [ho, hkk, hty j _ hjf] at h1
      have hjl : j < cs.length := by omega
      have hone' : (cs.drop j).take 1 = [cs[j]] := by
        rw [List.drop_eq_getElem_cons hjl]; rfl
      rw [hone'] at h1
      have hjy : j < ys.length := by omega
      rw [List.getElem?_eq_getElem hjy] at h1
      obtain ⟨v, e1, _, e3⟩ := DataW.trod_int hu h1
      refine ⟨v, ?_, e3⟩
      rw [← Go.Deep.add_add, hcell, List.getElem?_eq_getElem hjl]
      rw [(List.cons.inj e1).1]
    refine ⟨fun i j => numOf (w.cell? (x.add (i * k + j))), fun hp => ?_⟩
    obtain ⟨b, off, spot⟩ := x
    obtain ⟨v0, h0, _⟩ := key 0 0 hp hk0
    have hspot : spot = none := by simpa [Addr.add] using World.cell?_spot h0
    subst hspot
    refine ⟨b, off, rfl, World.block_lt_of_cell? w _ (by simpa [Addr.add] using h0), fun i j hil hjk => ?_⟩
    obtain ⟨v, h1, h2⟩ := key i j hil hjk
    have ea : Addr.add ⟨b, off, none⟩ (i * k + j) = ⟨b, off + (i * k + j), none⟩ := by
      unfold Addr.add
      split
      · next e0 => rw [e0]; rfl
      · rfl
    dsimp only
    rw [h1]
    rw [ea] at h1
    exact ⟨h1, h2⟩
end Go.Proofs.YtdfpmgpdkajhkaaDoor
