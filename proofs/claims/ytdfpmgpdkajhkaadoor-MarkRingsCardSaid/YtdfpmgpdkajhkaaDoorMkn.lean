/-
  The law MarkRings' function of edges: rings of n places; what is reached in rings. Premises in each theorem.
-/
import Derived.Test.YtdfpmgpdkajhkaaDoorMkh
import Derived.RegionTactic
import Derived.ChangeAlike
import Derived.IntWalk
namespace Go.Proofs.YtdfpmgpdkajhkaaDoor
open Go.RowKit
def rgE (n k : Nat) : List Int := [((k / n * n + (k % n + 1) % n : Nat) : Int), ((k / n * n : Nat) : Int)]
set_option maxRecDepth 100000 in
set_option maxHeartbeats 2000000 in
theorem ring1_any {w : World} {eb B Q n : Nat} (hn1 : 1 ≤ n) (hn2 : n ≤ 12) (h : Cap eb B (.int .i64 n) Q w) (k : Nat) (hk : k ≤ 1000000) :
    Calls Tryd.prog 57 #[.int .i64 (k : Nat), .pointer (some ⟨eb, 0, none⟩)] w fun e w' => ∃ (A : Option Addr) (d c : Nat), e = .returned (.slice A d c) ∧ RdE w w' B A d (rgE n k) ∧ w.grownBy w' none := by
  obtain ⟨h1, _⟩ := h
  obtain ⟨q, hq⟩ : ∃ q, k / n = q := ⟨_, rfl⟩
  obtain ⟨r, hr⟩ : ∃ r, k % n = r := ⟨_, rfl⟩
  obtain ⟨t, ht⟩ : ∃ t, (r + 1) % n = t := ⟨_, rfl⟩
  obtain ⟨z, hz⟩ : ∃ z, q * n = z := ⟨_, rfl⟩
  have b1 : q ≤ k := by rw [← hq]; exact Nat.div_le_self _ _
  have b2 : r < n := by rw [← hr]; exact Nat.mod_lt _ hn1
  have b3 : t < n := by rw [← ht]; exact Nat.mod_lt _ hn1
  have b4 : z ≤ k := by rw [← hz, ← hq]; exact Nat.div_mul_le_self _ _
  have HX : Hid (rgE n k = [((z + t : Nat) : Int), (z : Int)]) := Lib.hid (by unfold rgE; rw [hq, hr, ht, hz])
  have e1 : (k : Int) / (n : Int) = (q : Int) := by rw [← hq]; simp
  have e2 : (k : Int) % (n : Int) = (r : Int) := by rw [← hr]; simp
  have e3 : ((r : Int) + 1) % (n : Int) = (t : Int) := by rw [← ht]; simp
  have e4 : (q : Int) * (n : Int) = (z : Int) := by rw [← hz]; simp
  have n0 : ((n : Int) == 0) = false := by simp; omega
  clear hq hr ht hz
  go_enter Tryd.func57, Tryd.ntmps57
  go_wp2
  go_region
  go_wp2
  go_ret
  rw [HX.out]
  have hb := (Blk.new w #[.int .i64 ((z : Int) + (t : Int)), .int .i64 (z : Int)] 3).drew
  have hg := ((Below.refl w.heap.size w).alloc (Nat.le_refl _) (.cells #[.int .i64 ((z : Int) + (t : Int)), .int .i64 (z : Int)] 3)).drew
  refine ⟨_, _, _, rfl, ⟨rfl, fun _ => ⟨_, _, rfl, .inr (Nat.le_refl _), hb.lt, fun i hi => ?_⟩⟩, hg.os, hg.tape, hg.output, hg.size, fun j hj _ => hg.block j hj⟩
  rcases i with _ | _ | i
  · rw [show ([((z + t : Nat) : Int), (z : Int)].getD 0 0) = (z : Int) + (t : Int) by simp]
    exact hb.cell (i := 0 + 0) rfl
  · exact hb.cell (i := 0 + 1) rfl
  · omega
theorem ring_edges {eb B N n : Nat} (hn1 : 1 ≤ n) (hn2 : n ≤ 12) (hN : N ≤ 4096) : Edges 57 #[.pointer (some ⟨eb, 0, none⟩)] (rgE n) N B none (Cap eb B (.int .i64 n)) where
  en := fun args w => enters_of Tryd.func57 (by kernel_rfl) rfl args w
  call := fun w Q k hk hB h => (ring1_any hn1 hn2 h k (by omega)).mono fun e w' ⟨A, d, c, he, hr, hg⟩ =>
    ⟨A, d, c, he, hr, hg, h.below ⟨hg.os, hg.tape, hg.output, hg.size, fun j hj => hg.block j (by omega) (fun e => by cases e)⟩⟩
  keep := fun Q w w' h hb => h.below hb
  row := fun r e => by cases e
  len := fun k => by simp [rgE]
/-- From the start of its ring all places of a ring are reached. -/
theorem ring_from {n m r : Nat} {rts : List Int} (hn : 1 ≤ n) (hr : r < m) (h : Rch (n * m) (rgE n) rts (r * n)) : ∀ j, j < n → Rch (n * m) (rgE n) rts (r * n + j) := by
  have hle : r * n + n ≤ n * m := by
    have := Nat.mul_le_mul_left n (show r + 1 ≤ m from hr)
    rw [Nat.mul_add, Nat.mul_one, Nat.mul_comm n r] at this
    exact this
  intro j
  induction j with
  | zero => intro _; exact h
  | succ j ih =>
    intro hj
    have h1 := ih (by omega)
    have e1 : (r * n + j) / n = r := by rw [Nat.mul_comm, Nat.mul_add_div (by omega), Nat.div_eq_of_lt (by omega)]; rfl
    have e2 : (r * n + j) % n = j := by rw [Nat.mul_comm, Nat.mul_add_mod, Nat.mod_eq_of_lt (by omega)]
    have hm : ((r * n + (j + 1) : Nat) : Int) ∈ rgE n (r * n + j) := by
      unfold rgE
      rw [e1, e2, Nat.mod_eq_of_lt (show j + 1 < n from hj)]
      exact List.mem_cons_self
    have := rch_step h1 hm (by omega) (by omega)
    rwa [Int.toNat_natCast] at this
theorem ring_rch {n m : Nat} {rts : List Int} (hn : 1 ≤ n) (i : Nat) (hi : i < n * m) : Rch (n * m) (rgE n) rts i ↔ ∃ y : Nat, (y : Int) ∈ rts ∧ y < n * m ∧ y / n = i / n := by
  constructor
  · intro h
    refine h (fun i => ∃ y : Nat, (y : Int) ∈ rts ∧ y < n * m ∧ y / n = i / n) (fun y hy h0 hm => ⟨y.toNat, by rwa [Int.toNat_of_nonneg h0], by omega, rfl⟩) (fun i ⟨y, h1, h2, h3⟩ z hz h0 hm => ⟨y, h1, h2, ?_⟩)
    rw [h3]
    have hmod : (i % n + 1) % n < n := Nat.mod_lt _ hn
    simp only [rgE, List.mem_cons, List.not_mem_nil, or_false] at hz
    rcases hz with rfl | rfl
    · rw [Int.toNat_natCast, Nat.mul_comm, Nat.mul_add_div (by omega), Nat.div_eq_of_lt hmod]; rfl
    · rw [Int.toNat_natCast, Nat.mul_div_cancel _ (by omega)]
  · rintro ⟨y, h1, h2, h3⟩
    have hr : i / n < m := Nat.div_lt_of_lt_mul hi
    have hy := rch_root (n := n * m) (E := rgE n) h1 (by omega) (by omega)
    rw [Int.toNat_natCast] at hy
    have hm : ((y / n * n : Nat) : Int) ∈ rgE n y := by unfold rgE; simp
    have hz : y / n * n ≤ y := Nat.div_mul_le_self _ _
    have h0 := rch_step hy hm (by omega) (by omega)
    rw [Int.toNat_natCast, h3] at h0
    have := ring_from hn hr h0 (i % n) (Nat.mod_lt _ hn)
    rwa [Nat.div_add_mod'] at this
end Go.Proofs.YtdfpmgpdkajhkaaDoor
