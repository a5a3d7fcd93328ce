/-
  Contracts of package bits' functions that write: Set, Clear, Wipe, and New, and of those that read, over the predicate BM: a map of n places lies in the blocks b and g and holds the bits of M. Premises in each theorem.
-/
import Derived.Test.YtdfpmgpdkajhkaaDoorBits1
import Derived.Test.YtdfpmgpdkajhkaaDoorNb
import Derived.Shelf.Spec.TrailingZeros
import Derived.Lib.SliceRun
import Derived.Laws.OwnMore
namespace Go.Proofs.YtdfpmgpdkajhkaaDoor
open Go.RowKit
/-- The library's table lies in its variable. -/
def Tab (w : World) : Prop := TabAt 0 Lib.deBruijn64tab w ∧ 0 < w.heap.size
def wordCells (L M : Nat) : Array Value := Array.ofFn (n := L) fun i => .int .u64 (wd M i)
theorem wordCells_at {L M i : Nat} (h : i < L) : (wordCells L M)[i]? = some (.int .u64 (wd M i)) := by
  unfold wordCells
  simp [h]
theorem wordCells_size (L M : Nat) : (wordCells L M).size = L := by unfold wordCells; simp
theorem wordCells_set {L M M' k : Nat} (h : ∀ i, i ≠ k → wd M' i = wd M i) : (wordCells L M).setIfInBounds k (.int .u64 (wd M' k)) = wordCells L M' := by
  apply Array.ext
  · simp [wordCells_size]
  · intro i h1 h2
    have h3 : i < (wordCells L M).size := by rw [wordCells_size] at h2 ⊢; exact h2
    rw [Array.getElem_setIfInBounds h3]
    by_cases e : k = i
    · subst e; simp [wordCells]
    · simp [wordCells, e, h i (Ne.symm e)]
/-- A map of n places in block b, its words in block g: the bits of M. -/
structure BM (w : World) (b g n M : Nat) : Prop where
  hd : Blk w b #[.slice (some ⟨g, 0, none⟩) ((n + 63) / 64) ((n + 63) / 64), .int .i64 n] 55
  ws : Blk w g (wordCells ((n + 63) / 64) M) 87
  le : n ≤ 4096
  lt : M < 2 ^ n
  tab : Tab w
  b0 : 0 < b
  g0 : 0 < g
theorem Blk.ne_ {w : World} {g g' : Nat} {cs cs' : Array Value} {t t' : TypeId} (h : Blk w g cs t) (h' : Blk w g' cs' t') (hne : t ≠ t') : g ≠ g' := by
  rintro rfl
  unfold Blk at h h'
  rw [h] at h'
  injection h' with h'
  injection h' with _ ht
  exact hne ht
theorem Blk.grown {w w' : World} {g : Nat} {cs : Array Value} {t : TypeId} {row : Option Nat} (h : Blk w g cs t) (hb : w.grownBy w' row) (hg : some g ≠ row) : Blk w' g cs t := (hb.block g h.lt hg).trans h
theorem Tab.grown {w w' : World} {row : Option Nat} (h : Tab w) (hb : w.grownBy w' row) (hg : some 0 ≠ row) : Tab w' :=
  ⟨fun j hj => hb.cell (h.1 j hj) hg, Nat.lt_of_lt_of_le h.2 hb.size⟩
theorem Tab.below {w w' : World} {B : Nat} (h : Tab w) (hb : Below B w w') (hB : 0 < B) : Tab w' :=
  ⟨fun j hj => (hb.cell (p := ⟨0, j, none⟩) hB).trans (h.1 j hj), Nat.lt_of_lt_of_le h.2 hb.size⟩
theorem Tab.alloc {w : World} (h : Tab w) (o : Obj) : Tab (w.alloc o) := h.below ((Below.refl w.heap.size w).alloc (Nat.le_refl _) o) h.2
theorem BM.grown {w w' : World} {b g n M : Nat} {row : Option Nat} (h : BM w b g n M) (hb : w.grownBy w' row) (h0 : some 0 ≠ row) (h1 : some b ≠ row) (h2 : some g ≠ row) : BM w' b g n M :=
  ⟨h.hd.grown hb h1, h.ws.grown hb h2, h.le, h.lt, h.tab.grown hb h0, h.b0, h.g0⟩
theorem BM.below {w w' : World} {b g n M B : Nat} (h : BM w b g n M) (hb : Below B w w') (h1 : b < B) (h2 : g < B) : BM w' b g n M :=
  ⟨h.hd.below hb h1, h.ws.below hb h2, h.le, h.lt, h.tab.below hb (by omega), h.b0, h.g0⟩
theorem BM.up {w w' : World} {b g n M : Nat} (h : BM w b g n M) (hb : Below w.heap.size w w') : BM w' b g n M := h.below hb h.hd.lt h.ws.lt
theorem BM.alloc {w : World} {b g n M : Nat} (h : BM w b g n M) (o : Obj) : BM (w.alloc o) b g n M := h.up ((Below.refl w.heap.size w).alloc (Nat.le_refl _) o)
theorem BM.drew {w : World} {b g n M : Nat} (h : BM w b g n M) : BM w.drew b g n M := h.up ((Below.refl w.heap.size w).drew)
theorem BM.ne {w : World} {b g n M : Nat} (h : BM w b g n M) : b ≠ g := h.hd.ne_ h.ws (by decide)
theorem BM.cell0 {w : World} {b g n M : Nat} (h : BM w b g n M) : w.cell? ⟨b, 0, none⟩ = some (.slice (some ⟨g, 0, none⟩) ((n + 63) / 64) ((n + 63) / 64)) := h.hd.cell rfl
theorem BM.cell1 {w : World} {b g n M : Nat} (h : BM w b g n M) : w.cell? ⟨b, 1, none⟩ = some (.int .i64 n) := h.hd.cell rfl
theorem BM.word {w : World} {b g n M i : Nat} (h : BM w b g n M) (hi : i < (n + 63) / 64) : w.cell? ⟨g, i, none⟩ = some (.int .u64 (wd M i)) := h.ws.cell (wordCells_at hi)
theorem len_any {w : World} {b g n M : Nat} (h : BM w b g n M) : Calls Tryd.prog 37 #[.pointer (some ⟨b, 0, none⟩)] w fun e w' => e = .returned (.int .i64 n) ∧ w = w' := len_at w b n h.cell1
theorem has_any {w : World} {b g n M : Nat} (h : BM w b g n M) (x : Int) : Calls Tryd.prog 34 #[.pointer (some ⟨b, 0, none⟩), .int .i64 x] w fun e w' => e = .returned (.bool (hasB M x)) ∧ w = w' := by
  by_cases hx : 0 ≤ x ∧ x < n
  · obtain ⟨k, rfl⟩ : ∃ k : Nat, x = k := ⟨x.toNat, by omega⟩
    rw [hasB_nat, ← wd_bit]
    exact has_at w b g _ n k _ h.cell0 h.cell1 hx.2 (by have := h.le; omega) (by omega) (h.word (by omega)) (wd_lt _ _)
  · rw [hasB_out h.lt hx]
    exact has_no w b n x h.cell1 hx
theorem w64 (k : Nat) : IntKind.u64.wrap (2 ^ (k % 64)) = ((2 ^ (k % 64) : Nat) : Int) := by
  have hp : 2 ^ (k % 64) < 2 ^ 64 := Nat.pow_lt_pow_right (by decide) (Nat.mod_lt _ (by decide))
  have e : ((2 : Int) ^ (k % 64)) = ((2 ^ (k % 64) : Nat) : Int) := by simp
  rw [e, IntKind.wrap_u64]
  generalize 2 ^ (k % 64) = p at hp
  omega
theorem p64 (k : Nat) : 2 ^ (k % 64) < 18446744073709551616 := by
  have hp : 2 ^ (k % 64) < 2 ^ 64 := Nat.pow_lt_pow_right (by decide) (Nat.mod_lt _ (by decide))
  exact hp
theorem only_set {w : World} {g i : Nat} (v : Value) : w.grownBy ((w.setCell ⟨g, i, none⟩ v).drew) (some g) :=
  ⟨rfl, rfl, rfl, by simp [World.setCell], fun k _ hne => Below.heap_setCell w _ _ k (fun e => hne (by rw [e]))⟩
theorem only_refl (w : World) (row : Option Nat) : w.grownBy w row := ⟨rfl, rfl, rfl, Nat.le_refl _, fun _ _ _ => rfl⟩
theorem only_trans {a b c : World} {row : Option Nat} (h : a.grownBy b row) (k : b.grownBy c row) : a.grownBy c row :=
  ⟨k.os.trans h.os, k.tape.trans h.tape, k.output.trans h.output, Nat.le_trans h.size k.size, fun i hi hne => (k.block i (Nat.lt_of_lt_of_le hi h.size) hne).trans (h.block i hi hne)⟩
theorem below_only {B g : Nat} {a b c : World} (h : Below B a b) (k : b.grownBy c (some g)) (hB : B ≤ b.heap.size) (hg : B ≤ g) : Below B a c :=
  h.grown k hB (fun i e => by injection e with e; omega)
theorem BM.store {w : World} {b g n M M' k : Nat} (h : BM w b g n M) (hM : M' < 2 ^ n) (he : ∀ i, i ≠ k → wd M' i = wd M i) : BM (w.setCell ⟨g, k, none⟩ (.int .u64 (wd M' k))).drew b g n M' := by
  refine ⟨(h.hd.other _ _ h.ne).drew, ?_, h.le, hM, ?_, h.b0, h.g0⟩
  · have := (h.ws.set (i := k) (.int .u64 (wd M' k))).drew
    rw [wordCells_set he] at this
    exact this
  · exact h.tab.grown (only_set _) (fun e => by injection e with e; have := h.g0; omega)
set_option maxHeartbeats 400000 in
theorem set_no (w : World) (b : Nat) (n x : Int) (h : w.cell? ⟨b, 1, none⟩ = some (.int .i64 n)) (hx : ¬ (0 ≤ x ∧ x < n)) : Calls Tryd.prog 32 #[.pointer (some ⟨b, 0, none⟩), .int .i64 x] w fun e w' => e = .returned (.bool false) ∧ w = w' := by
  go_enter Tryd.func32, Tryd.ntmps32
  go_wp2_with (go_at_call 64; refine (there_at _ b n x h).mono ?_; rintro e w' ⟨rfl, rfl⟩; rw [decide_eq_false hx])
  go_ret
  exact ⟨rfl, rfl⟩
set_option maxHeartbeats 400000 in
theorem set_old {w : World} {b g n M : Nat} (h : BM w b g n M) (x : Int) (hx : 0 ≤ x ∧ x < n) (hb : hasB M x = true) : Calls Tryd.prog 32 #[.pointer (some ⟨b, 0, none⟩), .int .i64 x] w fun e w' => e = .returned (.bool false) ∧ w = w' := by
  have e : decide (0 ≤ x ∧ x < n) = true := decide_eq_true (by omega)
  have c1 := h.cell1
  have H := Lib.hid h
  have HB := Lib.hid hb
  clear h hb
  go_enter Tryd.func32, Tryd.ntmps32
  go_wp2_with (first | (go_at_call 64; refine (there_at _ b n x c1).mono ?_; rintro e w' ⟨rfl, rfl⟩; rw [e]) | (go_at_call 34; refine (has_any H.out x).mono ?_; rintro e w' ⟨rfl, rfl⟩; rw [HB.out]))
  go_ret
  exact ⟨rfl, rfl⟩
set_option maxHeartbeats 400000 in
theorem set_new {w : World} {b g n M : Nat} (h : BM w b g n M) (k : Nat) (hk : k < n) (hb : M.testBit k = false) :
    Calls Tryd.prog 32 #[.pointer (some ⟨b, 0, none⟩), .int .i64 (k : Nat)] w fun e w' => e = .returned (.bool true) ∧ w' = (w.setCell ⟨g, k / 64, none⟩ (.int .u64 (bits BinOp.or .u64 ((wd M (k / 64) : Nat) : Int) (IntKind.u64.wrap (2 ^ (k % 64)))))).drew := by
  have e : decide (0 ≤ (k : Int) ∧ (k : Int) < n) = true := decide_eq_true (by omega)
  have c1 := h.cell1
  have c0 := h.cell0
  have hu := h.word (i := k / 64) (by omega)
  have hf := h.ws.free (k / 64)
  have hle := h.le
  have H := Lib.hid h
  have HB := Lib.hid ((hasB_nat M k).trans hb)
  clear h hb
  obtain ⟨u, hu'⟩ : ∃ u, u = wd M (k / 64) := ⟨_, rfl⟩
  rw [← hu'] at hu ⊢
  clear hu'
  obtain ⟨L, hL'⟩ : ∃ L, L = (n + 63) / 64 := ⟨_, rfl⟩
  have hL : k / 64 < L := by omega
  rw [← hL'] at c0
  clear hL'
  go_enter Tryd.func32, Tryd.ntmps32
  go_wp2_with (first | (go_at_call 64; refine (there_at _ b n k c1).mono ?_; rintro e w' ⟨rfl, rfl⟩; rw [e]) | (go_at_call 34; refine (has_any H.out k).mono ?_; rintro e w' ⟨rfl, rfl⟩; rw [HB.out]))
  have ew : IntKind.i64.wrap ((k : Int) / 64) = (k : Int) / 64 := IntWalk.i64_in _ (by omega)
  have em : IntKind.i64.wrap ((k : Int) % 64) = (k : Int) % 64 := IntWalk.i64_in _ (by omega)
  have hi0 : (0 : Int) ≤ (k : Int) / 64 := by omega
  have hi1 : (k : Int) / 64 < (L : Int) := by omega
  have hi2 : ((k : Int) / 64).toNat = k / 64 := by omega
  have et : (k : Int).tmod 64 = (k : Int) % 64 := Int.tmod_eq_emod_of_nonneg (by omega)
  have he0 : (0 : Int) ≤ (k : Int) % 64 := by omega
  have he1 : ((k : Int) % 64).toNat = k % 64 := by omega
  refine wp_region_st 13 (by kernel_rfl) (by kernel_rfl) ?_
  simp only [List.take_succ_cons, List.take_zero, List.drop_succ_cons, List.drop_zero]
  repeat still_step
  with_reducible refine wpStill_nil ?_
  go_wp2
  go_ret
  exact ⟨rfl, rfl⟩
/-- Set, at every place. -/
theorem set_any {w : World} {b g n M : Nat} (h : BM w b g n M) (x : Int) :
    Calls Tryd.prog 32 #[.pointer (some ⟨b, 0, none⟩), .int .i64 x] w fun e w' => e = .returned (.bool (newB n M x)) ∧ BM w' b g n (setM n M x) ∧ w.grownBy w' (some g) := by
  by_cases hx : 0 ≤ x ∧ x < n
  · cases hb : hasB M x
    · have hN : newB n M x = true := by rw [newB_eq, hb]; simp [hx]
      obtain ⟨k, rfl⟩ : ∃ k : Nat, x = k := ⟨x.toNat, by omega⟩
      rw [hasB_nat] at hb
      refine (set_new h k (by omega) hb).mono ?_
      rintro e w' ⟨rfl, rfl⟩
      rw [hN, w64, u64_or_nat _ _ (wd_lt _ _) (p64 k), ← wd_sb_same]
      have hs : setM n M (k : Int) = sb M k := by unfold setM; rw [if_pos hx]; simp
      rw [hs]
      exact ⟨rfl, h.store (sb_lt h.lt (by omega)) (fun i hi => wd_sb_other M k i hi), only_set _⟩
    · have hN : newB n M x = false := by rw [newB_eq, hb]; simp
      refine (set_old h x hx hb).mono ?_
      rintro e w' ⟨rfl, rfl⟩
      rw [hN, setM_old hN]
      exact ⟨rfl, h, only_refl _ _⟩
  · have hN : newB n M x = false := by rw [newB_eq]; simp; omega
    refine (set_no w b n x h.cell1 hx).mono ?_
    rintro e w' ⟨rfl, rfl⟩
    rw [hN, setM_old hN]
    exact ⟨rfl, h, only_refl _ _⟩
set_option maxHeartbeats 400000 in
theorem clear_no {w : World} {b g n M : Nat} (h : BM w b g n M) (x : Int) (hb : hasB M x = false) : Calls Tryd.prog 38 #[.pointer (some ⟨b, 0, none⟩), .int .i64 x] w fun e w' => e = .returned (.bool false) ∧ w = w' := by
  have H := Lib.hid h
  have HB := Lib.hid hb
  clear h hb
  go_enter Tryd.func38, Tryd.ntmps38
  go_wp2_with (go_at_call 34; refine (has_any H.out x).mono ?_; rintro e w' ⟨rfl, rfl⟩; rw [HB.out])
  go_ret
  exact ⟨rfl, rfl⟩
set_option maxHeartbeats 400000 in
theorem clear_yes {w : World} {b g n M : Nat} (h : BM w b g n M) (k : Nat) (hk : k < n) (hb : M.testBit k = true) :
    Calls Tryd.prog 38 #[.pointer (some ⟨b, 0, none⟩), .int .i64 (k : Nat)] w fun e w' => e = .returned (.bool true) ∧ w' = (w.setCell ⟨g, k / 64, none⟩ (.int .u64 (bits BinOp.andNot .u64 ((wd M (k / 64) : Nat) : Int) (IntKind.u64.wrap (2 ^ (k % 64)))))).drew := by
  have c1 := h.cell1
  have c0 := h.cell0
  have hu := h.word (i := k / 64) (by omega)
  have hf := h.ws.free (k / 64)
  have hle := h.le
  have H := Lib.hid h
  have HB := Lib.hid ((hasB_nat M k).trans hb)
  clear h hb
  obtain ⟨u, hu'⟩ : ∃ u, u = wd M (k / 64) := ⟨_, rfl⟩
  rw [← hu'] at hu ⊢
  clear hu'
  obtain ⟨L, hL'⟩ : ∃ L, L = (n + 63) / 64 := ⟨_, rfl⟩
  have hL : k / 64 < L := by omega
  rw [← hL'] at c0
  clear hL'
  go_enter Tryd.func38, Tryd.ntmps38
  go_wp2_with (go_at_call 34; refine (has_any H.out k).mono ?_; rintro e w' ⟨rfl, rfl⟩; rw [HB.out])
  have ew : IntKind.i64.wrap ((k : Int) / 64) = (k : Int) / 64 := IntWalk.i64_in _ (by omega)
  have em : IntKind.i64.wrap ((k : Int) % 64) = (k : Int) % 64 := IntWalk.i64_in _ (by omega)
  have hi0 : (0 : Int) ≤ (k : Int) / 64 := by omega
  have hi1 : (k : Int) / 64 < (L : Int) := by omega
  have hi2 : ((k : Int) / 64).toNat = k / 64 := by omega
  have et : (k : Int).tmod 64 = (k : Int) % 64 := Int.tmod_eq_emod_of_nonneg (by omega)
  have he0 : (0 : Int) ≤ (k : Int) % 64 := by omega
  have he1 : ((k : Int) % 64).toNat = k % 64 := by omega
  refine wp_region_st 13 (by kernel_rfl) (by kernel_rfl) ?_
  simp only [List.take_succ_cons, List.take_zero, List.drop_succ_cons, List.drop_zero]
  repeat still_step
  with_reducible refine wpStill_nil ?_
  go_wp2
  go_ret
  exact ⟨rfl, rfl⟩
/-- Clear, at every place. -/
theorem clear_any {w : World} {b g n M : Nat} (h : BM w b g n M) (x : Int) :
    Calls Tryd.prog 38 #[.pointer (some ⟨b, 0, none⟩), .int .i64 x] w fun e w' => e = .returned (.bool (hasB M x)) ∧ BM w' b g n (clrM M x) ∧ w.grownBy w' (some g) := by
  cases hb : hasB M x
  · refine (clear_no h x hb).mono ?_
    rintro e w' ⟨rfl, rfl⟩
    rw [clrM_old hb]
    exact ⟨rfl, h, only_refl _ _⟩
  · have hx := hasB_lt h.lt hb
    obtain ⟨k, rfl⟩ : ∃ k : Nat, x = k := ⟨x.toNat, by omega⟩
    rw [hasB_nat] at hb
    refine (clear_yes h k (by omega) hb).mono ?_
    rintro e w' ⟨rfl, rfl⟩
    rw [w64, u64_andNot_nat _ _ (wd_lt _ _) (p64 k), ← wd_cb_same]
    have hs : clrM M (k : Int) = cb M k := by unfold clrM; rw [if_pos hx.1]; simp
    rw [hs]
    exact ⟨rfl, h.store (cb_lt h.lt) (fun i hi => wd_cb_other M k i hi), only_set _⟩
end Go.Proofs.YtdfpmgpdkajhkaaDoor
