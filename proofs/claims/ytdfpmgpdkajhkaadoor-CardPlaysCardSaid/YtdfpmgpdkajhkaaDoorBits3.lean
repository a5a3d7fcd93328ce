/-
  Contracts of package bits: Wipe, New. Premises in each theorem.
-/
import Derived.Test.YtdfpmgpdkajhkaaDoorBits2
namespace Go.Proofs.YtdfpmgpdkajhkaaDoor
open Go.RowKit
theorem only_set0 {w : World} {g i : Nat} (v : Value) : w.grownBy (w.setCell ⟨g, i, none⟩ v) (some g) :=
  ⟨rfl, rfl, rfl, by simp [World.setCell], fun k _ hne => Below.heap_setCell w _ _ k (fun e => hne (by rw [e]))⟩
theorem sets_blk {g : Nat} {t : TypeId} : ∀ (vs : List Value) (o : Nat) (w : World) (cs : Array Value), Blk w g cs t → ∃ cs', Blk (w.setCells g o vs) g cs' t ∧ cs'.size = cs.size ∧ (∀ i, cs'[i]? = if o ≤ i ∧ i < o + vs.length ∧ i < cs.size then vs[i - o]? else cs[i]?) ∧ w.grownBy (w.setCells g o vs) (some g)
  | [], o, w, cs, h => ⟨cs, h, rfl, fun i => by rw [if_neg]; simp; omega, only_refl _ _⟩
  | v :: vs, o, w, cs, h => by
    obtain ⟨cs', h1, h2, h3, h4⟩ := sets_blk vs (o + 1) (w.setCell ⟨g, o, none⟩ v) _ (h.set v)
    refine ⟨cs', h1, by simpa using h2, fun i => ?_, only_trans (only_set0 (i := o) v) h4⟩
    rw [h3 i, Array.getElem?_setIfInBounds]
    simp only [Array.size_setIfInBounds, List.length_cons]
    by_cases e : o = i
    · subst e
      have e1 : ¬ (o + 1 ≤ o) := by omega
      by_cases hs : o < cs.size
      · simp [hs, e1]
      · simp [hs]
    · by_cases hi : o + 1 ≤ i ∧ i < o + 1 + vs.length ∧ i < cs.size
      · rw [if_pos hi, if_pos (by omega)]
        obtain ⟨j, rfl⟩ : ∃ j, i = o + 1 + j := ⟨i - (o + 1), by omega⟩
        have e1 : o + 1 + j - (o + 1) = j := by omega
        have e2 : o + 1 + j - o = j + 1 := by omega
        rw [e1, e2]; rfl
      · have hq : ¬ (o ≤ i ∧ i < o + (vs.length + 1) ∧ i < cs.size) := by omega
        rw [if_neg hi, if_neg hq, if_neg e]
theorem wordCells_zero (L : Nat) : wordCells L 0 = Array.replicate L (.int .u64 0) := by
  apply Array.ext
  · simp [wordCells_size]
  · intro i h1 h2
    simp [wordCells, wd_zero]
set_option maxHeartbeats 400000 in
theorem wipe_nil (w : World) : Calls Tryd.prog 44 #[.pointer none] w fun e w' => e = .returned (.tuple #[]) ∧ w = w' := by
  go_enter Tryd.func44, Tryd.ntmps44
  go_wp2
  go_end0
  exact ⟨rfl, rfl⟩
theorem zeroU64 (w : World) : (zeroValue 87).run Tryd.prog w = .ok (.int .u64 0) w := by kernel_rfl
set_option maxHeartbeats 400000 in
/-- Wipe of the zero map. -/
theorem wipe_zero {w : World} {b : Nat} (c0 : w.cell? ⟨b, 0, none⟩ = some (.slice none 0 0)) : Calls Tryd.prog 44 #[.pointer (some ⟨b, 0, none⟩)] w fun e w' => e = .returned (.tuple #[]) ∧ w = w' := by
  have hk : ∀ W : World, (Builtin.clear_ #[53] 0 #[.slice none 0 0]).run Tryd.prog W = .ok (.tuple #[]) W := fun _ => by kernel_rfl
  go_enter Tryd.func44, Tryd.ntmps44
  go_wp2
  go_end0
  exact ⟨rfl, rfl⟩
theorem wipe_run (w : World) {g L : Nat} {M : Nat} (h : Blk w g (wordCells L M) 87) (hL : 0 < L) : (Builtin.clear_ #[53] 0 #[.slice (some ⟨g, 0, none⟩) L L]).run Tryd.prog w = .ok (.tuple #[]) (w.setCells g 0 (List.replicate L (.int .u64 0))) :=
  Lib.run_clear_slice w 53 87 0 (.int .u64 0) Tryd.underlying53 zeroU64 rfl rfl g 0 L L hL (fun j hj => by rw [Nat.zero_add, h.cell (wordCells_at hj)]; rfl) (fun j _ => h.free _)
theorem wipe_run0 (w : World) {g : Nat} : (Builtin.clear_ #[53] 0 #[.slice (some ⟨g, 0, none⟩) 0 0]).run Tryd.prog w = .ok (.tuple #[]) w := by
  simp [Builtin.clear_, run_underlying Tryd.underlying53]
set_option maxHeartbeats 400000 in
theorem wipe_pos {w : World} {b g n M : Nat} (h : BM w b g n M) (hn : 0 < n) : Calls Tryd.prog 44 #[.pointer (some ⟨b, 0, none⟩)] w fun e w' => e = .returned (.tuple #[]) ∧ w' = w.setCells g 0 (List.replicate ((n + 63) / 64) (.int .u64 0)) := by
  have hk := wipe_run w h.ws (by omega)
  have c0 := h.cell0
  clear h
  obtain ⟨L, hL'⟩ : ∃ L, L = (n + 63) / 64 := ⟨_, rfl⟩
  rw [← hL'] at c0 hk ⊢
  clear hL'
  go_enter Tryd.func44, Tryd.ntmps44
  go_wp2
  go_end0
  exact ⟨rfl, rfl⟩
set_option maxHeartbeats 400000 in
theorem wipe_none {w : World} {b g : Nat} (c0 : w.cell? ⟨b, 0, none⟩ = some (.slice (some ⟨g, 0, none⟩) 0 0)) : Calls Tryd.prog 44 #[.pointer (some ⟨b, 0, none⟩)] w fun e w' => e = .returned (.tuple #[]) ∧ w = w' := by
  have hk := @wipe_run0 w g
  go_enter Tryd.func44, Tryd.ntmps44
  go_wp2
  go_end0
  exact ⟨rfl, rfl⟩
/-- Wipe. -/
theorem wipe_any {w : World} {b g n M : Nat} (h : BM w b g n M) : Calls Tryd.prog 44 #[.pointer (some ⟨b, 0, none⟩)] w fun e w' => e = .returned (.tuple #[]) ∧ BM w' b g n 0 ∧ w.grownBy w' (some g) := by
  have hp : 0 < 2 ^ n := Nat.pow_pos (by decide)
  by_cases hn : 0 < n
  · refine (wipe_pos h hn).mono ?_
    rintro e w' ⟨rfl, rfl⟩
    obtain ⟨cs', h1, h2, h3, h4⟩ := sets_blk (List.replicate ((n + 63) / 64) (.int .u64 0)) 0 w _ h.ws
    refine ⟨rfl, ⟨h.hd.grown h4 (fun e => h.ne (by injection e)), ?_, h.le, hp, h.tab.grown h4 (fun e => by injection e with e; have := h.g0; omega), h.b0, h.g0⟩, h4⟩
    have e : cs' = wordCells ((n + 63) / 64) 0 := by
      rw [wordCells_zero]
      rw [wordCells_size] at h2 h3
      apply Array.ext
      · simpa using h2
      · intro i i1 i2
        have := h3 i
        have hi : 0 ≤ i ∧ i < 0 + (List.replicate ((n + 63) / 64) (Value.int .u64 0)).length ∧ i < (n + 63) / 64 := by simp; omega
        rw [if_pos hi, Array.getElem?_eq_getElem i1] at this
        rw [List.getElem?_replicate, if_pos (by omega)] at this
        injection this with this
        rw [this]; simp
    rw [e] at h1
    exact h1
  · have hz : n = 0 := by omega
    subst hz
    have hM : M = 0 := by have := h.lt; simp at this; exact this
    subst hM
    refine (wipe_none (b := b) (g := g) h.cell0).mono ?_
    rintro e w' ⟨rfl, rfl⟩
    exact ⟨rfl, h, only_refl _ _⟩
/-- How many places New makes. -/
def plc (x : Int) : Nat := (if 4096 < x then 4096 else x).toNat
theorem plc_le (x : Int) : plc x ≤ 4096 := by unfold plc; split <;> omega
theorem plc_eq (x : Int) : (if 0 < (if 4096 < x then 4096 else x) then (if 4096 < x then 4096 else x) else 0) = (plc x : Int) := by
  unfold plc
  by_cases h : 4096 < x
  · simp [h]
  · simp only [if_neg h]
    split <;> omega
theorem info87 : (Tryd.prog.info? 87).map (fun i => (i.zero, i.size, i.bytes)) = some (some (.int .u64 0), 1, 8) := by kernel_rfl
theorem make_words (w : World) (L : Nat) (hL : L ≤ 64) : (Instr.makeSlice 53 (.int .i64 (L : Int)) (.int .i64 (L : Int))).run Tryd.prog w = .ok (.slice (some ⟨w.heap.size, 0, none⟩) L L) (w.alloc (.cells (wordCells L 0) 87)) := by
  obtain ⟨i, hi, h0, h1, h2⟩ := info_parts info87
  have h := run_make (P := Tryd.prog) w 53 87 i (.int .u64 0) Tryd.underlying53 hi h0 .i64 .i64 (L : Int) (L : Int) (by omega) (by omega) (by rw [h2]; omega) (by omega)
  rw [h, h1]
  have e : madeCells (Value.int .u64 0).cells ((L : Int).toNat * 1) = wordCells L 0 := by
    rw [wordCells_zero]
    apply Array.toList_inj.1
    simp [Value.cells, toList_madeCells_one]
  rw [e]
  rfl
set_option maxHeartbeats 400000 in
theorem new_w (w : World) (x : Int) : Calls Tryd.prog 31 #[.int .i64 x] w fun e w' => e = .returned (.pointer (some ⟨w.heap.size + 1, 0, none⟩)) ∧
    w' = (w.alloc (.cells (wordCells ((plc x + 63) / 64) 0) 87)).alloc (.cells #[.slice (some ⟨w.heap.size, 0, none⟩) ((plc x + 63) / 64) ((plc x + 63) / 64), .int .i64 (plc x)] 55) := by
  have hq := plc_eq x
  have hle := plc_le x
  have hmk := fun W => make_words W ((plc x + 63) / 64) (by omega)
  obtain ⟨n, hn⟩ : ∃ n, n = plc x := ⟨_, rfl⟩
  rw [← hn] at hq hle hmk ⊢
  clear hn
  have hL : ((n : Int) + 64 - 1) / 64 = (((n + 63) / 64 : Nat) : Int) := by omega
  obtain ⟨L, hL'⟩ : ∃ L, L = (n + 63) / 64 := ⟨_, rfl⟩
  rw [← hL'] at hL hmk ⊢
  clear hL'
  go_enter Tryd.func31, Tryd.ntmps31
  go_wp2
  all_goals
    go_ret
    exact ⟨rfl, rfl⟩
theorem new_any {w : World} (hT : Tab w) (x : Int) : Calls Tryd.prog 31 #[.int .i64 x] w fun e w' => ∃ b g, e = .returned (.pointer (some ⟨b, 0, none⟩)) ∧ w.heap.size ≤ b ∧ w.heap.size ≤ g ∧ BM w' b g (plc x) 0 ∧ Below w.heap.size w w' := by
  refine (new_w w x).mono ?_
  rintro e w' ⟨rfl, rfl⟩
  have hT2 := (hT.alloc (.cells (wordCells ((plc x + 63) / 64) 0) 87)).alloc (.cells #[.slice (some ⟨w.heap.size, 0, none⟩) ((plc x + 63) / 64) ((plc x + 63) / 64), .int .i64 (plc x)] 55)
  refine ⟨w.heap.size + 1, w.heap.size, rfl, by omega, by omega, ⟨Blk.new' (by simp) _ _, (Blk.new w _ _).alloc _, plc_le x, Nat.pow_pos (by decide), hT2, by omega, hT.2⟩, ((Below.refl _ _).alloc (Nat.le_refl _) _).alloc (by simp) _⟩
end Go.Proofs.YtdfpmgpdkajhkaaDoor
