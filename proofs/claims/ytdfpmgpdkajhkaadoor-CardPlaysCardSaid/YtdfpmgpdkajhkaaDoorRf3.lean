/-
  Contracts of the reference gleaningref03: New, Put, Has, Next, Between, over the predicate RM: a list of n bools in the blocks b and g holds the bits of M. Premises in each theorem.
-/
import Derived.Test.YtdfpmgpdkajhkaaDoorOw
import Derived.Test.YtdfpmgpdkajhkaaDoorBits3
import Derived.LoopTactic
namespace Go.Proofs.YtdfpmgpdkajhkaaDoor
open Go.RowKit
/-- A callee that leaves the world as it is, met in a region whose callees may make memory. -/
theorem calls_same {P : Program} {f : FuncId} {args : Array Value} {w : World} {u : BW w} {v : Value}
    (h : Calls P f args u.w fun e w' => e = .returned v ∧ u.w = w') : Calls P f args u.w fun e w'' => e = .returned v ∧ ∃ u' : BW w, w'' = u'.w :=
  h.mono fun _ _ hh => ⟨hh.1, u, hh.2.symm⟩
theorem cnt_no {P : Nat → Bool} {k d : Nat} (h : d = cnt P k) (hv : P k = false) : d = cnt P (k + 1) := by
  conv => rhs; unfold cnt
  rw [hv, ← h]; rfl
theorem cnt_yes {P : Nat → Bool} {k d : Nat} (h : d = cnt P k) (hv : P k = true) : d + 1 = cnt P (k + 1) := by
  conv => rhs; unfold cnt
  rw [hv, ← h]; rfl
def boolCells (n M : Nat) : Array Value := Array.ofFn (n := n) fun i => .bool (M.testBit i)
theorem boolCells_at {n M i : Nat} (h : i < n) : (boolCells n M)[i]? = some (.bool (M.testBit i)) := by
  unfold boolCells
  simp [h]
theorem boolCells_size (n M : Nat) : (boolCells n M).size = n := by unfold boolCells; simp
theorem boolCells_set {n M M' k : Nat} (h : ∀ i, i ≠ k → M'.testBit i = M.testBit i) : (boolCells n M).setIfInBounds k (.bool (M'.testBit k)) = boolCells n M' := by
  apply Array.ext
  · simp [boolCells_size]
  · intro i h1 h2
    have h3 : i < (boolCells n M).size := by rw [boolCells_size] at h2 ⊢; exact h2
    rw [Array.getElem_setIfInBounds h3]
    by_cases e : k = i
    · subst e; simp [boolCells]
    · simp [boolCells, e, h i (Ne.symm e)]
theorem boolCells_zero (n : Nat) : boolCells n 0 = Array.replicate n (.bool false) := by
  apply Array.ext
  · simp [boolCells_size]
  · intro i h1 h2
    simp [boolCells]
/-- The reference's map: n bools, the bits of M. -/
structure RM (w : World) (b g n M : Nat) : Prop where
  hd : Blk w b #[.slice (some ⟨g, 0, none⟩) n n] 47
  bs : Blk w g (boolCells n M) 4
  le : n ≤ 4096
  lt : M < 2 ^ n
theorem RM.grown {w w' : World} {b g n M : Nat} {row : Option Nat} (h : RM w b g n M) (hb : w.grownBy w' row) (h1 : some b ≠ row) (h2 : some g ≠ row) : RM w' b g n M :=
  ⟨h.hd.grown hb h1, h.bs.grown hb h2, h.le, h.lt⟩
theorem RM.up {w w' : World} {b g n M : Nat} (h : RM w b g n M) (hb : Below w.heap.size w w') : RM w' b g n M :=
  ⟨h.hd.below hb h.hd.lt, h.bs.below hb h.bs.lt, h.le, h.lt⟩
theorem RM.ne {w : World} {b g n M : Nat} (h : RM w b g n M) : b ≠ g := h.hd.ne_ h.bs (by decide)
theorem RM.words {w w' : World} {b g n M b' g' n' M' : Nat} (h : RM w b g n M) (h' : BM w b' g' n' M') (hb : w.grownBy w' (some g')) : RM w' b g n M :=
  h.grown hb (fun e => h.hd.ne_ h'.ws (by decide) (Option.some.inj e)) (fun e => h.bs.ne_ h'.ws (by decide) (Option.some.inj e))
theorem BM.bools {w w' : World} {b g n M b' g' n' M' : Nat} (h : BM w b g n M) (h' : RM w b' g' n' M') (hg : 0 < g') (hb : w.grownBy w' (some g')) : BM w' b g n M :=
  h.grown hb (fun e => by have := Option.some.inj e; omega) (fun e => h.hd.ne_ h'.bs (by decide) (Option.some.inj e)) (fun e => h.ws.ne_ h'.bs (by decide) (Option.some.inj e))
theorem RM.cell0 {w : World} {b g n M : Nat} (h : RM w b g n M) : w.cell? ⟨b, 0, none⟩ = some (.slice (some ⟨g, 0, none⟩) n n) := h.hd.cell rfl
theorem RM.bool {w : World} {b g n M i : Nat} (h : RM w b g n M) (hi : i < n) : w.cell? ⟨g, i, none⟩ = some (.bool (M.testBit i)) := h.bs.cell (boolCells_at hi)
theorem info4 : (Tryd.prog.info? 4).map (fun i => (i.zero, i.size, i.bytes)) = some (some (.bool false), 1, 1) := by kernel_rfl
theorem make_bools (w : World) (L : Nat) (hL : L ≤ 100000) : (Instr.makeSlice 45 (.int .i64 (L : Int)) (.int .i64 (L : Int))).run Tryd.prog w = .ok (.slice (some ⟨w.heap.size, 0, none⟩) L L) (w.alloc (.cells (boolCells L 0) 4)) := by
  obtain ⟨i, hi, h0, h1, h2⟩ := info_parts info4
  have h := run_make (P := Tryd.prog) w 45 4 i (.bool false) Tryd.underlying45 hi h0 .i64 .i64 (L : Int) (L : Int) (by omega) (by omega) (by rw [h2]; omega) (by omega)
  rw [h, h1]
  have e : madeCells (Value.bool false).cells ((L : Int).toNat * 1) = boolCells L 0 := by
    rw [boolCells_zero]
    apply Array.toList_inj.1
    simp [Value.cells, toList_madeCells_one]
  rw [e]
  rfl
set_option maxHeartbeats 400000 in
theorem rnew_w (w : World) (x : Int) : Calls Tryd.prog 39 #[.int .i64 x] w fun e w' => e = .returned (.pointer (some ⟨w.heap.size + 1, 0, none⟩)) ∧
    w' = (w.alloc (.cells (boolCells (plc x) 0) 4)).alloc (.cells #[.slice (some ⟨w.heap.size, 0, none⟩) (plc x) (plc x)] 47) := by
  have hq := plc_eq x
  have hle := plc_le x
  have hmk := fun W => make_bools W (plc x) (by omega)
  obtain ⟨n, hn⟩ : ∃ n, n = plc x := ⟨_, rfl⟩
  rw [← hn] at hq hle hmk ⊢
  clear hn
  go_enter Tryd.func39, Tryd.ntmps39
  go_wp2
  all_goals
    go_ret
    exact ⟨rfl, rfl⟩
theorem rnew_any (w : World) (x : Int) : Calls Tryd.prog 39 #[.int .i64 x] w fun e w' => ∃ b g, e = .returned (.pointer (some ⟨b, 0, none⟩)) ∧ w.heap.size ≤ b ∧ w.heap.size ≤ g ∧ RM w' b g (plc x) 0 ∧ Below w.heap.size w w' := by
  refine (rnew_w w x).mono ?_
  rintro e w' ⟨rfl, rfl⟩
  exact ⟨w.heap.size + 1, w.heap.size, rfl, by omega, by omega, ⟨Blk.new' (by simp) _ _, (Blk.new w _ _).alloc _, plc_le x, Nat.pow_pos (by decide)⟩, ((Below.refl _ _).alloc (Nat.le_refl _) _).alloc (by simp) _⟩
set_option maxHeartbeats 400000 in
theorem rhas_any {w : World} {b g n M : Nat} (h : RM w b g n M) (x : Int) : Calls Tryd.prog 41 #[.pointer (some ⟨b, 0, none⟩), .int .i64 x] w fun e w' => e = .returned (.bool (hasB M x)) ∧ w = w' := by
  have c0 := h.cell0
  have hle := h.le
  by_cases h0 : 0 ≤ x
  · have d0 : decide (x ≥ 0) = true := decide_eq_true h0
    by_cases h1 : x < n
    · obtain ⟨k, rfl⟩ : ∃ k : Nat, x = k := ⟨x.toNat, by omega⟩
      have d1 : decide ((k : Int) < (n : Int)) = true := decide_eq_true h1
      have hkn : k < n := by omega
      have hc := h.bool hkn
      rw [← hasB_nat] at hc
      obtain ⟨v, hv⟩ : ∃ v, v = hasB M (k : Int) := ⟨_, rfl⟩
      rw [← hv] at hc ⊢
      clear hv h h1
      go_enter Tryd.func41, Tryd.ntmps41
      go_wp2
      go_ret
      exact ⟨rfl, rfl⟩
    · rw [hasB_out h.lt (by omega)]
      have d1 : decide (x < (n : Int)) = false := decide_eq_false h1
      clear h
      go_enter Tryd.func41, Tryd.ntmps41
      go_wp2
      go_ret
      exact ⟨rfl, rfl⟩
  · rw [hasB_out h.lt (by omega)]
    have d0 : decide (x ≥ 0) = false := decide_eq_false h0
    clear h
    go_enter Tryd.func41, Tryd.ntmps41
    go_wp2
    go_ret
    exact ⟨rfl, rfl⟩
set_option maxHeartbeats 400000 in
theorem put_out {w : World} {b g n M : Nat} (h : RM w b g n M) (x : Int) (t : Bool) (hx : ¬ (0 ≤ x ∧ x < n)) : Calls Tryd.prog 40 #[.pointer (some ⟨b, 0, none⟩), .int .i64 x, .bool t] w fun e w' => e = .returned (.bool false) ∧ w = w' := by
  have c0 := h.cell0
  have hle := h.le
  clear h
  by_cases h0 : x < 0
  · have d0 : decide (x < 0) = true := decide_eq_true h0
    clear hx
    go_enter Tryd.func40, Tryd.ntmps40
    go_wp2
    go_ret
    exact ⟨rfl, rfl⟩
  · have d0 : decide (x < 0) = false := decide_eq_false h0
    have d1 : decide (x ≥ (n : Int)) = true := decide_eq_true (by omega)
    clear hx
    go_enter Tryd.func40, Tryd.ntmps40
    go_wp2
    go_ret
    exact ⟨rfl, rfl⟩
set_option maxHeartbeats 400000 in
theorem put_old {w : World} {b g n M : Nat} (h : RM w b g n M) (k : Nat) (hk : k < n) : Calls Tryd.prog 40 #[.pointer (some ⟨b, 0, none⟩), .int .i64 k, .bool (M.testBit k)] w fun e w' => e = .returned (.bool false) ∧ w = w' := by
  have c0 := h.cell0
  have hle := h.le
  have hc := h.bool hk
  have d0 : decide ((k : Int) < 0) = false := decide_eq_false (by omega)
  have d1 : decide ((k : Int) ≥ (n : Int)) = false := decide_eq_false (by omega)
  clear h
  generalize M.testBit k = v at hc ⊢
  cases v
  all_goals
    go_enter Tryd.func40, Tryd.ntmps40
    go_wp2
    go_ret
    exact ⟨rfl, rfl⟩
set_option maxHeartbeats 400000 in
theorem put_new {w : World} {b g n M : Nat} (h : RM w b g n M) (k : Nat) (hk : k < n) : Calls Tryd.prog 40 #[.pointer (some ⟨b, 0, none⟩), .int .i64 k, .bool (!M.testBit k)] w fun e w' => e = .returned (.bool true) ∧ w' = w.setCell ⟨g, k, none⟩ (.bool (!M.testBit k)) := by
  have c0 := h.cell0
  have hle := h.le
  have hc := h.bool hk
  have hf := h.bs.free k
  have d0 : decide ((k : Int) < 0) = false := decide_eq_false (by omega)
  have d1 : decide ((k : Int) ≥ (n : Int)) = false := decide_eq_false (by omega)
  clear h
  generalize M.testBit k = v at hc ⊢
  cases v
  all_goals
    simp only [Bool.not_false, Bool.not_true]
    go_enter Tryd.func40, Tryd.ntmps40
    go_wp2
    go_ret
    exact ⟨rfl, rfl⟩
theorem RM.store {w : World} {b g n M M' k : Nat} (h : RM w b g n M) (hM : M' < 2 ^ n) (he : ∀ i, i ≠ k → M'.testBit i = M.testBit i) : RM (w.setCell ⟨g, k, none⟩ (.bool (M'.testBit k))) b g n M' := by
  refine ⟨h.hd.other _ _ h.ne, ?_, h.le, hM⟩
  have := h.bs.set (i := k) (.bool (M'.testBit k))
  rw [boolCells_set he] at this
  exact this
theorem only_set' {w : World} {g i : Nat} (v : Value) : w.grownBy (w.setCell ⟨g, i, none⟩ v) (some g) :=
  ⟨rfl, rfl, rfl, by simp [World.setCell], fun k _ hne => Below.heap_setCell w _ _ k (fun e => hne (by rw [e]))⟩
/-- Put(x, true). -/
theorem put_true {w : World} {b g n M : Nat} (h : RM w b g n M) (x : Int) : Calls Tryd.prog 40 #[.pointer (some ⟨b, 0, none⟩), .int .i64 x, .bool true] w fun e w' => e = .returned (.bool (newB n M x)) ∧ RM w' b g n (setM n M x) ∧ w.grownBy w' (some g) := by
  by_cases hx : 0 ≤ x ∧ x < n
  · obtain ⟨k, rfl⟩ : ∃ k : Nat, x = k := ⟨x.toNat, by omega⟩
    cases hb : M.testBit k
    · have hN : newB n M (k : Int) = true := by rw [newB_eq, hasB_nat, hb]; simp; omega
      have hp := put_new h k (by omega)
      rw [hb] at hp
      refine hp.mono ?_
      rintro e w' ⟨rfl, rfl⟩
      rw [hN]
      have hs : setM n M (k : Int) = sb M k := by unfold setM; rw [if_pos hx]; simp
      rw [hs]
      have := h.store (M' := sb M k) (k := k) (sb_lt h.lt (by omega)) (fun i hi => by rw [sb_bit]; simp [Ne.symm hi])
      rw [sb_bit] at this
      simp at this
      exact ⟨rfl, this, only_set' _⟩
    · have hN : newB n M (k : Int) = false := by rw [newB_eq, hasB_nat, hb]; simp
      have hp := put_old h k (by omega)
      rw [hb] at hp
      refine hp.mono ?_
      rintro e w' ⟨rfl, rfl⟩
      rw [hN, setM_old hN]
      exact ⟨rfl, h, only_refl _ _⟩
  · have hN : newB n M x = false := by rw [newB_eq]; simp; omega
    refine (put_out h x true hx).mono ?_
    rintro e w' ⟨rfl, rfl⟩
    rw [hN, setM_old hN]
    exact ⟨rfl, h, only_refl _ _⟩
/-- Put(x, false). -/
theorem put_false {w : World} {b g n M : Nat} (h : RM w b g n M) (x : Int) : Calls Tryd.prog 40 #[.pointer (some ⟨b, 0, none⟩), .int .i64 x, .bool false] w fun e w' => e = .returned (.bool (hasB M x)) ∧ RM w' b g n (clrM M x) ∧ w.grownBy w' (some g) := by
  by_cases hx : 0 ≤ x ∧ x < n
  · obtain ⟨k, rfl⟩ : ∃ k : Nat, x = k := ⟨x.toNat, by omega⟩
    cases hb : M.testBit k
    · have hN : hasB M (k : Int) = false := by rw [hasB_nat, hb]
      have hp := put_old h k (by omega)
      rw [hb] at hp
      refine hp.mono ?_
      rintro e w' ⟨rfl, rfl⟩
      rw [hN, clrM_old hN]
      exact ⟨rfl, h, only_refl _ _⟩
    · have hN : hasB M (k : Int) = true := by rw [hasB_nat, hb]
      have hp := put_new h k (by omega)
      rw [hb] at hp
      refine hp.mono ?_
      rintro e w' ⟨rfl, rfl⟩
      rw [hN]
      have hs : clrM M (k : Int) = cb M k := by unfold clrM; rw [if_pos hx.1]; simp
      rw [hs]
      have := h.store (M' := cb M k) (k := k) (cb_lt h.lt) (fun i hi => by rw [cb_bit]; simp [Ne.symm hi])
      rw [cb_bit] at this
      simp at this
      exact ⟨rfl, this, only_set' _⟩
  · have hN : hasB M x = false := hasB_out h.lt hx
    refine (put_out h x false hx).mono ?_
    rintro e w' ⟨rfl, rfl⟩
    rw [hN, clrM_old hN]
    exact ⟨rfl, h, only_refl _ _⟩
set_option maxHeartbeats 1000000 in
/-- Next. -/
theorem rnext_any {w : World} {b g n M : Nat} (h : RM w b g n M) (x : Int) : Calls Tryd.prog 42 #[.pointer (some ⟨b, 0, none⟩), .int .i64 x] w fun e w' => e = .returned (.int .i64 (nextM n M x)) ∧ w = w' := by
  have c0 := h.cell0
  have hle := h.le
  have H := Lib.hid h
  clear h
  go_enter Tryd.func42, Tryd.ntmps42
  go_wp2
  go_loop [11] (fun i => ∃ k : Nat, k ≤ n ∧ i = .int .i64 k ∧ Hid (∀ j : Nat, j < k → x ≤ j → M.testBit j = false)) (fun i => n - (intOf i).toNat)
  case atStart => exact ⟨0, Nat.zero_le _, rfl, Lib.hid fun j hj _ => by omega⟩
  case round =>
    obtain ⟨k, hk, rfl, HF⟩ := hrel
    by_cases hkn : k < n
    · have hc := H.out.bool hkn
      obtain ⟨v, hv⟩ : ∃ v, v = M.testBit k := ⟨_, rfl⟩
      rw [← hv] at hc
      have HV := Lib.hid hv
      clear hv
      by_cases hx : x ≤ (k : Int)
      · have d0 : decide ((k : Int) ≥ x) = true := decide_eq_true hx
        cases v
        · have HF2 : Hid (∀ j : Nat, j < k + 1 → x ≤ j → M.testBit j = false) := Lib.hid fun j hj hxj => if e : j = k then by rw [e, ← HV.out] else HF.out j (by omega) hxj
          go_wp2
          go_round
          case rel => exact ⟨k + 1, by omega, by go_num, HF2⟩
          case measure => simp [intOf]; omega
        · have HE := Lib.hid (nextM_eq hx H.out.lt HV.out.symm fun j h1 h2 => HF.out j h2 h1)
          go_wp2
          go_ret
          exact ⟨by rw [HE.out]; rfl, rfl⟩
      · have d0 : decide ((k : Int) ≥ x) = false := decide_eq_false hx
        have HF2 : Hid (∀ j : Nat, j < k + 1 → x ≤ j → M.testBit j = false) := Lib.hid fun j hj hxj => by omega
        go_wp2
        go_round
        case rel => exact ⟨k + 1, by omega, by go_num, HF2⟩
        case measure => simp [intOf]; omega
    · have HE := Lib.hid (nextM_none (x := x) H.out.lt fun j hj => if e : j < k then HF.out j e hj else bit_ge H.out.lt (by omega))
      go_wp2
      go_ret
      exact ⟨by rw [HE.out]; rfl, rfl⟩
set_option maxHeartbeats 1000000 in
/-- Between. -/
theorem rbetween_any {w : World} {b g n M : Nat} (h : RM w b g n M) (x y : Int) : Calls Tryd.prog 43 #[.pointer (some ⟨b, 0, none⟩), .int .i64 x, .int .i64 y] w fun e w' => e = .returned (.int .i64 (betM n M x y)) ∧ w = w' := by
  have c0 := h.cell0
  have hle := h.le
  have H := Lib.hid h
  clear h
  go_enter Tryd.func43, Tryd.ntmps43
  go_wp2
  go_loop [7, 14] (fun c i => ∃ k d : Nat, k ≤ n ∧ d ≤ k ∧ c = .int .i64 d ∧ i = .int .i64 k ∧ Hid (d = cnt (fun i => decide (x ≤ (i : Int)) && decide ((i : Int) < y) && M.testBit i) k)) (fun _ i => n - (intOf i).toNat)
  case atStart => exact ⟨0, 0, Nat.zero_le _, Nat.le_refl _, rfl, rfl, Lib.hid rfl⟩
  case round =>
    obtain ⟨k, d, hk, hd, rfl, rfl, HD⟩ := hrel
    by_cases hkn : k < n
    · have hc := H.out.bool hkn
      obtain ⟨v, hv⟩ : ∃ v, v = M.testBit k := ⟨_, rfl⟩
      rw [← hv] at hc
      have HV := Lib.hid hv
      clear hv
      by_cases hx : x ≤ (k : Int)
      · have d0 : decide ((k : Int) ≥ x) = true := decide_eq_true hx
        by_cases hy : (k : Int) < y
        · have d1 : decide ((k : Int) < y) = true := decide_eq_true hy
          cases v
          · have HD2 := Lib.hid (cnt_no HD.out (by simp [← HV.out]))
            go_wp2
            go_round
            case rel => exact ⟨k + 1, d, by omega, by omega, rfl, by go_num, HD2⟩
            case measure => simp [intOf]; omega
          · have HD2 := Lib.hid (cnt_yes HD.out (by simp [← HV.out, hx, hy]))
            go_wp2
            go_round
            case rel => exact ⟨k + 1, d + 1, by omega, by omega, by go_num, by go_num, HD2⟩
            case measure => simp [intOf]; omega
        · have d1 : decide ((k : Int) < y) = false := decide_eq_false hy
          have HD2 := Lib.hid (cnt_no HD.out (by simp [hy]))
          go_wp2
          go_round
          case rel => exact ⟨k + 1, d, by omega, by omega, rfl, by go_num, HD2⟩
          case measure => simp [intOf]; omega
      · have d0 : decide ((k : Int) ≥ x) = false := decide_eq_false hx
        have HD2 := Lib.hid (cnt_no HD.out (by simp [hx]))
        go_wp2
        go_round
        case rel => exact ⟨k + 1, d, by omega, by omega, rfl, by go_num, HD2⟩
        case measure => simp [intOf]; omega
    · have hke : k = n := by omega
      have HE : Hid (d = betM n M x y) := Lib.hid (by rw [HD.out, hke]; rfl)
      clear hke
      go_wp2
      go_ret
      exact ⟨by rw [← HE.out]; rfl, rfl⟩
end Go.Proofs.YtdfpmgpdkajhkaaDoor
