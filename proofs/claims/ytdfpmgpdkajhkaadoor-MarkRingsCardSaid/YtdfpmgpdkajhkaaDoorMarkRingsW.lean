/-
  The walk of the law MarkRings: for every two small numbers, every slice of bytes and every int it returns true, and memory below the heap's old size is unchanged, where the library's table lies. No other condition.
-/
import Derived.Test.YtdfpmgpdkajhkaaDoorMki
import Derived.Test.YtdfpmgpdkajhkaaDoorMkn
import Derived.Test.YtdfpmgpdkajhkaaDoorMkf
namespace Go.Proofs.YtdfpmgpdkajhkaaDoor
open Go.RowKit
set_option maxRecDepth 100000 in
set_option maxHeartbeats 4000000 in
theorem markRings_long (w : World) (x y r : Int) (s : Option Addr) (len cap : Nat) (hl : 100 < len) (hT : Tab w) :
    Calls Tryd.prog 20 #[.int .u8 x, .int .u8 y, .slice s len cap, .int .i64 r] w fun e w' => e = .returned (.bool true) ∧ Below w.heap.size w w' := by
  have HT := Lib.hid hT
  clear hT
  go_enter Tryd.func20, Tryd.ntmps20
  go_wp2_with fail
  refine (awake14_any HT.out).mono ?_
  rintro e w1 ⟨rfl, hB⟩
  have HB := Lib.hid hB
  have HT1 := Lib.hid (HT.out.below hB HT.out.2)
  clear hB
  go_wp2_with fail
  refine (awake14_any HT1.out).mono ?_
  rintro e w2 ⟨rfl, hB⟩
  have HB2 := Lib.hid (HB.out.trans (hB.mono HB.out.size))
  clear hB
  go_wp2
  go_ret
  exact ⟨rfl, HB2.out⟩
theorem own_ne {w : World} {b : Nat} {cs : Array Value} {t : TypeId} (hB : Blk w b cs t) (ht : t ≠ 3) : ∀ g, some b = some g → ∀ t' cs', w.heap[g]? = some (.cells cs' t' (0, 0)) → t' ≠ 3 := by
  intro g e t' cs' hh
  have e := Option.some.inj e
  subst e
  unfold Blk at hB
  rw [hB] at hh
  injection hh with hh
  injection hh with _ q
  subst q
  exact ht
/-- What the law's list of rings tells: ring i holds a root. -/
def RingB (n m : Nat) (xs : List Int) (M : Nat) : Prop := (∀ y ∈ xs, ∃ j : Nat, y = j ∧ j < n * m) ∧ ∀ i, M.testBit i = true ↔ ∃ y : Nat, (y : Int) ∈ xs ∧ y / n = i
theorem RingB.start (n m : Nat) : RingB n m [] 0 := ⟨fun y h => (by cases h), fun i => ⟨fun h => (by rw [bit_zero] at h; cases h), fun ⟨_, h, _⟩ => absurd h (by simp)⟩⟩
theorem RingB.add {n m M X : Nat} {xs : List Int} (h : RingB n m xs M) (hX : X < n * m) : RingB n m (xs ++ [(X : Int)]) (setM m M ((X / n : Nat) : Int)) := by
  have hg : X / n < m := Nat.div_lt_of_lt_mul hX
  refine ⟨fun y hy => ?_, fun i => ?_⟩
  · rw [List.mem_append] at hy
    rcases hy with hy | hy
    · exact h.1 y hy
    · simp at hy; exact ⟨X, hy, hX⟩
  · rw [setM_bit]
    simp only [Bool.or_eq_true, Bool.and_eq_true, decide_eq_true_eq, h.2 i]
    constructor
    · rintro (⟨y, h1, h2⟩ | ⟨h1, h2⟩)
      · exact ⟨y, by simp [h1], h2⟩
      · exact ⟨X, by simp, by omega⟩
    · rintro ⟨y, h1, h2⟩
      rw [List.mem_append] at h1
      rcases h1 with h1 | h1
      · exact .inl ⟨y, h1, h2⟩
      · have e : y = X := by simp at h1; omega
        subst e
        exact .inr ⟨by omega, by omega⟩
theorem RingB.has {n m M M' : Nat} {xs : List Int} (hn : 1 ≤ n) (h : RingB n m xs M) (hI : IsR (n * m) (rgE n) xs M') (k : Nat) (hk : k < n * m) : hasB M' (k : Int) = M.testBit (k / n) := by
  rw [hasB_nat, Bool.eq_iff_iff, hI k, ring_rch hn k hk, h.2]
  constructor
  · rintro ⟨y, h1, _, h3⟩
    exact ⟨y, h1, h3⟩
  · rintro ⟨y, h1, h2⟩
    obtain ⟨j, e, hj⟩ := h.1 _ h1
    exact ⟨y, h1, by omega, h2⟩
set_option maxRecDepth 100000 in
set_option maxHeartbeats 8000000 in
theorem markRings_main (w : World) (a b n m P : Nat) (ha : (1 : Int) + (a : Int) % 12 = n) (hb : (1 : Int) + (b : Int) % 8 = m) (ha2 : a ≤ 255) (hb2 : b ≤ 255) (hP : n * m = P) (r : Int) (s : Option Addr) (len cap : Nat) (zs : List Int) (ws : IsRow .u8 w s len cap zs) (hl : len ≤ 100) (hT : Tab w) :
    Calls Tryd.prog 20 #[.int .u8 a, .int .u8 b, .slice s len cap, .int .i64 r] w fun e w' => e = .returned (.bool true) ∧ Below w.heap.size w w' := by
  have HT := Lib.hid hT
  have HW := Lib.hid ws
  have hn1 : 1 ≤ n := by omega
  have hn2 : n ≤ 12 := by omega
  have hm1 : 1 ≤ m := by omega
  have hm2 : m ≤ 8 := by omega
  have hP1 : P ≤ 96 := by rw [← hP]; exact Nat.mul_le_mul hn2 hm2
  have hP0 : 1 ≤ P := by rw [← hP]; exact Nat.mul_pos hn1 hm1
  have hPP : (n : Int) * (m : Int) = (P : Int) := by rw [← hP]; simp
  have HP := Lib.hid hP
  have HPN : Hid (plc (P : Int) = P) := Lib.hid (by unfold plc; rw [if_neg (by omega)]; omega)
  have hmk := fun W => make_bools W m (by omega)
  clear hT ws hP
  go_enter Tryd.func20, Tryd.ntmps20
  go_wp2_with fail
  refine (awake14_any HT.out).mono ?_
  rintro e w1 ⟨rfl, hB⟩
  have HB := Lib.hid hB
  have HT1 := Lib.hid (HT.out.up hB)
  clear hB
  go_wp2
  generalize hwa : (w1.alloc (Obj.cells #[.int .i64 (n : Int)] 3)).alloc (Obj.cells (boolCells m 0) 4) = wa
  generalize hob : w1.heap.size = nb
  have HNB : Hid (Blk wa nb #[.int .i64 (n : Int)] 3) := Lib.hid (by rw [← hwa, ← hob]; exact (Blk.new _ _ _).alloc _)
  have HHB : Hid (Blk wa (nb + 1) (boolCells m 0) 4) := Lib.hid (by rw [← hwa, ← hob]; exact Blk.new' (by simp) _ _)
  have HB0 : Hid (Below w.heap.size w wa) := Lib.hid (by rw [← hwa]; exact (HB.out.alloc HB.out.size _).alloc (by have := HB.out.size; simp; omega) _)
  have HOB : Hid (w.heap.size ≤ nb) := Lib.hid (by rw [← hob]; exact HB.out.size)
  have HRB : Hid (RingB n m [] 0) := Lib.hid (RingB.start n m)
  clear hwa hob HB HT1
  obtain ⟨base, hbase⟩ : ∃ base, base = wa.heap.size := ⟨_, rfl⟩
  have HBS : Hid (nb + 1 < base) := Lib.hid (by have := HHB.out.lt; omega)
  have HBZ := Lib.hid hbase
  clear hbase
  go_loopw [11, 38] (fun v11 v wr => ∃ (q c M : Nat) (A : Option Addr) (xs : List Int), q ≤ len ∧ v11 = .slice A q c ∧ v = .int .i64 q ∧ Hid (Own wr base A q c xs) ∧ Hid (Blk wr nb #[.int .i64 (n : Int)] 3) ∧ Hid (Blk wr (nb + 1) (boolCells m M) 4) ∧ Hid (RingB n m xs M) ∧ Hid (base ≤ wr.heap.size) ∧ Hid (Below w.heap.size w wr)) (fun _ v _ => len - (intOf v).toNat)
  case atStart => exact ⟨0, 0, 0, none, [], Nat.zero_le _, rfl, rfl, Lib.hid (Own.nil _ _), HNB, HHB, HRB, Lib.hid (by have := HBZ.out; omega), HB0⟩
  case round =>
    clear HNB HHB HRB HB0 HBZ
    obtain ⟨q, c, M, A, xs, hq, rfl, rfl, HO, HNB, HHB, HRB, HSZ, HB⟩ := hrel
    by_cases hql : q < len
    · obtain ⟨sb, so, rfl, hsb, hlz, hcell⟩ := HW.out.at (by omega)
      have hx : wr.cell? ⟨sb, so + q, none⟩ = some (.int .u8 (zs.getD q 0)) := (HB.out.cell (p := ⟨sb, so + q, none⟩) hsb).trans (hcell q hql)
      obtain ⟨v0, v1⟩ := wf_u8 (HW.out.wf (i := q) (by omega))
      clear hcell
      generalize zs.getD q 0 = v at hx v0 v1
      obtain ⟨v, rfl⟩ : ∃ v' : Nat, v = v' := ⟨v.toNat, by omega⟩
      obtain ⟨X, hX⟩ : ∃ X, v % P = X := ⟨_, rfl⟩
      have hXP : X < P := by rw [← hX]; exact Nat.mod_lt _ hP0
      have eX : (v : Int) % (P : Int) = (X : Int) := by rw [← hX]; simp
      obtain ⟨g, hg⟩ : ∃ g, X / n = g := ⟨_, rfl⟩
      have eg : (X : Int) / (n : Int) = (g : Int) := by rw [← hg]; simp
      have hgm : g < m := by rw [← hg]; exact Nat.div_lt_of_lt_mul (by rw [HP.out]; exact hXP)
      have HRB2 : Hid (RingB n m (xs ++ [(X : Int)]) (setM m M (g : Int))) := Lib.hid (by rw [← hg]; exact HRB.out.add (by rw [HP.out]; exact hXP))
      have P0 : ((P : Int) == 0) = false := by simp; omega
      have N0 : ((n : Int) == 0) = false := by simp; omega
      have lsb : sb < wr.heap.size := by have := HB.out.size; omega
      have lnb := HNB.out.lt
      have cn : wr.cell? ⟨nb, 0, none⟩ = some (.int .i64 (n : Int)) := HNB.out.cell rfl
      have hz := bw_cell wr
      clear hX hg
      go_wp2_with fail
      refine wp_region_bw (by kernel_rfl) (by kernel_rfl) ?_
      repeat (first | go_big_quiet_step (fail) | quiet_step (fail))
      with_reducible refine wpQuiet_nil ?_
      rintro ⟨w2, hb⟩
      dsimp only
      have HO2 := Lib.hid (HO.out.up hb)
      have HNB2 := Lib.hid (HNB.out.below hb HNB.out.lt)
      have HHB2 := Lib.hid (HHB.out.below hb HHB.out.lt)
      have HSZ2 : Hid (base ≤ w2.heap.size) := Lib.hid (Nat.le_trans HSZ.out hb.size)
      have HB2 := Lib.hid (HB.out.trans (hb.mono HB.out.size))
      clear hz hb cn lnb lsb HO HNB HHB HSZ HB hx
      go_wp2_with (at_builtin; refine app_int rfl _ _ rfl _ base A q c xs X rfl rfl HO2.out (by omega) HSZ2.out ?_; intro A' c' w4 hO hg; have HNB4 := Lib.hid (HNB2.out.grown hg (own_zero HO2.out (by have := HBS.out; omega))); have HHB4 := Lib.hid (HHB2.out.grown hg (own_zero HO2.out HBS.out)); have HO4 := Lib.hid hO; have HSZ4 : Hid (base ≤ w4.heap.size) := Lib.hid (Nat.le_trans HSZ2.out hg.size); have B4 := Lib.hid (below_own HB2.out HO2.out (by have := HBS.out; have := HOB.out; omega) HB2.out.size hg); clear hO hg; have cn : w4.cell? ⟨nb, 0, none⟩ = some (.int .i64 (n : Int)) := HNB4.out.cell rfl; have fx := HHB4.out.free g; have ch := HHB4.out.cell (boolCells_at (M := M) hgm))
      have hs := only_set0 (w := w4) (g := nb + 1) (i := g) (.bool true)
      have HHB5 : Hid (Blk (w4.setCell ⟨nb + 1, g, none⟩ (.bool true)) (nb + 1) (boolCells m (setM m M (g : Int))) 4) := Lib.hid (by
        rcases bools_store (k := g) HHB4.out with h | h
        · exact h
        · omega)
      have HNB5 : Hid (Blk (w4.setCell ⟨nb + 1, g, none⟩ (.bool true)) nb #[.int .i64 (n : Int)] 3) := Lib.hid (HNB4.out.grown hs (fun e => by have := Option.some.inj e; omega))
      have HO5 := Lib.hid (HO4.out.kept hs (own_ne HHB4.out (by decide)))
      have HSZ5 : Hid (base ≤ (w4.setCell ⟨nb + 1, g, none⟩ (.bool true)).heap.size) := Lib.hid (Nat.le_trans HSZ4.out hs.size)
      have B5 := Lib.hid (below_only B4.out hs B4.out.size (by have := HOB.out; omega))
      clear hs cn fx ch
      go_roundw
      case rel => exact ⟨q + 1, c', setM m M (g : Int), A', xs ++ [(X : Int)], by omega, by go_num, by go_num, HO5, HNB5, HHB5, HRB2, HSZ5, B5⟩
      case measure => simp [intOf]; omega
    · have hqe : q ≤ 100 := by omega
      have cn : wr.cell? ⟨nb, 0, none⟩ = some (.int .i64 (n : Int)) := HNB.out.cell rfl
      have HTw := Lib.hid (HT.out.up HB.out)
      go_wp2_with fail
      have hcap : Cap nb wr.heap.size (.int .i64 (n : Int)) 0 wr := ⟨cn, HNB.out.lt⟩
      refine (reach_any (w := wr) (P : Int) r (ring_edges hn1 hn2 (plc_le _)) HTw.out rfl hcap HO.out.rd (by omega)).mono ?_
      rintro e w3 ⟨b1, g1, M1, ρ1, rfl, _, _, hM, hI, _, hF, _⟩
      rw [HPN.out] at hM hI
      have hh := fun k hk => HRB.out.has hn1 (by rw [HP.out]; exact hI) k (by rw [HP.out]; exact hk)
      have HHAS := Lib.hid hh
      have hbf := Fx.below hF
      have HM3 := Lib.hid hM
      have HNB3 := Lib.hid (HNB.out.below hbf HNB.out.lt)
      have HHB3 := Lib.hid (HHB.out.below hbf HHB.out.lt)
      have HB3 := Lib.hid (HB.out.trans (hbf.mono HB.out.size))
      clear hM hI hF hbf hh hcap cn HNB HHB HB HTw HO HRB
      have cn : w3.cell? ⟨nb, 0, none⟩ = some (.int .i64 (n : Int)) := HNB3.out.cell rfl
      go_wp2
      go_loopw [75] (fun v wr => ∃ k : Nat, k ≤ P ∧ v = .int .i64 k ∧ Hid (Below w3.heap.size w3 wr)) (fun v _ => P - (intOf v).toNat)
      case atStart => exact ⟨0, Nat.zero_le _, rfl, Lib.hid (Below.refl _ _)⟩
      case round =>
        clear cn
        obtain ⟨k, hk, rfl, HBL⟩ := hrel
        by_cases hkP : k < P
        · obtain ⟨g, hg⟩ : ∃ g, k / n = g := ⟨_, rfl⟩
          have eg : (k : Int) / (n : Int) = (g : Int) := by rw [← hg]; simp
          have hgm : g < m := by rw [← hg]; exact Nat.div_lt_of_lt_mul (by rw [HP.out]; exact hkP)
          have N0 : ((n : Int) == 0) = false := by simp; omega
          have HM4 := Lib.hid (HM3.out.up HBL.out)
          have hnb := HNB3.out.below HBL.out HNB3.out.lt
          have hhb := HHB3.out.below HBL.out HHB3.out.lt
          have cn : wr.cell? ⟨nb, 0, none⟩ = some (.int .i64 (n : Int)) := hnb.cell rfl
          have ch := hhb.cell (boolCells_at (M := M) hgm)
          have lnb := hnb.lt
          have lhb := hhb.lt
          have heq := HHAS.out k hkP
          rw [hg] at heq
          rw [← heq] at ch
          obtain ⟨bb, hb⟩ : ∃ bb, hasB M1 (k : Int) = bb := ⟨_, rfl⟩
          rw [hb] at ch
          have HC : Hid (∀ u : BW wr, Calls Tryd.prog 34 #[.pointer (some ⟨b1, 0, none⟩), .int .i64 (k : Nat)] u.w fun e w' => e = .returned (.bool bb) ∧ u.w = w') := Lib.hid fun u => by rw [← hb]; exact has_any (HM4.out.up u.is) _
          have hz := bw_cell wr
          have hbb : (bb != bb) = false := by simp
          clear hg heq hnb hhb hb
          go_wp2_with fail
          refine wp_region_bw (by kernel_rfl) (by kernel_rfl) ?_
          repeat (first | go_big_quiet_step (first | (go_at_call 34; exact calls_same (HC.out _))) | quiet_step (first | (go_at_call 34; exact calls_same (HC.out _))))
          with_reducible refine wpQuiet_nil ?_
          rintro ⟨w5, hb⟩
          dsimp only
          have HBL5 := Lib.hid (HBL.out.trans (hb.mono HBL.out.size))
          clear hz hb cn ch lnb lhb HC
          go_wp2
          go_roundw
          case rel => exact ⟨k + 1, by omega, by go_num, HBL5⟩
          case measure => simp [intOf]; omega
        · go_wp2
          go_ret
          exact ⟨rfl, (HB3.out.trans (HBL.out.mono HB3.out.size))⟩
theorem markRings_walk (w : World) (x : Int) (wx : (Lit.int .u8 x).wf = true) (y : Int) (wy : (Lit.int .u8 y).wf = true) (s : Option Addr) (len cap : Nat) (zs : List Int) (ws : IsRow .u8 w s len cap zs) (r : Int) (_ : (Lit.int .i64 r).wf = true) (hT : Tab w) :
    Calls Tryd.prog 20 #[.int .u8 x, .int .u8 y, .slice s len cap, .int .i64 r] w fun e w' => e = .returned (.bool true) ∧ Below w.heap.size w w' := by
  obtain ⟨x0, x1⟩ := wf_u8 wx
  obtain ⟨y0, y1⟩ := wf_u8 wy
  by_cases hl : len ≤ 100
  · obtain ⟨a, rfl⟩ : ∃ a : Nat, x = a := ⟨x.toNat, by omega⟩
    obtain ⟨b, rfl⟩ : ∃ a : Nat, y = a := ⟨y.toNat, by omega⟩
    exact markRings_main w a b (1 + a % 12) (1 + b % 8) _ (by omega) (by omega) (by omega) (by omega) rfl r s len cap zs ws hl hT
  · exact markRings_long w x y r s len cap (by omega) hT
end Go.Proofs.YtdfpmgpdkajhkaaDoor
