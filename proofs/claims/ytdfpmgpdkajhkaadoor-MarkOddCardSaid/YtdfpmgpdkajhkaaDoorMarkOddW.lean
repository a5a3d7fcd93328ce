/-
  The walk of the law MarkOdd: for every small number, every slice of ints and every int it returns true, and memory below the heap's old size is unchanged, where the library's table lies. No other condition.
-/
import Derived.Test.YtdfpmgpdkajhkaaDoorMki
import Derived.Test.YtdfpmgpdkajhkaaDoorMkh
namespace Go.Proofs.YtdfpmgpdkajhkaaDoor
open Go.RowKit
theorem own_ne {w : World} {b : Nat} {cs : Array Value} {t : TypeId} (hB : Blk w b cs t) (ht : t ≠ 3) : ∀ g, some b = some g → ∀ t' cs', w.heap[g]? = some (.cells cs' t' (0, 0)) → t' ≠ 3 := by
  intro g e t' cs' hh
  have e := Option.some.inj e
  subst e
  unfold Blk at hB
  rw [hB] at hh
  injection hh with hh
  injection hh with _ q
  subst q
  exact ht
theorem odd_none {n M : Nat} {E : Nat → List Int} {rts : List Int} (h : IsR n E rts M) (hr : ∀ y ∈ rts, ¬ (0 ≤ y ∧ y < (n : Int))) : M = 0 := by
  apply ext
  intro i
  rw [bit_zero]
  cases e : M.testBit i
  · rfl
  · exact ((h i).1 e (fun _ => False) (fun y hy h0 hn => hr y hy ⟨h0, hn⟩) (fun _ h _ _ _ _ => h)).elim
theorem odd_zero {n M : Nat} {os : List Int} (h : IsR n (fun _ => os) [0] M) (hr : ∀ y ∈ os, ¬ (0 ≤ y ∧ y < (n : Int))) : ((popM n M : Nat) : Int) = (if 1 < (n : Int) then 1 else (n : Int)) := by
  have hb : ∀ i, i < n → M.testBit i = decide (i = 0) := fun i hi => by
    rw [Bool.eq_iff_iff, h i, decide_eq_true_iff]
    constructor
    · intro hc
      exact hc (fun i => i = 0) (fun y hy _ _ => by simp at hy; subst hy; rfl) (fun j _ y hy h0 hn => absurd ⟨h0, hn⟩ (hr y hy))
    · rintro rfl
      exact rch_root (y := 0) (by simp) (by omega) (by omega)
  have e : popM n M = cnt (fun i => decide (i = 0)) n := cnt_congr n fun i hi => hb i hi
  rw [e]
  rcases n with _ | n
  · rfl
  · have : ∀ m, cnt (fun i => decide (i = 0)) (m + 1) = 1 := fun m => by
      induction m with
      | zero => rfl
      | succ m ih => unfold cnt; rw [ih]; simp
    rw [this n]
    split <;> omega
set_option maxRecDepth 100000 in
set_option maxHeartbeats 4000000 in
theorem markOdd_long (w : World) (x r : Int) (s : Option Addr) (len cap : Nat) (hl : 100 < len) (hT : Tab w) :
    Calls Tryd.prog 19 #[.int .u8 x, .slice s len cap, .int .i64 r] w fun e w' => e = .returned (.bool true) ∧ Below w.heap.size w w' := by
  have HT := Lib.hid hT
  clear hT
  go_enter Tryd.func19, Tryd.ntmps19
  go_wp2_with fail
  refine (awake14_any HT.out).mono ?_
  rintro e w1 ⟨rfl, hB⟩
  have HB := Lib.hid hB
  have HT1 := Lib.hid (HT.out.below hB HT.out.2)
  clear hB
  go_wp2_with fail
  refine (awake14_any HT1.out).mono ?_
  rintro e w2 ⟨rfl, hB⟩
  have HB2 := Lib.hid (HB.out.trans (hB.mono HB.out.size))
  clear hB
  go_wp2
  go_ret
  exact ⟨rfl, HB2.out⟩
set_option maxRecDepth 100000 in
set_option maxHeartbeats 8000000 in
theorem markOdd_main (w : World) (n : Nat) (hn : n ≤ 255) (r : Int) (s : Option Addr) (len cap : Nat) (zs : List Int) (ws : IsRow .i64 w s len cap zs) (hl : len ≤ 100) (hT : Tab w) :
    Calls Tryd.prog 19 #[.int .u8 n, .slice s len cap, .int .i64 r] w fun e w' => e = .returned (.bool true) ∧ Below w.heap.size w w' := by
  have HT := Lib.hid hT
  have HW := Lib.hid ws
  have HR := Lib.hid ws.rd
  have HPN : Hid (plc (n : Int) = n) := Lib.hid (by unfold plc; rw [if_neg (by omega)]; omega)
  have hR1 : (1 : Int) ≤ (if r < 1 then 1 else r) := by split <;> omega
  have HR1 := Lib.hid hR1
  clear hT ws hR1
  go_enter Tryd.func19, Tryd.ntmps19
  go_wp2_with fail
  refine (awake14_any HT.out).mono ?_
  rintro e w1 ⟨rfl, hB⟩
  have HB := Lib.hid hB
  have HT1 := Lib.hid (HT.out.up hB)
  clear hB
  go_wp2
  generalize hwa : w1.alloc (Obj.cells #[.slice none 0 0] 28) = wa
  generalize hob : w1.heap.size = ob
  have HBK : Hid (Blk wa ob #[.slice none 0 0] 28) := Lib.hid (by rw [← hwa, ← hob]; exact Blk.new _ _ _)
  have HB0 : Hid (Below w.heap.size w wa) := Lib.hid (by rw [← hwa]; exact HB.out.alloc HB.out.size _)
  have HOB : Hid (w.heap.size ≤ ob) := Lib.hid (by rw [← hob]; exact HB.out.size)
  clear hwa hob HB HT1
  go_loopw [29] (fun v wr => ∃ (k c : Nat) (A : Option Addr) (os : List Int), k ≤ len ∧ v = .int .i64 k ∧ Hid (Blk wr ob #[.slice A k c] 28) ∧ Hid (Own wr w.heap.size A k c os) ∧ Hid (∀ y ∈ os, ¬ (0 ≤ y ∧ y < (n : Int))) ∧ Hid (Below w.heap.size w wr)) (fun v _ => len - (intOf v).toNat)
  case atStart => exact ⟨0, 0, none, [], Nat.zero_le _, rfl, HBK, Lib.hid (Own.nil _ _), Lib.hid (fun y hy => by cases hy), HB0⟩
  case round =>
    clear HBK HB0
    obtain ⟨k, c, A, os, hk, rfl, HBK, HO, HOS, HB⟩ := hrel
    have cx : wr.cell? ⟨ob, 0, none⟩ = some (.slice A k c) := HBK.out.cell rfl
    by_cases hkl : k < len
    · obtain ⟨sb, so, rfl, hsb, hlz, hcell⟩ := HW.out.at (by omega)
      have hx : wr.cell? ⟨sb, so + k, none⟩ = some (.int .i64 (zs.getD k 0)) := (HB.out.cell (p := ⟨sb, so + k, none⟩) hsb).trans (hcell k hkl)
      obtain ⟨v0, v1⟩ := wf_i64 (HW.out.wf (i := k) (by omega))
      clear hcell
      generalize zs.getD k 0 = x at hx v0 v1
      by_cases h0 : 0 ≤ x
      · have d0 : decide (x ≥ 0) = true := decide_eq_true h0
        by_cases h1 : x < n
        · have d1 : decide (x < (n : Int)) = true := decide_eq_true h1
          go_wp2_with (at_builtin; refine app_int rfl _ _ rfl _ w.heap.size A k c os (x + (n : Int)) rfl rfl HO.out (by omega) HB.out.size ?_; intro A' c' w4 hO hg; have HBK4 := Lib.hid (HBK.out.grown hg (own_blk HO.out HBK.out (by decide))); have HO4 := Lib.hid hO; have B4 := Lib.hid (below_own HB.out HO.out (Nat.le_refl _) HB.out.size hg); clear hO hg cx; have cx : w4.cell? ⟨ob, 0, none⟩ = some (.slice A k c) := HBK4.out.cell rfl; have fx := HBK4.out.free 0)
          have hs := only_set0 (w := w4) (g := ob) (i := 0) (.slice A' (k + 1) c')
          have HBK5 : Hid (Blk (w4.setCell ⟨ob, 0, none⟩ (.slice A' (k + 1) c')) ob #[.slice A' (k + 1) c'] 28) := Lib.hid (HBK4.out.set (i := 0) _)
          have HO5 := Lib.hid (HO4.out.kept hs (own_ne HBK4.out (by decide)))
          have B5 := Lib.hid (below_only B4.out hs B4.out.size HOB.out)
          have HOS5 : Hid (∀ y ∈ os ++ [(x + (n : Int))], ¬ (0 ≤ y ∧ y < (n : Int))) := Lib.hid fun y hy => by
            rw [List.mem_append] at hy
            rcases hy with hy | hy
            · exact HOS.out y hy
            · simp at hy; omega
          clear hs cx fx
          go_roundw
          case rel => exact ⟨k + 1, c', A', os ++ [(x + (n : Int))], by omega, by go_num, HBK5, HO5, HOS5, B5⟩
          case measure => simp [intOf]; omega
        · have d1 : decide (x < (n : Int)) = false := decide_eq_false h1
          go_wp2_with (at_builtin; refine app_int rfl _ _ rfl _ w.heap.size A k c os x rfl rfl HO.out (by omega) HB.out.size ?_; intro A' c' w4 hO hg; have HBK4 := Lib.hid (HBK.out.grown hg (own_blk HO.out HBK.out (by decide))); have HO4 := Lib.hid hO; have B4 := Lib.hid (below_own HB.out HO.out (Nat.le_refl _) HB.out.size hg); clear hO hg cx; have cx : w4.cell? ⟨ob, 0, none⟩ = some (.slice A k c) := HBK4.out.cell rfl; have fx := HBK4.out.free 0)
          have hs := only_set0 (w := w4) (g := ob) (i := 0) (.slice A' (k + 1) c')
          have HBK5 : Hid (Blk (w4.setCell ⟨ob, 0, none⟩ (.slice A' (k + 1) c')) ob #[.slice A' (k + 1) c'] 28) := Lib.hid (HBK4.out.set (i := 0) _)
          have HO5 := Lib.hid (HO4.out.kept hs (own_ne HBK4.out (by decide)))
          have B5 := Lib.hid (below_only B4.out hs B4.out.size HOB.out)
          have HOS5 : Hid (∀ y ∈ os ++ [x], ¬ (0 ≤ y ∧ y < (n : Int))) := Lib.hid fun y hy => by
            rw [List.mem_append] at hy
            rcases hy with hy | hy
            · exact HOS.out y hy
            · simp at hy; omega
          clear hs cx fx
          go_roundw
          case rel => exact ⟨k + 1, c', A', os ++ [x], by omega, by go_num, HBK5, HO5, HOS5, B5⟩
          case measure => simp [intOf]; omega
      · have d0 : decide (x ≥ 0) = false := decide_eq_false h0
        go_wp2_with (at_builtin; refine app_int rfl _ _ rfl _ w.heap.size A k c os x rfl rfl HO.out (by omega) HB.out.size ?_; intro A' c' w4 hO hg; have HBK4 := Lib.hid (HBK.out.grown hg (own_blk HO.out HBK.out (by decide))); have HO4 := Lib.hid hO; have B4 := Lib.hid (below_own HB.out HO.out (Nat.le_refl _) HB.out.size hg); clear hO hg cx; have cx : w4.cell? ⟨ob, 0, none⟩ = some (.slice A k c) := HBK4.out.cell rfl; have fx := HBK4.out.free 0)
        have hs := only_set0 (w := w4) (g := ob) (i := 0) (.slice A' (k + 1) c')
        have HBK5 : Hid (Blk (w4.setCell ⟨ob, 0, none⟩ (.slice A' (k + 1) c')) ob #[.slice A' (k + 1) c'] 28) := Lib.hid (HBK4.out.set (i := 0) _)
        have HO5 := Lib.hid (HO4.out.kept hs (own_ne HBK4.out (by decide)))
        have B5 := Lib.hid (below_only B4.out hs B4.out.size HOB.out)
        have HOS5 : Hid (∀ y ∈ os ++ [x], ¬ (0 ≤ y ∧ y < (n : Int))) := Lib.hid fun y hy => by
          rw [List.mem_append] at hy
          rcases hy with hy | hy
          · exact HOS.out y hy
          · simp at hy; omega
        clear hs cx fx
        go_roundw
        case rel => exact ⟨k + 1, c', A', os ++ [x], by omega, by go_num, HBK5, HO5, HOS5, B5⟩
        case measure => simp [intOf]; omega
    · have hke : k = len := by omega
      have hk100 : k ≤ 100 := by omega
      have HOS' := Lib.hid HOS.out
      have hlos := HO.out.1
      have HLOS : Hid (os.length ≤ 100000) := Lib.hid (by omega)
      clear hke hk hlos
      have HTw := Lib.hid (HT.out.up HB.out)
      go_wp2_with fail
      refine (reach_any (w := wr) (n : Int) r (odd1_edges) HTw.out rfl trivial HO.out.rd (by omega)).mono ?_
      rintro e w3 ⟨b1, g1, M1, ρ1, rfl, _, _, hM, hI, _, hF, hρ⟩
      rw [HPN.out] at hM hI hρ
      have he := odd_none hI HOS.out
      rw [he] at hM hρ
      have h0 : ρ1 = 0 := by
        rcases hρ with h | h
        · exact h
        · rw [popM_zero] at h; have := HR1.out; omega
      subst h0
      have hbf := Fx.below hF
      have HM1 := Lib.hid hM
      have HBK3 := Lib.hid (HBK.out.below hbf HBK.out.lt)
      have HRD3 := Lib.hid (HO.out.rd.up hbf)
      have HB3 := Lib.hid (HB.out.trans (hbf.mono HB.out.size))
      have HT3 := Lib.hid (HTw.out.up hbf)
      clear he hM hI hF hρ hbf HBK HO HB HTw cx
      go_wp2_with fail
      have hb4 := (Below.refl w3.heap.size w3).alloc (Nat.le_refl _) (.cells #[.int .i64 0] 3)
      have hrd : Rd (w3.alloc (.cells #[.int .i64 0] 3)) (some ⟨w3.heap.size, 0, none⟩) 1 [0] := ⟨rfl, fun _ => ⟨_, _, rfl, by simp, fun i hi => by
        obtain rfl : i = 0 := by omega
        exact (Blk.new w3 _ _).cell (i := 0 + 0) rfl⟩⟩
      have hcap : CapS ob (w3.alloc (.cells #[.int .i64 0] 3)).heap.size A k c os 0 (w3.alloc (.cells #[.int .i64 0] 3)) := ⟨(HBK3.out.alloc _).cell rfl, by have := HBK3.out.lt; simp; omega, (HRD3.out.up hb4).rdB⟩
      refine (reach_any (n : Int) r (odd2_edges HLOS.out) (HT3.out.up hb4) rfl hcap hrd (by omega)).mono ?_
      rintro e w5 ⟨b2, g2, M2, ρ2, rfl, _, _, hM, hI, _, hF, hρ⟩
      rw [HPN.out] at hM hI hρ
      have hp := odd_zero hI HOS'.out
      have h0 : ρ2 = 0 := by
        rcases hρ with h | h
        · exact h
        · rw [hp] at h; have := HR1.out; exfalso; revert h; split <;> omega
      subst h0
      have hbf := hb4.trans ((Fx.below hF).mono (by simp))
      have HM2 := Lib.hid hM
      have HP2 := Lib.hid hp
      have HM1' := Lib.hid (HM1.out.up hbf)
      have HBK5 := Lib.hid (HBK3.out.below hbf HBK3.out.lt)
      have HRD5 := Lib.hid (HRD3.out.up hbf)
      have HB5 := Lib.hid (HB3.out.trans (hbf.mono HB3.out.size))
      have HT5 := Lib.hid (HT3.out.up hbf)
      clear hM hI hF hρ hbf hp hb4 hrd hcap HBK3 HRD3 HB3 HT3 HM1
      go_wp2_with fail
      have hcap : CapS ob w5.heap.size A k c os 0 w5 := ⟨HBK5.out.cell rfl, HBK5.out.lt, HRD5.out.rdB⟩
      refine (reach_any (w := w5) 0 r (odd3_edges HLOS.out) HT5.out rfl hcap (HR.out.up HB5.out) (by omega)).mono ?_
      rintro e w6 ⟨b3, g3, M3, ρ3, rfl, _, _, hM, hI, _, hF, hρ⟩
      rw [show plc 0 = 0 by decide] at hM hρ
      have h0 : ρ3 = 0 := by
        rcases hρ with h | h
        · exact h
        · have := popM_le 0 M3; have := HR1.out; omega
      subst h0
      have hbf := Fx.below hF
      have HM3 := Lib.hid hM
      have HM1'' := Lib.hid (HM1'.out.up hbf)
      have HM2' := Lib.hid (HM2.out.up hbf)
      have HB6 := Lib.hid (HB5.out.trans (hbf.mono HB5.out.size))
      clear hM hI hF hρ hbf hcap HM1' HM2 HBK5 HRD5 HB5 HT5
      go_wp2_with fail
      refine (count_any HM1''.out).mono ?_
      rintro e w_ ⟨rfl, rfl⟩
      rw [popM_zero]
      go_wp2_with fail
      refine (count_any HM2'.out).mono ?_
      rintro e w_ ⟨rfl, rfl⟩
      rw [HP2.out]
      go_wp2_with fail
      all_goals
        refine (len_any HM3.out).mono ?_
        rintro e w_ ⟨rfl, rfl⟩
        go_wp2
        go_ret
        exact ⟨rfl, HB6.out⟩
theorem markOdd_walk (w : World) (x : Int) (wx : (Lit.int .u8 x).wf = true) (s : Option Addr) (len cap : Nat) (zs : List Int) (ws : IsRow .i64 w s len cap zs) (r : Int) (_ : (Lit.int .i64 r).wf = true) (hT : Tab w) :
    Calls Tryd.prog 19 #[.int .u8 x, .slice s len cap, .int .i64 r] w fun e w' => e = .returned (.bool true) ∧ Below w.heap.size w w' := by
  obtain ⟨x0, x1⟩ := wf_u8 wx
  by_cases hl : len ≤ 100
  · obtain ⟨a, rfl⟩ : ∃ a : Nat, x = a := ⟨x.toNat, by omega⟩
    exact markOdd_main w a (by omega) r s len cap zs ws hl hT
  · exact markOdd_long w x r s len cap (by omega) hT
end Go.Proofs.YtdfpmgpdkajhkaaDoor
