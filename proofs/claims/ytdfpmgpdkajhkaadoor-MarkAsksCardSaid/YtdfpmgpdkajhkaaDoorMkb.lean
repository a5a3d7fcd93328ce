/-
  Contracts of package mark: drain, whatever the function of edges. Premises in each theorem.
-/
import Derived.Test.YtdfpmgpdkajhkaaDoorMka
import Derived.Deep.LoopGhost
namespace Go.Proofs.YtdfpmgpdkajhkaaDoor
open Go.RowKit
/-- Below base, but for the block 'row', the world w' is as w was. -/
structure Fx (base : Nat) (row : Option Nat) (w w' : World) : Prop where
  os : w'.os = w.os
  tape : w'.tape = w.tape
  output : w'.output = w.output
  size : w.heap.size ≤ w'.heap.size
  block : ∀ j, j < base → some j ≠ row → w'.heap[j]? = w.heap[j]?
theorem Fx.refl (base : Nat) (row : Option Nat) (w : World) : Fx base row w w := ⟨rfl, rfl, rfl, Nat.le_refl _, fun _ _ _ => rfl⟩
theorem Fx.trans {base : Nat} {row : Option Nat} {a b c : World} (h : Fx base row a b) (k : Fx base row b c) : Fx base row a c :=
  ⟨k.os.trans h.os, k.tape.trans h.tape, k.output.trans h.output, Nat.le_trans h.size k.size, fun j hj hne => (k.block j hj hne).trans (h.block j hj hne)⟩
theorem fx_below {base : Nat} (row : Option Nat) {w w' : World} (h : Below base w w') : Fx base row w w' := ⟨h.os, h.tape, h.output, h.size, fun j hj _ => h.block j hj⟩
theorem fx_grown {base : Nat} {row : Option Nat} {w w' : World} (h : w.grownBy w' row) (hs : base ≤ w.heap.size) : Fx base row w w' := ⟨h.os, h.tape, h.output, h.size, fun j hj hne => h.block j (by omega) hne⟩
/-- The slice '.slice A d _', just made or elder than 'base', reads as the ints xs. -/
def RdE (w w' : World) (base : Nat) (A : Option Addr) (d : Nat) (xs : List Int) : Prop :=
  xs.length = d ∧ (0 < d → ∃ rb off, A = some ⟨rb, off, none⟩ ∧ (rb < base ∨ w.heap.size ≤ rb) ∧ rb < w'.heap.size ∧ ∀ i, i < d → w'.cell? ⟨rb, off + i, none⟩ = some (.int .i64 (xs.getD i 0)))
/-- A function of edges: the function f with what it captured; 'Inv Q': all that was asked is Q. -/
structure Edges (f : FuncId) (caps : Array Value) (E : Nat → List Int) (n base : Nat) (row : Option Nat) (Inv : Nat → World → Prop) : Prop where
  en : ∀ args w, (callFunc f args).run Tryd.prog w = .ok (.enter f args) w
  call : ∀ (w : World) (Q k : Nat), k < n → base ≤ w.heap.size → Inv Q w → Calls Tryd.prog f (#[.int .i64 (k : Int)] ++ caps) w fun e w' => ∃ A d c, e = .returned (.slice A d c) ∧ RdE w w' base A d (E k) ∧ w.grownBy w' row ∧ Inv (sb Q k) w'
  keep : ∀ (Q : Nat) (w w' : World), Inv Q w → Below base w w' → Inv Q w'
  row : ∀ r, row = some r → 0 < r ∧ r < base
  len : ∀ k, (E k).length ≤ 100000
theorem Own.cut {w : World} {base d c : Nat} {A : Option Addr} {T : List Int} {y : Int} (h : Own w base A (d + 1) c (T ++ [y])) : Own w base A d c T := by
  have hl := h.1
  rw [List.length_append] at hl
  simp at hl
  refine ⟨hl, ?_⟩
  rcases h.2.2 with ⟨_, q⟩ | ⟨g, cap, cur, hv, hb, hh, hn, hm, hs, ht⟩
  · omega
  · injection hv with hA _ hc
    subst hA hc
    refine ⟨by simp [hl], .inr ⟨g, _, cur, rfl, hb, hh, by omega, hm, hs, ?_⟩⟩
    have e := congrArg (List.take d) ht
    rw [List.take_take] at e
    simp only [Nat.mul_one] at e ⊢
    rw [Nat.min_eq_left (by omega)] at e
    rw [e, List.map_append, List.take_append_of_le_length (by simp [hl]), List.take_of_length_le (by simp [hl])]
theorem KM.c1 {w : World} {base k b g n M d c : Nat} {A : Option Addr} {T : List Int} {R : Int} {lost : Bool} (h : KM w base k b g n M A d c T R lost) : w.cell? ⟨k, 1, none⟩ = some (.slice A d c) := h.hd.cell rfl
/-- The slice '.slice A2 d2 _' reads as xs, apart from the marker's own blocks. -/
def RdK (w : World) (k g : Nat) (O : Option Nat) (A2 : Option Addr) (d2 : Nat) (xs : List Int) : Prop :=
  xs.length = d2 ∧ (0 < d2 → ∃ rb off, A2 = some ⟨rb, off, none⟩ ∧ rb < w.heap.size ∧ rb ≠ k ∧ rb ≠ g ∧ some rb ≠ O ∧ ∀ q, q < d2 → w.cell? ⟨rb, off + q, none⟩ = some (.int .i64 (xs.getD q 0)))
theorem RdE.rdK {w w' : World} {base k b g n M d c d2 : Nat} {A A2 : Option Addr} {T xs : List Int} {R : Int} {lost : Bool} (h : RdE w w' base A2 d2 xs) (hK : KM w base k b g n M A d c T R lost) : RdK w' k g (Value.slice A d c).ownBlock A2 d2 xs := by
  refine ⟨h.1, fun hp => ?_⟩
  obtain ⟨rb, off, e, hb, hs, hc⟩ := h.2 hp
  refine ⟨rb, off, e, hs, ?_, ?_, ?_, hc⟩
  · have := hK.kb; have := hK.hd.lt; omega
  · have := hK.gb; have := hK.bm.ws.lt; omega
  · intro q
    have := hK.own.2.lt rb q.symm
    omega
theorem RdK.come {w w' : World} {base k g d c d2 : Nat} {A A2 : Option Addr} {xs : List Int} (h : RdK w k g (Value.slice A d c).ownBlock A2 d2 xs) {A' : Option Addr} {d' c' : Nat} (hb : Below base w w')
    (hC : ∀ rb, rb < w.heap.size → rb ≠ k → rb ≠ g → some rb ≠ (Value.slice A d c).ownBlock → w'.heap[rb]? = w.heap[rb]? ∧ some rb ≠ (Value.slice A' d' c').ownBlock) : RdK w' k g (Value.slice A' d' c').ownBlock A2 d2 xs := by
  refine ⟨h.1, fun hp => ?_⟩
  obtain ⟨rb, off, e, hs, h1, h2, h3, hc⟩ := h.2 hp
  obtain ⟨q1, q2⟩ := hC rb hs h1 h2 h3
  exact ⟨rb, off, e, Nat.lt_of_lt_of_le hs hb.size, h1, h2, q2, fun q hq => (World.cell?_of_block q1).trans (hc q hq)⟩
theorem mem_getD {xs : List Int} {q : Nat} (hq : q < xs.length) : xs.getD q 0 ∈ xs := by
  rw [List.getD_eq_getElem?_getD, List.getElem?_eq_getElem hq]
  exact List.getElem_mem hq
theorem getD_mem {xs : List Int} {y : Int} (h : y ∈ xs) : ∃ q, q < xs.length ∧ xs.getD q 0 = y := by
  obtain ⟨q, hq, e⟩ := List.getElem_of_mem h
  exact ⟨q, hq, by rw [List.getD_eq_getElem?_getD, List.getElem?_eq_getElem hq]; exact e⟩
set_option maxRecDepth 100000 in
set_option maxHeartbeats 4000000 in
theorem drain_any {f : FuncId} {caps : Array Value} {E : Nat → List Int} {n base : Nat} {row : Option Nat} {Inv : Nat → World → Prop} (hE : Edges f caps E n base row Inv) {G S : Nat → Prop} (hcl : ∀ i, S i → ∀ y ∈ E i, 0 ≤ y → y < (n : Int) → S y.toNat)
    {w : World} {k b g M d c ρ cu D : Nat} {A : Option Addr} {T : List Int} {R : Int} {lost : Bool} (hK : KM w base k b g n M A d c T R lost) (hS : St n E G S R ρ cu none M D T lost) (hI : Inv D w) :
    Calls Tryd.prog 68 #[.pointer (some ⟨k, 0, none⟩), .func (.func f) #[] caps] w fun e w' => e = .returned (.tuple #[]) ∧ ∃ M' D' A' c' lost', KM w' base k b g n M' A' 0 c' [] R lost' ∧ St n E G S R ρ cu none M' D' [] lost' ∧ Inv D' w' ∧ Fx base row w w' := by
  have HE := Lib.hid hE
  have HC := Lib.hid hcl
  have HK := Lib.hid hK
  have HS := Lib.hid hS
  have HI := Lib.hid hI
  have hen := hE.en
  have hle := hK.bm.le
  clear hE hcl hK hS hI
  go_enter Tryd.func68, Tryd.ntmps68
  go_wp2
  go_loopg [4] (stM n M T) (fun gk v wr => ∃ (M D d c : Nat) (A : Option Addr) (T : List Int) (lost : Bool), gk = stM n M T ∧ Hid (KM wr base k b g n M A d c T R lost) ∧ Hid (St n E G S R ρ cu none M D T lost) ∧ Hid (Inv D wr) ∧ Hid (Fx base row w wr))
  case atStart => exact ⟨M, D, d, c, A, T, lost, rfl, HK, HS, HI, Lib.hid (Fx.refl _ _ _)⟩
  case round =>
    clear HK HS HI
    obtain ⟨M, D, d, c, A, T, lost, hgk, HK, HS, HI, HF⟩ := hrel
    have HGK := Lib.hid hgk
    clear hgk
    have c1 := HK.out.c1
    have hdl := HK.out.own.1
    have hpl := HS.out.len
    have hpn := popM_le n M
    have hd4 : d ≤ 4096 := by omega
    clear hpl hpn
    rcases List.eq_nil_or_concat T with hT | ⟨T', y, hT⟩
    · have hd0 : d = 0 := by rw [← hdl, hT]; rfl
      rw [hT, hd0] at HK
      rw [hT] at HS
      rw [hd0] at c1
      clear hdl hd0 hd4 hT
      go_wp2
      go_end0
      exact ⟨rfl, M, D, A, c, lost, HK.out, HS.out, HI.out, HF.out⟩
    · rw [hT] at HK HS HGK hdl
      clear hT
      simp only [List.concat_eq_append] at HK HS HGK hdl
      obtain ⟨d', hd'⟩ : ∃ d', d = d' + 1 := ⟨d - 1, by rw [List.length_append] at hdl; simp at hdl; omega⟩
      rw [hd'] at HK c1 hd4
      clear hd' hdl
      obtain ⟨i, hy, hbit, hin, hst⟩ := HS.out.pop
      have HS1 := Lib.hid hst
      have HBIT := Lib.hid hbit
      have HIN := Lib.hid hin
      obtain ⟨ga, hA, _, hga, hdc, hcell⟩ := HK.out.own.at (by omega)
      have hx := hcell d' (by omega)
      have hyd : (T' ++ [y]).getD d' 0 = (i : Int) := by
        have := HK.out.own.1
        rw [List.length_append] at this
        simp at this
        rw [List.getD_eq_getElem?_getD, List.getElem?_append_right (by omega), this]
        simp [hy]
      rw [hyd] at hx
      rw [hA] at c1 HK
      clear hcell hyd hst hbit hy HS hin
      have f1 := HK.out.hd.free 1
      go_wp2_with fail
      obtain ⟨W1, hW1⟩ : ∃ W1, W1 = wr.setCell ⟨k, 1, none⟩ (.slice (some ⟨ga, 0, none⟩) d' c) := ⟨_, rfl⟩
      have hs1 : wr.grownBy W1 (some k) := by rw [hW1]; exact only_set0 _
      have hb1 : Below base wr W1 := below_row hs1 HK.out.size (fun r e => by have := Option.some.inj e; have := HK.out.kb; omega)
      have HK1 : Hid (KM W1 base k b g n M (some ⟨ga, 0, none⟩) d' c T' R lost) := Lib.hid (by
        refine HK.out.head ?_ hs1 HK.out.own.cut
        rw [hW1]
        exact HK.out.hd.set (i := 1) (.slice (some ⟨ga, 0, none⟩) d' c))
      have HI1 := Lib.hid (HE.out.keep _ _ _ HI.out hb1)
      have HF1 := Lib.hid (HF.out.trans (fx_below row hb1))
      rw [← hW1]
      clear hW1 hs1 hb1 c1 f1 hx HI HF
      refine (HE.out.call W1 D i HIN.out HK1.out.size HI1.out).mono ?_
      rintro e w2 ⟨A2, d2, c2, rfl, hR, hG, hI2⟩
      have hd2 : d2 ≤ 100000 := by rw [← hR.1]; exact HE.out.len i
      have HRK := Lib.hid (hR.rdK HK1.out)
      have HK2 := Lib.hid (HK1.out.grown hG (fun r e => HE.out.row r e))
      have HI2 := Lib.hid hI2
      have HF2 := Lib.hid (HF1.out.trans (fx_grown hG HK1.out.size))
      clear hR hG hI2 HK1 HI1 HF1 HK
      go_wp2
      go_loopw [40] (fun v wz => ∃ (q M1 d1 c1 : Nat) (A1 : Option Addr) (T1 : List Int) (lost1 : Bool), q ≤ d2 ∧ v = .int .i64 q ∧ Hid (KM wz base k b g n M1 A1 d1 c1 T1 R lost1) ∧ Hid (St n E G S R ρ cu (some i) M1 D T1 lost1) ∧ Hid (M1.testBit i = true) ∧ Hid (∀ j, j < q → 0 ≤ (E i).getD j 0 → (E i).getD j 0 < (n : Int) → M1.testBit ((E i).getD j 0).toNat = true) ∧ Hid (Inv (sb D i) wz) ∧ Hid (RdK wz k g (Value.slice A1 d1 c1).ownBlock A2 d2 (E i)) ∧ Hid (Fx base row w wz) ∧ Hid (stM n M1 T1 ≤ stM n M T')) (fun v _ => d2 - (intOf v).toNat)
      case atStart => exact ⟨0, M, d', c, some ⟨ga, 0, none⟩, T', lost, Nat.zero_le _, rfl, HK2, HS1, HBIT, Lib.hid (fun j hj => by omega), HI2, HRK, HF2, Lib.hid (Nat.le_refl _)⟩
      case round =>
        clear HK2 HS1 HBIT HI2 HRK HF2
        obtain ⟨q, M1, d1, c1, A1, T1, lost1, hq, rfl, HK, HS, HBIT, HMK, HI, HRK, HF, HST⟩ := hrel
        by_cases hqd : q < d2
        · have hdl := HK.out.own.1
          have hpl := HS.out.len
          have hpn := popM_le n M1
          have hd5 : d1 ≤ 5000 := by omega
          clear hdl hpl hpn
          obtain ⟨rb, off, rfl, hrb, _, _, _, hcell⟩ := HRK.out.2 (by omega)
          have hx := hcell q hqd
          have hmem := mem_getD (xs := E i) (q := q) (by rw [HRK.out.1]; exact hqd)
          have hsx := HC.out i (HS.out.sound i HBIT.out) _ hmem
          clear hcell hmem
          obtain ⟨x, hxx⟩ : ∃ x, x = (E i).getD q 0 := ⟨_, rfl⟩
          rw [← hxx] at hx hsx
          have HX := Lib.hid hxx
          have HS3 := Lib.hid (HS.out.come x hsx)
          have HB3 : Hid ((setM n M1 x).testBit i = true) := Lib.hid (setM_mono HBIT.out)
          have HM3 : Hid (∀ j, j < q + 1 → 0 ≤ (E i).getD j 0 → (E i).getD j 0 < (n : Int) → (setM n M1 x).testBit ((E i).getD j 0).toNat = true) := Lib.hid fun j hj y0 yn => by
            by_cases e : j = q
            · rw [e] at y0 yn ⊢
              rw [← HX.out] at y0 yn ⊢
              exact setM_marks y0 yn
            · exact setM_mono (HMK.out j (by omega) y0 yn)
          have HST3 : Hid (stM n (setM n M1 x) (comeT n M1 T1 R x) ≤ stM n M T') := Lib.hid (Nat.le_trans (stM_come x) HST.out)
          clear hxx hsx
          go_wp2_with fail
          refine (come_any HK.out x hd5).mono ?_
          rintro e w3 ⟨rfl, A3, d3, c3, hK3, hB3, hAP⟩
          have HK3 := Lib.hid hK3
          have HI3 := Lib.hid (HE.out.keep _ _ _ HI.out hB3)
          have HR3 := Lib.hid (HRK.out.come hB3 hAP)
          have HF3 := Lib.hid (HF.out.trans (fx_below row hB3))
          clear hK3 hB3 hAP hx
          go_wp2
          go_roundw
          case rel => exact ⟨q + 1, _, d3, c3, A3, _, _, by omega, by go_num, HK3, HS3, HB3, HM3, HI3, HR3, HF3, HST3⟩
          case measure => simp [intOf]; omega
        · have hqe : q = d2 := by omega
          have HS4 := Lib.hid (HS.out.fin HBIT.out (fun y hy y0 yn => by
            obtain ⟨j, hj, e⟩ := getD_mem hy
            have := HMK.out j (by rw [hqe, ← HRK.out.1]; exact hj)
            rw [e] at this
            exact this y0 yn))
          have HLT : Hid (stM n M1 T1 < gk) := Lib.hid (by rw [HGK.out]; have := HST.out; unfold stM at this ⊢; rw [List.length_append]; simp; omega)
          clear hqe
          go_wp2
          go_roundg (stM n M1 T1)
          case measure => exact HLT.out
          case rel => exact ⟨M1, sb D i, d1, c1, A1, T1, lost1, rfl, HK, HS4, HI, HF⟩
end Go.Proofs.YtdfpmgpdkajhkaaDoor
