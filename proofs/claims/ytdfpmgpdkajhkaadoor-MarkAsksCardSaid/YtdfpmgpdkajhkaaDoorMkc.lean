/-
  The contract of mark.Reach, whatever the function of edges, and for none. Premises in each theorem.
-/
import Derived.Test.YtdfpmgpdkajhkaaDoorMkb
import Derived.Test.YtdfpmgpdkajhkaaDoorRd
import Derived.ScopeJumps
import Derived.WalkMore
import Derived.Deep.Cut
namespace Go.Proofs.YtdfpmgpdkajhkaaDoor
open Go.RowKit
theorem eql_func (f : FuncId) (caps : Array Value) (w : World) : (binOp .eql 63 (.func (.func f) #[] caps) .nilFunc).run Tryd.prog w = .ok (.bool false) w := by kernel_rfl
theorem eql_nilf (w : World) : (binOp .eql 63 .nilFunc .nilFunc).run Tryd.prog w = .ok (.bool true) w := by kernel_rfl
theorem KM.c0 {w : World} {base k b g n M d c : Nat} {A : Option Addr} {T : List Int} {R : Int} {lost : Bool} (h : KM w base k b g n M A d c T R lost) : w.cell? ⟨k, 0, none⟩ = some (.pointer (some ⟨b, 0, none⟩)) := h.hd.cell rfl
theorem KM.c3 {w : World} {base k b g n M d c : Nat} {A : Option Addr} {T : List Int} {R : Int} {lost : Bool} (h : KM w base k b g n M A d c T R lost) : w.cell? ⟨k, 3, none⟩ = some (.bool lost) := h.hd.cell rfl
/-- What Reach leaves: its map holds just what is reached; how often it went through all again. -/
def Reached (w : World) (base : Nat) (row : Option Nat) (n : Nat) (E : Nat → List Int) (rts : List Int) (Inv : Nat → World → Prop) (R : Int) (e : Ending) (w' : World) : Prop :=
  ∃ b g M ρ : Nat, e = .returned (.tuple #[.pointer (some ⟨b, 0, none⟩), .int .i64 ρ]) ∧ base ≤ b ∧ base ≤ g ∧ BM w' b g n M ∧ IsR n E rts M ∧ Inv M w' ∧ Fx base row w w' ∧ (ρ = 0 ∨ R < (popM n M : Int))
set_option maxRecDepth 100000 in
set_option maxHeartbeats 16000000 in
theorem reach_any {f : FuncId} {caps : Array Value} {E : Nat → List Int} {base : Nat} {row : Option Nat} {Inv : Nat → World → Prop} (p : Int) (r : Int) (hE : Edges f caps E (plc p) base row Inv) {w : World} (hT : Tab w) (hbase : base = w.heap.size) (hI : Inv 0 w) {rA : Option Addr} {rl rc : Nat} {rts : List Int} (hR : Rd w rA rl rts) (hrl : rl ≤ 1000000) :
    Calls Tryd.prog 47 #[.int .i64 p, .int .i64 r, .func (.func f) #[] caps, .slice rA rl rc] w (Reached w base row (plc p) E rts Inv (if r < 1 then 1 else r)) := by
  have HE := Lib.hid hE
  have HT := Lib.hid hT
  have HI := Lib.hid hI
  have HR := Lib.hid hR
  have HBS := Lib.hid hbase
  have hle := plc_le p
  obtain ⟨n, hn⟩ : ∃ n, n = plc p := ⟨_, rfl⟩
  rw [← hn] at HE hle ⊢
  have HN := Lib.hid hn
  obtain ⟨R, hRR⟩ : ∃ R, (if r < 1 then 1 else r) = R := ⟨_, rfl⟩
  rw [hRR]
  clear hE hT hI hR hbase hn
  have hef := eql_func f caps
  have hen := HE.out.en
  go_enter Tryd.func47, Tryd.ntmps47
  go_wp2
  obtain ⟨J, hJ⟩ : ∃ J : Act → World → Prop, ∀ a' wr, J a' wr ↔ (fun a' wr => ∃ (ρ M D d c k b g : Nat) (A : Option Addr) (T : List Int) (lost : Bool) (u4 u5 u6 u7 u11 u12 u14 u15 u16 u17 u18 u19 u20 u21 u22 u23 u24 u25 u26 u27 u28 u29 u30 u31 u32 u33 u34 u35 u36 u37 u38 u39 u40 u41 u42 u43 u44 u45 u46 u47 u48 u49 u50 u51 u52 u53 u54 u55 u56 u57 u58 u59 u60 u61 u62 u63 u64 u65 u66 u67 u68 u69 u70 u71 u72 u73 u74 u75 u76 u77 u78 u79 u80 u81 : Value), a' = { tmps := #[.int .i64 p, .int .i64 r, .func (.func f) #[] caps, .slice rA rl rc, u4, u5, u6, u7, .pointer none, .int .i64 0, .pointer (some ⟨k, 0, none⟩), u11, u12, .int .i64 (ρ : Nat), u14, u15, u16, u17, u18, u19, u20, u21, u22, u23, u24, u25, u26, u27, u28, u29, u30, u31, u32, u33, u34, u35, u36, u37, u38, u39, u40, u41, u42, u43, u44, u45, u46, u47, u48, u49, u50, u51, u52, u53, u54, u55, u56, u57, u58, u59, u60, u61, u62, u63, u64, u65, u66, u67, u68, u69, u70, u71, u72, u73, u74, u75, u76, u77, u78, u79, u80, u81], defers := [] } ∧ Hid (KM wr base k b g n M A d c T R lost) ∧ Hid (St n E (fun i => ∃ y ∈ rts, 0 ≤ y ∧ y < (n : Int) ∧ y.toNat = i) (Rch n E rts) R ρ n none M D T lost) ∧ Hid (Inv D wr) ∧ Hid (Fx base row w wr)) a' wr := ⟨_, fun _ _ => Iff.rfl⟩
  obtain ⟨μ, hμ⟩ : ∃ μ : Act → World → Nat, ∀ a' wr, μ a' wr = 5000 - (intOf (a'.tmps.getD 13 undef)).toNat := ⟨_, fun _ _ => rfl⟩
  have HJ := Lib.hid hJ
  have HMU := Lib.hid hμ
  clear hJ hμ
  refine wp_scope_jumps 0 J μ rfl ?_ ?_
  · go_wp2_with fail
    refine (new_any HT.out p).mono ?_
    rintro e w1 ⟨b, g, rfl, hb, hg, hM, hB⟩
    rw [← HN.out] at hM
    have HM := Lib.hid hM
    have HB := Lib.hid hB
    have HGE := Lib.hid hg
    have HBE := Lib.hid hb
    clear hM hB hg hb
    go_upto_region 5 with (fail)
    generalize hwa : w1.alloc (Obj.cells #[.pointer (some ⟨b, 0, none⟩), .slice none 0 0, .int .i64 R, .bool false] 91) = wa
    generalize hk : w1.heap.size = k
    have bel := (Below.refl w1.heap.size w1).alloc (Nat.le_refl _) (Obj.cells #[.pointer (some ⟨b, 0, none⟩), .slice none 0 0, .int .i64 R, .bool false] 91)
    rw [hwa] at bel
    have HK : Hid (KM wa base k b g n 0 none 0 0 [] R false) := Lib.hid (by
      refine ⟨by rw [← hwa, ← hk]; exact Blk.new _ _ _, HM.out.up bel, Own.nil _ _, ?_, ?_, ?_, ?_⟩
      · rw [HBS.out, ← hk]; exact HB.out.size
      · rw [HBS.out]; exact HBE.out
      · rw [HBS.out]; exact HGE.out
      · rw [HBS.out]; exact HT.out.2)
    have hbw : Below w.heap.size w wa := HB.out.trans (bel.mono HB.out.size)
    have HI1 := Lib.hid (HE.out.keep _ _ _ HI.out (by rw [HBS.out]; exact hbw))
    have HF1 : Hid (Below base w wa) := Lib.hid (by rw [HBS.out]; exact hbw)
    have HR1 := Lib.hid (HR.out.up hbw)
    have HS : Hid (St n E (fun _ => False) (Rch n E rts) R 0 n none 0 0 [] false) := Lib.hid (St.start n E _ R)
    clear hwa hk bel hbw HM HB HI
    go_wp2
    go_loopw [27] (fun v wr => ∃ (q M d c : Nat) (A : Option Addr) (T : List Int) (lost : Bool), q ≤ rl ∧ v = .int .i64 q ∧ Hid (KM wr base k b g n M A d c T R lost) ∧ Hid (St n E (fun _ => False) (Rch n E rts) R 0 n none M 0 T lost) ∧ Hid (∀ x, x < q → 0 ≤ rts.getD x 0 → rts.getD x 0 < (n : Int) → M.testBit (rts.getD x 0).toNat = true) ∧ Hid (Inv 0 wr) ∧ Hid (Below base w wr)) (fun v _ => rl - (intOf v).toNat)
    case atStart => exact ⟨0, 0, 0, 0, none, [], false, Nat.zero_le _, rfl, HK, HS, Lib.hid (fun x hx => by omega), HI1, HF1⟩
    case round =>
      clear HK HS HI1 HF1 HR1
      obtain ⟨q, M, d, c, A, T, lost, hq, rfl, HK, HS, HMK, HI, HF⟩ := hrel
      by_cases hqd : q < rl
      · have hdl := HK.out.own.1
        have hpl := HS.out.len
        have hpn := popM_le n M
        have hd5 : d ≤ 5000 := by omega
        clear hdl hpl hpn
        obtain ⟨rb, off, rfl, hrb, hcell⟩ := HR.out.2 (by omega)
        have hx := (HF.out.cell (p := ⟨rb, off + q, none⟩) (by rw [HBS.out]; exact hrb)).trans (hcell q hqd)
        have hmem := mem_getD (xs := rts) (q := q) (by rw [HR.out.1]; exact hqd)
        have hsx := fun y0 yn => rch_root (n := n) (E := E) hmem y0 yn
        clear hcell hmem
        obtain ⟨x, hxx⟩ : ∃ x, x = rts.getD q 0 := ⟨_, rfl⟩
        rw [← hxx] at hx hsx
        have HX := Lib.hid hxx
        have HS3 := Lib.hid (HS.out.come x hsx)
        have HM3 : Hid (∀ x', x' < q + 1 → 0 ≤ rts.getD x' 0 → rts.getD x' 0 < (n : Int) → (setM n M x).testBit (rts.getD x' 0).toNat = true) := Lib.hid fun x' hx' y0 yn => by
          by_cases e : x' = q
          · rw [e] at y0 yn ⊢
            rw [← HX.out] at y0 yn ⊢
            exact setM_marks y0 yn
          · exact setM_mono (HMK.out x' (by omega) y0 yn)
        clear hxx hsx
        go_wp2_with fail
        refine (come_any HK.out x hd5).mono ?_
        rintro e w3 ⟨rfl, A3, d3, c3, hK3, hB3, hAP⟩
        have HK3 := Lib.hid hK3
        have HI3 := Lib.hid (HE.out.keep _ _ _ HI.out hB3)
        have HF3 := Lib.hid (HF.out.trans hB3)
        clear hK3 hB3 hAP hx
        go_wp2
        go_roundw
        case rel => exact ⟨q + 1, _, d3, c3, A3, _, _, by omega, by go_num, HK3, HS3, HM3, HI3, HF3⟩
        case measure => simp [intOf]; omega
      · have hqe : q = rl := by omega
        have HS9 := Lib.hid (HS.out.need (G' := fun i => ∃ y ∈ rts, 0 ≤ y ∧ y < (n : Int) ∧ y.toNat = i) (fun i hi => by
          obtain ⟨y, hy, y0, yn, e⟩ := hi
          obtain ⟨x, hx, e2⟩ := getD_mem hy
          have := HMK.out x (by rw [hqe, ← HR.out.1]; exact hx)
          rw [e2] at this
          rw [← e]
          exact this y0 yn))
        have HF9 := Lib.hid (fx_below row HF.out)
        clear hqe HS HMK HF hq
        have HS := Lib.hid HS9.out
        have HF := Lib.hid HF9.out
        clear HS9 HF9
        go_upto_region 10 with (fail)
        go_step3
        go_wp2_with fail
        refine (drain_any HE.out (rch_closed n E rts) HK.out HS.out HI.out).mono ?_
        rintro e w2 ⟨rfl, M', D', A', c', lost', hK, hS, hI, hF⟩
        have HK1 := Lib.hid hK
        have HS1 := Lib.hid hS
        have HI1 := Lib.hid hI
        have HF1 := Lib.hid (HF.out.trans hF)
        clear hK hS hI hF HK HS HI HF
        have c0 := HK1.out.c0
        have c3 := HK1.out.c3
        cases lost'
        · obtain ⟨r1, r2⟩ := HS1.out.all
          rw [r2] at HI1
          have HR1 := Lib.hid r1
          have HRO : Hid (0 = 0 ∨ R < (popM n M' : Int)) := Lib.hid (by
            by_cases e : 0 = 0
            · exact .inl e
            · exact .inr (HS1.out.rhoR (by omega)))
          clear r1 r2
          go_wp2
          try simp only [Exit.jump]
          go_ret2
          exact ⟨b, g, M', 0, rfl, HK1.out.bb, HK1.out.gb, HK1.out.bm, HR1.out, HI1.out, HF1.out, by first | exact HRO.out | exact .inl rfl⟩
        · have f3 := HK1.out.hd.free 3
          have HS2 := Lib.hid HS1.out.again
          have h0 : 0 + 1 ≤ 4096 := Nat.le_trans HS2.out.rho (Nat.le_trans (popM_le _ _) hle)
          have hs3 := only_set0 (w := w2) (g := k) (i := 3) (.bool false)
          have HK2 : Hid (KM (w2.setCell ⟨k, 3, none⟩ (.bool false)) base k b g n M' A' 0 c' [] R false) := Lib.hid (HK1.out.head (HK1.out.hd.set (i := 3) (.bool false)) hs3 HK1.out.own)
          have hb3 := below_row hs3 HK1.out.size (fun r e => by have := Option.some.inj e; have := HK1.out.kb; omega)
          have HI2 := Lib.hid (HE.out.keep _ _ _ HI1.out hb3)
          have HF2 := Lib.hid (HF1.out.trans (fx_below row hb3))
          clear hs3 hb3 HS1 HI1 HF1
          obtain ⟨z0, hz0⟩ : ∃ z0, z0 = nextM n M' 0 := ⟨_, rfl⟩
          have HZ0 := Lib.hid hz0
          clear hz0
          go_wp2_with fail
          refine (next_any HK2.out.bm _).mono ?_
          rintro e w_ ⟨rfl, rfl⟩
          rw [← HZ0.out]
          clear c0 c3 f3 HK1
          go_wp2
          go_loopw [14] (fun v wz => ∃ (pp M D c : Nat) (A : Option Addr) (lost : Bool) (z : Int), v = .int .i64 z ∧ Hid (z = nextM n M pp) ∧ Hid (KM wz base k b g n M A 0 c [] R lost) ∧ Hid (St n E (fun i => ∃ y ∈ rts, 0 ≤ y ∧ y < (n : Int) ∧ y.toNat = i) (Rch n E rts) R (0 + 1) pp none M D [] lost) ∧ Hid (Inv D wz) ∧ Hid (Fx base row w wz)) (fun v _ => upm n (intOf v))
          case atStart => exact ⟨0, M', D', c', A', false, z0, rfl, HZ0, HK2, HS2, HI2, HF2⟩
          case round =>
            clear HZ0 HK2 HS2 HI2 HF2
            obtain ⟨pp, M, D, c, A, lost, z, rfl, HZ, HK, HS, HI, HF⟩ := hrel
            by_cases h0 : z ≥ 0
            · obtain ⟨j, rfl⟩ : ∃ j : Nat, z = j := ⟨z.toNat, by omega⟩
              obtain ⟨q1, q2, q3, q4⟩ := HS.out.cursor HZ.out.symm
              have HS1 := Lib.hid q4
              have HBIT := Lib.hid q3
              have HJN := Lib.hid q2
              have hj4 : j < 4096 := by omega
              clear q1 q2 q3 q4 HS
              go_wp2_with fail
              refine (HE.out.call _ D j HJN.out HK.out.size HI.out).mono ?_
              rintro e w3 ⟨A2, d2, c2, rfl, hR, hG, hI2⟩
              have hd2 : d2 ≤ 100000 := by rw [← hR.1]; exact HE.out.len j
              have HRK := Lib.hid (hR.rdK HK.out)
              have HK2 := Lib.hid (HK.out.grown hG (fun r e => HE.out.row r e))
              have HI2 := Lib.hid hI2
              have HF2 := Lib.hid (HF.out.trans (fx_grown hG HK.out.size))
              clear hR hG hI2 HK HI HF
              go_wp2
              go_loopw [71] (fun v wz => ∃ (q M1 d1 c1 : Nat) (A1 : Option Addr) (T1 : List Int) (lost1 : Bool), q ≤ d2 ∧ v = .int .i64 q ∧ Hid (KM wz base k b g n M1 A1 d1 c1 T1 R lost1) ∧ Hid (St n E (fun i => ∃ y ∈ rts, 0 ≤ y ∧ y < (n : Int) ∧ y.toNat = i) (Rch n E rts) R (0 + 1) (j + 1) (some j) M1 D T1 lost1) ∧ Hid (M1.testBit j = true) ∧ Hid (∀ x, x < q → 0 ≤ (E j).getD x 0 → (E j).getD x 0 < (n : Int) → M1.testBit ((E j).getD x 0).toNat = true) ∧ Hid (Inv (sb D j) wz) ∧ Hid (RdK wz k g (Value.slice A1 d1 c1).ownBlock A2 d2 (E j)) ∧ Hid (Fx base row w wz)) (fun v _ => d2 - (intOf v).toNat)
              case atStart => exact ⟨0, M, 0, c, A, [], lost, Nat.zero_le _, rfl, HK2, HS1, HBIT, Lib.hid (fun x hx => by omega), HI2, HRK, HF2⟩
              case round =>
                clear HK2 HS1 HBIT HI2 HRK HF2
                obtain ⟨q, M1, d1, c1, A1, T1, lost1, hq, rfl, HK, HS, HBIT, HMK, HI, HRK, HF⟩ := hrel
                by_cases hqd : q < d2
                · have hdl := HK.out.own.1
                  have hpl := HS.out.len
                  have hpn := popM_le n M1
                  have hd5 : d1 ≤ 5000 := by omega
                  clear hdl hpl hpn
                  obtain ⟨rb, off, rfl, hrb, _, _, _, hcell⟩ := HRK.out.2 (by omega)
                  have hx := hcell q hqd
                  have hmem := mem_getD (xs := E j) (q := q) (by rw [HRK.out.1]; exact hqd)
                  have hsx := fun y0 yn => rch_step (HS.out.sound j HBIT.out) hmem y0 yn
                  clear hcell hmem
                  obtain ⟨x, hxx⟩ : ∃ x, x = (E j).getD q 0 := ⟨_, rfl⟩
                  rw [← hxx] at hx hsx
                  have HX := Lib.hid hxx
                  have HS3 := Lib.hid (HS.out.come x hsx)
                  have HB3 : Hid ((setM n M1 x).testBit j = true) := Lib.hid (setM_mono HBIT.out)
                  have HM3 : Hid (∀ x', x' < q + 1 → 0 ≤ (E j).getD x' 0 → (E j).getD x' 0 < (n : Int) → (setM n M1 x).testBit ((E j).getD x' 0).toNat = true) := Lib.hid fun x' hx' y0 yn => by
                    by_cases e : x' = q
                    · rw [e] at y0 yn ⊢
                      rw [← HX.out] at y0 yn ⊢
                      exact setM_marks y0 yn
                    · exact setM_mono (HMK.out x' (by omega) y0 yn)
                  clear hxx hsx
                  go_wp2_with fail
                  refine (come_any HK.out x hd5).mono ?_
                  rintro e w3 ⟨rfl, A3, d3, c3, hK3, hB3, hAP⟩
                  have HK3 := Lib.hid hK3
                  have HI3 := Lib.hid (HE.out.keep _ _ _ HI.out hB3)
                  have HR3 := Lib.hid (HRK.out.come hB3 hAP)
                  have HF3 := Lib.hid (HF.out.trans (fx_below row hB3))
                  clear hK3 hB3 hAP hx
                  go_wp2
                  go_roundw
                  case rel => exact ⟨q + 1, _, d3, c3, A3, _, _, by omega, by go_num, HK3, HS3, HB3, HM3, HI3, HR3, HF3⟩
                  case measure => simp [intOf]; omega
                · have hqe : q = d2 := by omega
                  have HS4 := Lib.hid (HS.out.fin HBIT.out (fun y hy y0 yn => by
                    obtain ⟨x, hx, e⟩ := getD_mem hy
                    have := HMK.out x (by rw [hqe, ← HRK.out.1]; exact hx)
                    rw [e] at this
                    exact this y0 yn))
                  clear hqe HRK HMK HS
                  go_wp2_with fail
                  refine (drain_any HE.out (rch_closed n E rts) HK.out HS4.out HI.out).mono ?_
                  rintro e w4 ⟨rfl, M4, D4, A4, c4, lost4, hK4, hS4, hI4, hF4⟩
                  have HK4 := Lib.hid hK4
                  have HS5 := Lib.hid hS4
                  have HI4 := Lib.hid hI4
                  have HF4 := Lib.hid (HF.out.trans hF4)
                  clear hK4 hS4 hI4 hF4 HK HS4 HI HF
                  have c0 := HK4.out.c0
                  have MS := Lib.hid (upm_next HS5.out.lt HJN.out)
                  obtain ⟨z1, hz1⟩ : ∃ z1, z1 = nextM n M4 ((j + 1 : Nat) : Int) := ⟨_, rfl⟩
                  have HZ1 := Lib.hid hz1
                  clear hz1
                  go_wp2_with fail
                  rw [show ((j : Int) + 1) = ((j + 1 : Nat) : Int) by omega]
                  refine (next_any HK4.out.bm _).mono ?_
                  rintro e w_ ⟨rfl, rfl⟩
                  rw [← HZ1.out]
                  clear c0
                  go_wp2
                  go_roundw
                  case rel => exact ⟨j + 1, M4, D4, c4, A4, lost4, z1, rfl, HZ1, HK4, HS5, HI4, HF4⟩
                  case measure => simp only [intOf]; rw [HZ1.out]; exact MS.out
            · have HS6 := Lib.hid (HS.out.over (by rw [← HZ.out]; omega))
              go_wp2
              go_step3
              exact ⟨rfl, (HJ.out _ _).2 ⟨0 + 1, M, D, 0, c, k, b, g, A, [], lost, _, _, _, _, _, _, _, _, _, _, _, _, _, _, _, _, _, _, _, _, _, _, _, _, _, _, _, _, _, _, _, _, _, _, _, _, _, _, _, _, _, _, _, _, _, _, _, _, _, _, _, _, _, _, _, _, _, _, _, _, _, _, _, _, _, _, _, _, _, _, _, _, _, _, rfl, HK, HS6, HI, HF⟩⟩
  · intro a' wr hJJ
    obtain ⟨ρ, M, D, d, c, k, b, g, A, T, lost, u4, u5, u6, u7, u11, u12, u14, u15, u16, u17, u18, u19, u20, u21, u22, u23, u24, u25, u26, u27, u28, u29, u30, u31, u32, u33, u34, u35, u36, u37, u38, u39, u40, u41, u42, u43, u44, u45, u46, u47, u48, u49, u50, u51, u52, u53, u54, u55, u56, u57, u58, u59, u60, u61, u62, u63, u64, u65, u66, u67, u68, u69, u70, u71, u72, u73, u74, u75, u76, u77, u78, u79, u80, u81, ha, HK, HS, HI', HF⟩ := (HJ.out _ _).1 hJJ
    clear hJJ
    subst ha
    clear HI HT HR
    have HI := Lib.hid HI'.out
    clear HI'
    go_wp2_with fail
    refine (drain_any HE.out (rch_closed n E rts) HK.out HS.out HI.out).mono ?_
    rintro e w2 ⟨rfl, M', D', A', c', lost', hK, hS, hI, hF⟩
    have HK1 := Lib.hid hK
    have HS1 := Lib.hid hS
    have HI1 := Lib.hid hI
    have HF1 := Lib.hid (HF.out.trans hF)
    clear hK hS hI hF HK HS HI HF
    have c0 := HK1.out.c0
    have c3 := HK1.out.c3
    cases lost'
    · obtain ⟨r1, r2⟩ := HS1.out.all
      rw [r2] at HI1
      have HR1 := Lib.hid r1
      have HRO : Hid (ρ = 0 ∨ R < (popM n M' : Int)) := Lib.hid (by
        by_cases e : ρ = 0
        · exact .inl e
        · exact .inr (HS1.out.rhoR (by omega)))
      clear r1 r2
      go_wp2
      try simp only [Exit.jump]
      go_ret2
      exact ⟨b, g, M', ρ, rfl, HK1.out.bb, HK1.out.gb, HK1.out.bm, HR1.out, HI1.out, HF1.out, by first | exact HRO.out | exact .inl rfl⟩
    · have f3 := HK1.out.hd.free 3
      have HS2 := Lib.hid HS1.out.again
      have hρ : ρ + 1 ≤ 4096 := Nat.le_trans HS2.out.rho (Nat.le_trans (popM_le _ _) hle)
      have hs3 := only_set0 (w := w2) (g := k) (i := 3) (.bool false)
      have HK2 : Hid (KM (w2.setCell ⟨k, 3, none⟩ (.bool false)) base k b g n M' A' 0 c' [] R false) := Lib.hid (HK1.out.head (HK1.out.hd.set (i := 3) (.bool false)) hs3 HK1.out.own)
      have hb3 := below_row hs3 HK1.out.size (fun r e => by have := Option.some.inj e; have := HK1.out.kb; omega)
      have HI2 := Lib.hid (HE.out.keep _ _ _ HI1.out hb3)
      have HF2 := Lib.hid (HF1.out.trans (fx_below row hb3))
      clear hs3 hb3 HS1 HI1 HF1
      obtain ⟨z0, hz0⟩ : ∃ z0, z0 = nextM n M' 0 := ⟨_, rfl⟩
      have HZ0 := Lib.hid hz0
      clear hz0
      go_wp2_with fail
      refine (next_any HK2.out.bm _).mono ?_
      rintro e w_ ⟨rfl, rfl⟩
      rw [← HZ0.out]
      clear c0 c3 f3 HK1
      go_wp2
      go_loopw [14] (fun v wz => ∃ (pp M D c : Nat) (A : Option Addr) (lost : Bool) (z : Int), v = .int .i64 z ∧ Hid (z = nextM n M pp) ∧ Hid (KM wz base k b g n M A 0 c [] R lost) ∧ Hid (St n E (fun i => ∃ y ∈ rts, 0 ≤ y ∧ y < (n : Int) ∧ y.toNat = i) (Rch n E rts) R (ρ + 1) pp none M D [] lost) ∧ Hid (Inv D wz) ∧ Hid (Fx base row w wz)) (fun v _ => upm n (intOf v))
      case atStart => exact ⟨0, M', D', c', A', false, z0, rfl, HZ0, HK2, HS2, HI2, HF2⟩
      case round =>
        clear HZ0 HK2 HS2 HI2 HF2
        obtain ⟨pp, M, D, c, A, lost, z, rfl, HZ, HK, HS, HI, HF⟩ := hrel
        by_cases h0 : z ≥ 0
        · obtain ⟨j, rfl⟩ : ∃ j : Nat, z = j := ⟨z.toNat, by omega⟩
          obtain ⟨q1, q2, q3, q4⟩ := HS.out.cursor HZ.out.symm
          have HS1 := Lib.hid q4
          have HBIT := Lib.hid q3
          have HJN := Lib.hid q2
          have hj4 : j < 4096 := by omega
          clear q1 q2 q3 q4 HS
          go_wp2_with fail
          refine (HE.out.call _ D j HJN.out HK.out.size HI.out).mono ?_
          rintro e w3 ⟨A2, d2, c2, rfl, hR, hG, hI2⟩
          have hd2 : d2 ≤ 100000 := by rw [← hR.1]; exact HE.out.len j
          have HRK := Lib.hid (hR.rdK HK.out)
          have HK2 := Lib.hid (HK.out.grown hG (fun r e => HE.out.row r e))
          have HI2 := Lib.hid hI2
          have HF2 := Lib.hid (HF.out.trans (fx_grown hG HK.out.size))
          clear hR hG hI2 HK HI HF
          go_wp2
          go_loopw [71] (fun v wz => ∃ (q M1 d1 c1 : Nat) (A1 : Option Addr) (T1 : List Int) (lost1 : Bool), q ≤ d2 ∧ v = .int .i64 q ∧ Hid (KM wz base k b g n M1 A1 d1 c1 T1 R lost1) ∧ Hid (St n E (fun i => ∃ y ∈ rts, 0 ≤ y ∧ y < (n : Int) ∧ y.toNat = i) (Rch n E rts) R (ρ + 1) (j + 1) (some j) M1 D T1 lost1) ∧ Hid (M1.testBit j = true) ∧ Hid (∀ x, x < q → 0 ≤ (E j).getD x 0 → (E j).getD x 0 < (n : Int) → M1.testBit ((E j).getD x 0).toNat = true) ∧ Hid (Inv (sb D j) wz) ∧ Hid (RdK wz k g (Value.slice A1 d1 c1).ownBlock A2 d2 (E j)) ∧ Hid (Fx base row w wz)) (fun v _ => d2 - (intOf v).toNat)
          case atStart => exact ⟨0, M, 0, c, A, [], lost, Nat.zero_le _, rfl, HK2, HS1, HBIT, Lib.hid (fun x hx => by omega), HI2, HRK, HF2⟩
          case round =>
            clear HK2 HS1 HBIT HI2 HRK HF2
            obtain ⟨q, M1, d1, c1, A1, T1, lost1, hq, rfl, HK, HS, HBIT, HMK, HI, HRK, HF⟩ := hrel
            by_cases hqd : q < d2
            · have hdl := HK.out.own.1
              have hpl := HS.out.len
              have hpn := popM_le n M1
              have hd5 : d1 ≤ 5000 := by omega
              clear hdl hpl hpn
              obtain ⟨rb, off, rfl, hrb, _, _, _, hcell⟩ := HRK.out.2 (by omega)
              have hx := hcell q hqd
              have hmem := mem_getD (xs := E j) (q := q) (by rw [HRK.out.1]; exact hqd)
              have hsx := fun y0 yn => rch_step (HS.out.sound j HBIT.out) hmem y0 yn
              clear hcell hmem
              obtain ⟨x, hxx⟩ : ∃ x, x = (E j).getD q 0 := ⟨_, rfl⟩
              rw [← hxx] at hx hsx
              have HX := Lib.hid hxx
              have HS3 := Lib.hid (HS.out.come x hsx)
              have HB3 : Hid ((setM n M1 x).testBit j = true) := Lib.hid (setM_mono HBIT.out)
              have HM3 : Hid (∀ x', x' < q + 1 → 0 ≤ (E j).getD x' 0 → (E j).getD x' 0 < (n : Int) → (setM n M1 x).testBit ((E j).getD x' 0).toNat = true) := Lib.hid fun x' hx' y0 yn => by
                by_cases e : x' = q
                · rw [e] at y0 yn ⊢
                  rw [← HX.out] at y0 yn ⊢
                  exact setM_marks y0 yn
                · exact setM_mono (HMK.out x' (by omega) y0 yn)
              clear hxx hsx
              go_wp2_with fail
              refine (come_any HK.out x hd5).mono ?_
              rintro e w3 ⟨rfl, A3, d3, c3, hK3, hB3, hAP⟩
              have HK3 := Lib.hid hK3
              have HI3 := Lib.hid (HE.out.keep _ _ _ HI.out hB3)
              have HR3 := Lib.hid (HRK.out.come hB3 hAP)
              have HF3 := Lib.hid (HF.out.trans (fx_below row hB3))
              clear hK3 hB3 hAP hx
              go_wp2
              go_roundw
              case rel => exact ⟨q + 1, _, d3, c3, A3, _, _, by omega, by go_num, HK3, HS3, HB3, HM3, HI3, HR3, HF3⟩
              case measure => simp [intOf]; omega
            · have hqe : q = d2 := by omega
              have HS4 := Lib.hid (HS.out.fin HBIT.out (fun y hy y0 yn => by
                obtain ⟨x, hx, e⟩ := getD_mem hy
                have := HMK.out x (by rw [hqe, ← HRK.out.1]; exact hx)
                rw [e] at this
                exact this y0 yn))
              clear hqe HRK HMK HS
              go_wp2_with fail
              refine (drain_any HE.out (rch_closed n E rts) HK.out HS4.out HI.out).mono ?_
              rintro e w4 ⟨rfl, M4, D4, A4, c4, lost4, hK4, hS4, hI4, hF4⟩
              have HK4 := Lib.hid hK4
              have HS5 := Lib.hid hS4
              have HI4 := Lib.hid hI4
              have HF4 := Lib.hid (HF.out.trans hF4)
              clear hK4 hS4 hI4 hF4 HK HS4 HI HF
              have c0 := HK4.out.c0
              have MS := Lib.hid (upm_next HS5.out.lt HJN.out)
              obtain ⟨z1, hz1⟩ : ∃ z1, z1 = nextM n M4 ((j + 1 : Nat) : Int) := ⟨_, rfl⟩
              have HZ1 := Lib.hid hz1
              clear hz1
              go_wp2_with fail
              rw [show ((j : Int) + 1) = ((j + 1 : Nat) : Int) by omega]
              refine (next_any HK4.out.bm _).mono ?_
              rintro e w_ ⟨rfl, rfl⟩
              rw [← HZ1.out]
              clear c0
              go_wp2
              go_roundw
              case rel => exact ⟨j + 1, M4, D4, c4, A4, lost4, z1, rfl, HZ1, HK4, HS5, HI4, HF4⟩
              case measure => simp only [intOf]; rw [HZ1.out]; exact MS.out
        · have HS6 := Lib.hid (HS.out.over (by rw [← HZ.out]; omega))
          go_wp2
          go_step3
          exact ⟨rfl, (HJ.out _ _).2 ⟨ρ + 1, M, D, 0, c, k, b, g, A, [], lost, _, _, _, _, _, _, _, _, _, _, _, _, _, _, _, _, _, _, _, _, _, _, _, _, _, _, _, _, _, _, _, _, _, _, _, _, _, _, _, _, _, _, _, _, _, _, _, _, _, _, _, _, _, _, _, _, _, _, _, _, _, _, _, _, _, _, _, _, _, _, _, _, _, _, rfl, HK, HS6, HI, HF⟩, by rw [HMU.out, HMU.out]; simp [intOf]; omega⟩
end Go.Proofs.YtdfpmgpdkajhkaaDoor
