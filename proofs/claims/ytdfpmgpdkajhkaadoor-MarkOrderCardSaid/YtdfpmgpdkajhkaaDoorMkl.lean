/-
  The law MarkOrder's function of edges: a row, the last first. Premises in each theorem.
-/
import Derived.Test.YtdfpmgpdkajhkaaDoorMki
namespace Go.Proofs.YtdfpmgpdkajhkaaDoor
open Go.RowKit
theorem take_more {xs : List Int} {k : Nat} (h : k < xs.length) : xs.take k ++ [xs.getD k 0] = xs.take (k + 1) := by
  rw [List.take_add_one, List.getElem?_eq_getElem h, List.getD_eq_getElem?_getD, List.getElem?_eq_getElem h]
  rfl
theorem Own.rdE {w w' : World} {base b A n c xs} (h : Own w' b A n c xs) (hb : w.heap.size ≤ b) : RdE w w' base A n xs :=
  ⟨h.1, fun hp => by
    obtain ⟨g, e, h1, h2, _, hc⟩ := h.at hp
    exact ⟨g, 0, e, .inr (by omega), h2, fun i hi => by rw [Nat.zero_add]; exact hc i hi⟩⟩
theorem rvs_getD {xs : List Int} {j k : Nat} (h : j + 1 + k = xs.length) : xs.reverse.getD k 0 = xs.getD j 0 := by
  rw [List.getD_eq_getElem?_getD, List.getD_eq_getElem?_getD, List.getElem?_reverse (by omega), show xs.length - 1 - k = j by omega]
set_option maxRecDepth 100000 in
set_option maxHeartbeats 2000000 in
theorem order1_any {w : World} {eb B n c Q : Nat} {A : Option Addr} {rows : List (List Int)} (h : InvBy eb B A n c rows Q w) (hB : B ≤ w.heap.size) (hlen : ∀ k, (rows.getD k []).length ≤ 100000) (k : Nat) (hk : k ≤ 1000000) :
    Calls Tryd.prog 51 #[.int .i64 (k : Nat), .pointer (some ⟨eb, 0, none⟩)] w fun e w' => (∃ A' d c', e = .returned (.slice A' d c') ∧ RdE w w' B A' d (rows.getD k []).reverse) ∧ Below w.heap.size w w' := by
  have H := Lib.hid h
  have HL := Lib.hid hlen
  have h1 := h.1
  have hen := fun args w => enters_of Tryd.func69 (by kernel_rfl) rfl args w
  clear h hlen
  go_enter Tryd.func51, Tryd.ntmps51
  go_wp2_with fail
  refine (by_any _ _ _ _).mono ?_
  rintro e w1 ⟨rfl, rfl⟩
  have hb1 := (Below.refl w.heap.size w).alloc (Nat.le_refl _) (.cells #[.slice A n c] 59)
  have HI := Lib.hid (inv_by (c := c) H.out.2.2 hB)
  have HB1 := Lib.hid hb1
  clear hb1 h1
  have HSZ : Hid (w.heap.size + 1 = (w.alloc (.cells #[.slice A n c] 59)).heap.size) := Lib.hid (by simp)
  rw [HSZ.out] at HI
  generalize w.alloc (.cells #[.slice A n c] 59) = w1 at HI HB1 HSZ
  go_wp2_with fail
  refine (by1_any HI.out k hk).mono ?_
  rintro e w_ ⟨⟨A', d, c', rfl, hr⟩, rfl⟩
  have hd := hr.1
  have hd1 := HL.out k
  have HR := Lib.hid hr
  rw [hd] at hd1
  obtain ⟨xs, hxs⟩ : ∃ xs, xs = rows.getD k [] := ⟨_, rfl⟩
  rw [← hxs] at hd HR
  have HXS := Lib.hid hxs
  have HX := Lib.hid hd
  clear hxs
  clear hr hen hd
  go_wp2
  go_loopw [4, 13] (fun b v wr => ∃ (q c2 : Nat) (A2 : Option Addr), q ≤ d ∧ b = .slice A2 q c2 ∧ v = .int .i64 q ∧ Hid (Own wr w1.heap.size A2 q c2 (xs.reverse.take q)) ∧ Hid (Below w1.heap.size w1 wr)) (fun _ v _ => d - (intOf v).toNat)
  case atStart => exact ⟨0, 0, none, Nat.zero_le _, rfl, rfl, Lib.hid (Own.nil _ _), Lib.hid (Below.refl _ _)⟩
  case round =>
    obtain ⟨q, c2, A2, hq, rfl, rfl, HO, HB⟩ := hrel
    by_cases hqd : q < d
    · obtain ⟨j, hj⟩ : ∃ j : Nat, j + 1 + q = d := ⟨d - 1 - q, by omega⟩
      obtain ⟨g, off, rfl, hg, hcell⟩ := HR.out.2 (by omega)
      have hx : wr.cell? ⟨g, off + j, none⟩ = some (.int .i64 (xs.getD j 0)) := (HB.out.cell (p := ⟨g, off + j, none⟩) hg).trans (hcell j (by omega))
      have ei := rvs_getD (xs := xs) (j := j) (k := q) (by rw [HX.out]; exact hj)
      rw [← ei] at hx
      have HEI : Hid (xs.reverse.take q ++ [xs.reverse.getD q 0] = xs.reverse.take (q + 1)) := Lib.hid (take_more (by rw [List.length_reverse, HX.out]; exact hqd))
      generalize xs.reverse.getD q 0 = y at hx HEI
      have hjj : (d : Int) - 1 - (q : Int) = (j : Int) := by omega
      clear hcell ei
      go_wp2_with (at_builtin; refine app_int rfl _ _ rfl _ w1.heap.size A2 q c2 (xs.reverse.take q) y rfl rfl HO.out (by omega) HB.out.size ?_; intro A3 c3 w4 hO hg4; have HO4 := Lib.hid hO; have B4 := Lib.hid (below_own HB.out HO.out (Nat.le_refl _) HB.out.size hg4); clear hO hg4)
      rw [HEI.out] at HO4
      go_roundw
      case rel => exact ⟨q + 1, c3, A3, by omega, by go_num, by go_num, HO4, B4⟩
      case measure => simp [intOf]; omega
    · have hqe : q = d := by omega
      go_wp2
      go_ret
      refine ⟨⟨_, _, _, rfl, ?_⟩, HB1.out.trans (HB.out.mono HB1.out.size)⟩
      have := HO.out
      rw [hqe, List.take_of_length_le (by rw [List.length_reverse, HX.out]; omega)] at this
      rw [hqe]
      rw [← HXS.out]
      exact this.rdE HB1.out.size
theorem inv_order {w : World} {eb n c : Nat} {A : Option Addr} {rows : List (List Int)} (h : Blk w eb #[.slice A n c] 59) (hG : Grid w eb A n rows) (hB : eb ≤ w.heap.size) : InvBy eb w.heap.size A n c rows 0 w := ⟨h.cell rfl, h.lt, hG.more hB⟩
theorem order_edges {eb B n c N : Nat} {A : Option Addr} {rows : List (List Int)} (hN : N ≤ 4096) (hlen : ∀ k, (rows.getD k []).length ≤ 100000) :
    Edges 51 #[.pointer (some ⟨eb, 0, none⟩)] (fun k => (rows.getD k []).reverse) N B none (InvBy eb B A n c rows) where
  en := fun args w => enters_of Tryd.func51 (by kernel_rfl) rfl args w
  call := fun w Q k hk hB h => (order1_any h hB hlen k (by omega)).mono fun e w' ⟨⟨A', d, c', he, hr⟩, hb⟩ =>
    ⟨A', d, c', he, hr, ⟨hb.os, hb.tape, hb.output, hb.size, fun j hj _ => hb.block j hj⟩, h.below (hb.mono hB)⟩
  keep := fun Q w w' h hb => h.below hb
  row := fun r e => by cases e
  len := fun k => by rw [List.length_reverse]; exact hlen k
end Go.Proofs.YtdfpmgpdkajhkaaDoor
