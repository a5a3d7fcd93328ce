/-
  Contracts of package mark: come, over the predicate KM: a marker in block k, over a map of bits and a list of its own. Premises in each theorem.
-/
import Derived.Test.YtdfpmgpdkajhkaaDoorBits5
import Derived.Test.YtdfpmgpdkajhkaaDoorNm
import Derived.Test.YtdfpmgpdkajhkaaDoorOw
namespace Go.Proofs.YtdfpmgpdkajhkaaDoor
open Go.RowKit
/-- A marker in block k: its map of n places in b and g, the bits of M; still to be gone through: T; room R. -/
structure KM (w : World) (base k b g n M : Nat) (A : Option Addr) (d c : Nat) (T : List Int) (R : Int) (lost : Bool) : Prop where
  hd : Blk w k #[.pointer (some ⟨b, 0, none⟩), .slice A d c, .int .i64 R, .bool lost] 91
  bm : BM w b g n M
  own : Own w base A d c T
  kb : base ≤ k
  bb : base ≤ b
  gb : base ≤ g
  pos : 0 < base
theorem KM.size {w : World} {base k b g n M d c : Nat} {A : Option Addr} {T : List Int} {R : Int} {lost : Bool} (h : KM w base k b g n M A d c T R lost) : base ≤ w.heap.size := Nat.le_trans h.kb (Nat.le_of_lt h.hd.lt)
/-- All of it as it was where the blocks from base on are. -/
theorem KM.grown {w w' : World} {base k b g n M d c : Nat} {A : Option Addr} {T : List Int} {R : Int} {lost : Bool} (h : KM w base k b g n M A d c T R lost) {row : Option Nat} (hg : w.grownBy w' row) (hr : ∀ r, row = some r → 0 < r ∧ r < base) : KM w' base k b g n M A d c T R lost := by
  have ne : ∀ j, base ≤ j → some j ≠ row := fun j hj e => by have := (hr j e.symm).2; omega
  have n0 : some 0 ≠ row := fun e => by have := (hr 0 e.symm).1; omega
  refine ⟨h.hd.grown hg (ne k h.kb), h.bm.grown hg n0 (ne b h.bb) (ne g h.gb), ⟨h.own.1, ?_⟩, h.kb, h.bb, h.gb, h.pos⟩
  refine h.own.2.kept hg ?_
  rcases hb : (Value.slice A d c).ownBlock with _ | j
  · exact .inl rfl
  · exact .inr (ne j (h.own.2.lt j hb).1)
/-- What come leaves. -/
def Come (w w' : World) (base k b g n M : Nat) (A : Option Addr) (d c : Nat) (T : List Int) (R : Int) (lost : Bool) (x : Int) : Prop :=
  ∃ A' d' c', KM w' base k b g n (setM n M x) A' d' c' (comeT n M T R x) R (comeL n M T R lost x) ∧ Below base w w' ∧
    (∀ rb, rb < w.heap.size → rb ≠ k → rb ≠ g → some rb ≠ (Value.slice A d c).ownBlock → w'.heap[rb]? = w.heap[rb]? ∧ some rb ≠ (Value.slice A' d' c').ownBlock)
/-- 'x = append(x, y)', with where the new row lies. -/
theorem app_int_at {ops : Array Oper} {rest : List Oper} {o : Oper} {a : Act} {Q : Exit → Act → World → Prop} (hgd : o.guard = none) (s x : Operand)
    (ho : o.op = .call { callee := .builtin .append, args := #[s, x], argTypes := #[28, 28] }) (w : World) (base : Nat) (A : Option Addr) (n c : Nat) (xs : List Int) (y : Int)
    (hs : a.eval s = .slice A n c) (hx : a.eval x = .slice (some ⟨w.heap.size, 0, none⟩) 1 1) (hown : Own w base A n c xs) (hlen : n ≤ 1000000) (hbase : base ≤ w.heap.size)
    (h : ∀ A' c' w', Own w' base A' (n + 1) c' (xs ++ [y]) → w.grownBy w' (Value.slice A n c).ownBlock → (∀ rb, rb < w.heap.size → some rb ≠ (Value.slice A n c).ownBlock → some rb ≠ (Value.slice A' (n + 1) c').ownBlock) → wpList Tryd.prog ops Q rest (a.put o.dst (.slice A' (n + 1) c')) w') :
    wpList Tryd.prog ops Q (o :: rest) a (w.alloc (.cells #[.int .i64 y] 3)) := by
  obtain ⟨i, hi, h0, h1, h2⟩ := info_parts info3
  refine wpList_append_own_at (P := Tryd.prog) _ hgd s x 28 ho base 3 i (.int .i64 0) 1 8 Tryd.underlying28 hi h0 h1 h2 rfl (by decide) (.slice A n c) n _ hs (hown.2.alloc _) ⟨w.heap.size, 0, none⟩ 1 1 [.int .i64 y] hx rfl
    (fun j u hu => ?_) (fun u hu => by simp at hu; subst hu; rfl) (by unfold maxLen; omega) (by omega) (by simp; omega) (fun v' w' h1 h2 _ h4 => ?_)
  · rcases j with _ | j
    · simp at hu
      subst hu
      show (w.alloc _).cell? ⟨w.heap.size, 0, none⟩ = _
      exact (Blk.new w #[.int .i64 y] 3).cell rfl
    · simp at hu
  · have hsz : w.grownBy w' (Value.slice A n c).ownBlock := only_trans (World.grownBy_alloc w _ _) h2
    have hform : ∃ A' c', v' = .slice A' (n + 1) c' := by
      rcases h1.2 with ⟨_, q⟩ | ⟨g, cap, cur, hv, _⟩
      · omega
      · exact ⟨_, _, hv⟩
    obtain ⟨A', c', rfl⟩ := hform
    refine h A' c' w' ⟨by simp [hown.1], ?_⟩ hsz (fun rb hrb hne => ?_)
    · simpa using h1
    · rcases h4 with e | e
      · rw [e]; exact hne
      · rw [e]
        intro q
        have := Option.some.inj q
        simp at this
        omega
set_option maxRecDepth 100000 in
set_option maxHeartbeats 2000000 in
theorem come_old {w : World} {base k b g n M d c : Nat} {A : Option Addr} {T : List Int} {R : Int} {lost : Bool} (h : KM w base k b g n M A d c T R lost) (x : Int) (hn : newB n M x = false) :
    Calls Tryd.prog 67 #[.pointer (some ⟨k, 0, none⟩), .int .i64 x] w fun e w' => e = .returned (.tuple #[]) ∧ BM w' b g n M ∧ w.grownBy w' (some g) := by
  have H := Lib.hid h
  have HN := Lib.hid hn
  have c0 : w.cell? ⟨k, 0, none⟩ = some (.pointer (some ⟨b, 0, none⟩)) := h.hd.cell rfl
  clear h hn
  go_enter Tryd.func67, Tryd.ntmps67
  go_wp2_with fail
  refine (set_any H.out.bm x).mono ?_
  rintro e w1 ⟨rfl, hM, hG⟩
  rw [setM_old HN.out] at hM
  rw [HN.out]
  have HM := Lib.hid hM
  have HG := Lib.hid hG
  clear hM hG
  go_wp2
  refine bodyPost_ret (results_none rfl _ _ _) rfl ?_
  exact ⟨rfl, HM.out, HG.out⟩
theorem only_below {w w' : World} (h : Below w.heap.size w w') (row : Option Nat) : w.grownBy w' row := ⟨h.os, h.tape, h.output, h.size, fun k hk _ => h.block k hk⟩
theorem KM.words {w w' : World} {base k b g n M M' d c : Nat} {A : Option Addr} {T : List Int} {R : Int} {lost : Bool} (h : KM w base k b g n M A d c T R lost) (hM : BM w' b g n M') (hg : w.grownBy w' (some g)) : KM w' base k b g n M' A d c T R lost :=
  ⟨h.hd.grown hg (fun e => h.hd.ne_ h.bm.ws (by decide) (Option.some.inj e)), hM, h.own.words h.bm hg, h.kb, h.bb, h.gb, h.pos⟩
/-- Its head written anew. -/
theorem KM.head {w w' : World} {base k b g n M d c d' c' : Nat} {A A' : Option Addr} {T T' : List Int} {R : Int} {lost lost' : Bool} (h : KM w base k b g n M A d c T R lost) (hd : Blk w' k #[.pointer (some ⟨b, 0, none⟩), .slice A' d' c', .int .i64 R, .bool lost'] 91)
    (hb : w.grownBy w' (some k)) (ho : Own w base A' d' c' T') : KM w' base k b g n M A' d' c' T' R lost' := by
  refine ⟨hd, h.bm.grown hb (fun e => by have := Option.some.inj e; have := h.pos; have := h.kb; omega) (fun e => h.hd.ne_ h.bm.hd (by decide) (Option.some.inj e).symm) (fun e => h.hd.ne_ h.bm.ws (by decide) (Option.some.inj e).symm), ?_, h.kb, h.bb, h.gb, h.pos⟩
  refine ho.kept hb fun g' e t cs hh => ?_
  have e := Option.some.inj e
  subst e
  have hk := h.hd
  unfold Blk at hk
  rw [hk] at hh
  injection hh with hh
  injection hh with _ q
  subst q
  decide
theorem own_apart {w : World} {base d c b : Nat} {A : Option Addr} {T : List Int} {cs : Array Value} {t : TypeId} (ho : Own w base A d c T) (hB : Blk w b cs t) (ht : t ≠ 3) : some b ≠ (Value.slice A d c).ownBlock := own_blk ho hB ht
set_option maxRecDepth 100000 in
set_option maxHeartbeats 2000000 in
theorem come_full {w : World} {base k b g n M d c : Nat} {A : Option Addr} {T : List Int} {R : Int} {lost : Bool} (h : KM w base k b g n M A d c T R lost) (x : Int) (hn : newB n M x = true) (hR : R ≤ (d : Int)) :
    Calls Tryd.prog 67 #[.pointer (some ⟨k, 0, none⟩), .int .i64 x] w fun e w' => e = .returned (.tuple #[]) ∧ ∃ w1 w2, KM w1 base k b g n (setM n M x) A d c T R lost ∧ w.grownBy w1 (some g) ∧ Below w1.heap.size w1 w2 ∧ w' = w2.setCell ⟨k, 3, none⟩ (.bool true) := by
  have H := Lib.hid h
  have HN := Lib.hid hn
  have c0 : w.cell? ⟨k, 0, none⟩ = some (.pointer (some ⟨b, 0, none⟩)) := h.hd.cell rfl
  clear h hn
  go_enter Tryd.func67, Tryd.ntmps67
  go_wp2_with fail
  refine (set_any H.out.bm x).mono ?_
  rintro e w1 ⟨rfl, hM, hG⟩
  rw [HN.out]
  have HM := Lib.hid (H.out.words hM hG)
  have HG := Lib.hid hG
  clear hM hG c0
  have c1 : w1.cell? ⟨k, 1, none⟩ = some (.slice A d c) := HM.out.hd.cell rfl
  have c2 : w1.cell? ⟨k, 2, none⟩ = some (.int .i64 R) := HM.out.hd.cell rfl
  have lk := HM.out.hd.lt
  have hq := bw_cell w1
  go_wp2_with fail
  refine wp_region_bw (by kernel_rfl) (by kernel_rfl) ?_
  repeat go_big_quiet_step (fail)
  with_reducible refine wpQuiet_nil ?_
  rintro ⟨w2, hb⟩
  dsimp only
  have HB := Lib.hid hb
  have hd2 := HM.out.hd.below hb lk
  have c3 : w2.cell? ⟨k, 3, none⟩ = some (.bool lost) := hd2.cell rfl
  have f3 := hd2.free 3
  have dR : decide ((d : Int) ≥ R) = true := decide_eq_true hR
  clear hq c1 c2 lk hb hd2
  go_wp2
  refine bodyPost_ret (results_none rfl _ _ _) rfl ?_
  exact ⟨rfl, w1, w2, HM.out, HG.out, HB.out, rfl⟩
set_option maxRecDepth 100000 in
set_option maxHeartbeats 2000000 in
theorem come_room {w : World} {base k b g n M d c : Nat} {A : Option Addr} {T : List Int} {R : Int} {lost : Bool} (h : KM w base k b g n M A d c T R lost) (x : Int) (hn : newB n M x = true) (hR : (d : Int) < R) (hd : d ≤ 5000) :
    Calls Tryd.prog 67 #[.pointer (some ⟨k, 0, none⟩), .int .i64 x] w fun e w' => e = .returned (.tuple #[]) ∧ ∃ w1 w2 w3 A' c', KM w1 base k b g n (setM n M x) A d c T R lost ∧ w.grownBy w1 (some g) ∧ Below w1.heap.size w1 w2 ∧ Own w3 base A' (d + 1) c' (T ++ [x]) ∧ w2.grownBy w3 (Value.slice A d c).ownBlock ∧
      (∀ rb, rb < w2.heap.size → some rb ≠ (Value.slice A d c).ownBlock → some rb ≠ (Value.slice A' (d + 1) c').ownBlock) ∧ w' = w3.setCell ⟨k, 1, none⟩ (.slice A' (d + 1) c') := by
  have H := Lib.hid h
  have HN := Lib.hid hn
  have c0 : w.cell? ⟨k, 0, none⟩ = some (.pointer (some ⟨b, 0, none⟩)) := h.hd.cell rfl
  clear h hn
  go_enter Tryd.func67, Tryd.ntmps67
  go_wp2_with fail
  refine (set_any H.out.bm x).mono ?_
  rintro e w1 ⟨rfl, hM, hG⟩
  rw [HN.out]
  have HM := Lib.hid (H.out.words hM hG)
  have HG := Lib.hid hG
  clear hM hG c0
  have c1 : w1.cell? ⟨k, 1, none⟩ = some (.slice A d c) := HM.out.hd.cell rfl
  have c2 : w1.cell? ⟨k, 2, none⟩ = some (.int .i64 R) := HM.out.hd.cell rfl
  have lk := HM.out.hd.lt
  have hq := bw_cell w1
  go_wp2_with fail
  refine wp_region_bw (by kernel_rfl) (by kernel_rfl) ?_
  repeat go_big_quiet_step (fail)
  with_reducible refine wpQuiet_nil ?_
  rintro ⟨w2, hb⟩
  dsimp only
  have HB := Lib.hid hb
  have HO2 := Lib.hid (HM.out.own.up hb)
  have hd2 := Lib.hid (HM.out.hd.below hb lk)
  have hsz : base ≤ w2.heap.size := Nat.le_trans HM.out.size hb.size
  have c1 : w2.cell? ⟨k, 1, none⟩ = some (.slice A d c) := hd2.out.cell rfl
  have dR : decide ((d : Int) ≥ R) = false := decide_eq_false (by omega)
  clear hq c2 lk hb
  go_wp2_with (at_builtin; refine app_int_at rfl _ _ rfl _ base A d c T x rfl rfl HO2.out (by omega) hsz ?_; intro A' c' w3 hO hg hap; have HO3 := Lib.hid hO; have HG3 := Lib.hid hg; have HAP := Lib.hid hap; have hd3 := hd2.out.grown hg (own_blk HO2.out hd2.out (by decide)); clear hO hg hap c1; have c1 : w3.cell? ⟨k, 1, none⟩ = some (.slice A d c) := hd3.cell rfl; have f1 := hd3.free 1; clear hd3)
  go_end0
  exact ⟨rfl, w1, w2, w3, A', c', HM.out, HG.out, HB.out, HO3.out, HG3.out, HAP.out, rfl⟩
theorem below_row {B : Nat} {w w' : World} {row : Option Nat} (h : w.grownBy w' row) (hs : B ≤ w.heap.size) (hr : ∀ r, row = some r → B ≤ r) : Below B w w' := (Below.refl B w).grown h hs hr
theorem own_ge {w : World} {base d c : Nat} {A : Option Addr} {T : List Int} (h : Own w base A d c T) : ∀ r, (Value.slice A d c).ownBlock = some r → base ≤ r := fun r e => (h.2.lt r e).1
/-- come. -/
theorem come_any {w : World} {base k b g n M d c : Nat} {A : Option Addr} {T : List Int} {R : Int} {lost : Bool} (h : KM w base k b g n M A d c T R lost) (x : Int) (hd : d ≤ 5000) :
    Calls Tryd.prog 67 #[.pointer (some ⟨k, 0, none⟩), .int .i64 x] w fun e w' => e = .returned (.tuple #[]) ∧ Come w w' base k b g n M A d c T R lost x := by
  have hlen := h.own.1
  cases hn : newB n M x
  · refine (come_old h x hn).mono ?_
    rintro e w' ⟨rfl, hM, hG⟩
    have hb := below_row hG h.size (fun r e => by have := Option.some.inj e; have := h.gb; omega)
    refine ⟨rfl, A, d, c, ?_, hb, fun rb hrb h1 h2 h3 => ⟨hG.block rb hrb (fun e => h2 (Option.some.inj e)), h3⟩⟩
    unfold comeT comeL
    rw [hn, setM_old hn]
    exact h.words hM hG
  · by_cases hR : R ≤ (d : Int)
    · refine (come_full h x hn hR).mono ?_
      rintro e w' ⟨rfl, w1, w2, hK, hG, hB, rfl⟩
      have hs := only_set0 (w := w2) (g := k) (i := 3) (.bool true)
      have hb1 := below_row hG h.size (fun r e => by have := Option.some.inj e; have := h.gb; omega)
      have hb2 := (hb1.trans (hB.mono hK.size))
      have hb3 := hb2.trans (below_row hs (Nat.le_trans hK.size hB.size) (fun r e => by have := Option.some.inj e; have := h.kb; omega))
      have hK2 := hK.grown (only_below hB none) (fun r e => by cases e)
      refine ⟨rfl, A, d, c, ?_, hb3, fun rb hrb h1 h2 h3 => ⟨?_, h3⟩⟩
      · unfold comeT comeL
        rw [hn, if_pos rfl, if_pos rfl, hlen, if_pos hR, if_pos hR]
        exact hK2.head (hK2.hd.set (i := 3) (.bool true)) hs (hK2.own)
      · rw [Below.heap_setCell _ _ _ _ h1, hB.block rb (Nat.lt_of_lt_of_le hrb hG.size), hG.block rb hrb (fun e => h2 (Option.some.inj e))]
    · refine (come_room h x hn (by omega) hd).mono ?_
      rintro e w' ⟨rfl, w1, w2, w3, A', c', hK, hG, hB, hO, hG3, hAP, rfl⟩
      have hs := only_set0 (w := w3) (g := k) (i := 1) (.slice A' (d + 1) c')
      have hb1 := below_row hG h.size (fun r e => by have := Option.some.inj e; have := h.gb; omega)
      have hb2 := (hb1.trans (hB.mono hK.size))
      have hz2 := Nat.le_trans hK.size hB.size
      have hK2 := hK.grown (only_below hB none) (fun r e => by cases e)
      have hb3 := hb2.trans (below_row hG3 hz2 (own_ge hK2.own))
      have hz3 := Nat.le_trans hz2 hG3.size
      have hb4 := hb3.trans (below_row hs hz3 (fun r e => by have := Option.some.inj e; have := h.kb; omega))
      have hd3 := hK2.hd.grown hG3 (own_blk hK2.own hK2.hd (by decide))
      have hbm3 := hK2.bm.own hK2.own h.pos hG3
      refine ⟨rfl, A', d + 1, c', ?_, hb4, fun rb hrb h1 h2 h3 => ⟨?_, ?_⟩⟩
      · unfold comeT comeL
        rw [hn, if_pos rfl, if_pos rfl, hlen, if_neg hR, if_neg hR]
        have hK3 : KM w3 base k b g n (setM n M x) A' (d + 1) c' (T ++ [x]) R lost → KM (w3.setCell ⟨k, 1, none⟩ (.slice A' (d + 1) c')) base k b g n (setM n M x) A' (d + 1) c' (T ++ [x]) R lost := fun q => q.head (q.hd.set (i := 1) (.slice A' (d + 1) c')) hs q.own
        refine ⟨?_, ?_, ?_, h.kb, h.bb, h.gb, h.pos⟩
        · have := hd3.set (i := 1) (.slice A' (d + 1) c')
          exact this
        · exact hbm3.grown hs (fun e => by have := Option.some.inj e; have := h.pos; have := h.kb; omega) (fun e => hd3.ne_ hbm3.hd (by decide) (Option.some.inj e).symm) (fun e => hd3.ne_ hbm3.ws (by decide) (Option.some.inj e).symm)
        · refine hO.kept hs fun g' e t cs hh => ?_
          have e := Option.some.inj e
          subst e
          have hk := hd3
          unfold Blk at hk
          rw [hk] at hh
          injection hh with hh
          injection hh with _ q
          subst q
          decide
      · have hr1 : rb < w1.heap.size := Nat.lt_of_lt_of_le hrb hG.size
        have hr2 : rb < w2.heap.size := Nat.lt_of_lt_of_le hr1 hB.size
        rw [Below.heap_setCell _ _ _ _ h1, hG3.block rb hr2 h3, hB.block rb hr1, hG.block rb hrb (fun e => h2 (Option.some.inj e))]
      · exact hAP rb (Nat.lt_of_lt_of_le (Nat.lt_of_lt_of_le hrb hG.size) hB.size) h3
end Go.Proofs.YtdfpmgpdkajhkaaDoor
