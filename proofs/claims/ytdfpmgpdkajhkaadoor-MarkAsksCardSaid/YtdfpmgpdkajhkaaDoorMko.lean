/-
  The law MarkAsks' function of edges: it notes in a map what it was asked. Premises in each theorem.
-/
import Derived.Test.YtdfpmgpdkajhkaaDoorMkd
import Derived.Maps.RangeWalk
import Derived.Maps.OwnSet
namespace Go.Proofs.YtdfpmgpdkajhkaaDoor
open Go.RowKit Go.Maps
theorem askLaw : Keyed Tryd.prog 3 := int_keyed Tryd.underlying3
theorem askR_inv (v : Value) (y : DataW Unit × List MemPlace) (h : plainElem Tryd.prog 4 v = some y) : ∃ c, v = .bool c := by
  unfold plainElem at h
  rw [Tryd.underlying4] at h
  cases v <;> simp at h
  exact ⟨_, rfl⟩
/-- The map's keys are just the bits of Q. -/
def AskD (N Q : Nat) (D : DataW Unit) : Prop := (∀ x : Int, Maps.has D (.int .i64 x) = hasB Q x) ∧ Maps.size D = popM N Q
theorem askD_start (N : Nat) : AskD N 0 (.map []) := ⟨fun x => by rw [has_eq]; simp [hasB], by rw [size_eq, popM_zero]; rfl⟩
theorem AskD.put {N Q k : Nat} {D : DataW Unit} (h : AskD N Q D) (hT : Tidy D) (hk : k < N) (d : DataW Unit) : AskD N (sb Q k) (D.put (.int .i64 (k : Int)) d) := by
  have hs : setM N Q (k : Int) = sb Q k := by unfold setM; rw [if_pos (by omega)]; simp
  refine ⟨fun x => ?_, ?_⟩
  · by_cases e : x = (k : Int)
    · subst e
      rw [has_put_same hT.isMap (k := .int .i64 (k : Int)) (by trivial), hasB_nat, sb_bit]; simp
    · rw [has_put_other (fun q => e (by injection q)), h.1 x]
      unfold hasB
      rw [sb_bit]
      by_cases h0 : 0 ≤ x
      · have : ¬ x.toNat = k := by omega
        have h2 : ¬ k = x.toNat := by omega
        simp [h2]
      · simp [h0]
  · rw [size_put hT, h.1, h.2, ← hs]
    cases hb : hasB Q (k : Int)
    · rw [popM_new (by rw [newB_eq, hb]; simp; omega)]; rfl
    · rw [setM_old (by rw [newB_eq, hb]; simp)]; rfl
theorem ownsMap_tight {w : World} {b n : Nat} {D : DataW Unit} (h : w.ownsMap Tryd.prog 3 (plainElem Tryd.prog 4) b n D) : w.ownsMap Tryd.prog 3 (plainElem Tryd.prog 4) b (Maps.size D) D := by
  obtain ⟨es, clock, hb, F, _, hD⟩ := h
  refine ⟨es, clock, hb, F, ?_, hD⟩
  rw [hD, size_eq, length_read]
  exact Nat.le_refl _
theorem ownsMap_below {w w' : World} {b n B : Nat} {D : DataW Unit} (h : w.ownsMap Tryd.prog 3 (plainElem Tryd.prog 4) b n D) (hB : Below B w w') (hb : b < B) : w'.ownsMap Tryd.prog 3 (plainElem Tryd.prog 4) b n D := by
  obtain ⟨es, clock, hh, rest⟩ := h
  exact ⟨es, clock, (hB.block b hb).trans hh, rest⟩
/-- What the closure holds: a map's variable, and a list's. -/
structure InvA (eb mb vb B : Nat) (A : Option Addr) (n c : Nat) (rows : List (List Int)) (N Q : Nat) (w : World) : Prop where
  var : w.cell? ⟨vb, 0, none⟩ = some (.map (some mb))
  box : w.cell? ⟨eb, 0, none⟩ = some (.slice A n c)
  e1 : eb < mb
  e2 : mb < vb
  e3 : vb < B
  grid : Grid w eb A n rows
  map : ∃ D : DataW Unit, w.ownsMap Tryd.prog 3 (plainElem Tryd.prog 4) mb (Maps.size D) D ∧ AskD N Q D
theorem InvA.below {eb mb vb B n c N Q : Nat} {A : Option Addr} {rows : List (List Int)} {w w' : World} (h : InvA eb mb vb B A n c rows N Q w) (hb : Below B w w') : InvA eb mb vb B A n c rows N Q w' := by
  have := h.e1
  have := h.e2
  have := h.e3
  obtain ⟨D, h1, h2⟩ := h.map
  exact ⟨(hb.cell (p := ⟨vb, 0, none⟩) h.e3).trans h.var, (hb.cell (p := ⟨eb, 0, none⟩) (by dsimp only; omega)).trans h.box, h.e1, h.e2, h.e3, h.grid.below hb (by omega), D, ownsMap_below h1 hb (by omega), h2⟩
set_option maxHeartbeats 1000000 in
/-- by's closure, at a place; where its rows lie. -/
theorem by1_at {w : World} {eb B n c : Nat} {A : Option Addr} {rows : List (List Int)} (h1 : w.cell? ⟨eb, 0, none⟩ = some (.slice A n c)) (h3 : Grid w B A n rows) (k : Nat) (hk : k ≤ 1000000) :
    Calls Tryd.prog 69 #[.int .i64 (k : Nat), .pointer (some ⟨eb, 0, none⟩)] w fun e w' => (∃ A' d c', e = .returned (.slice A' d c') ∧ RdB w B A' d (rows.getD k [])) ∧ w = w' := by
  have hl := h3.1
  have d0 : decide ((k : Int) < 0) = false := decide_eq_false (by omega)
  by_cases hkn : k < n
  · obtain ⟨g, off, rfl, hg, hc⟩ := h3.2 (by omega)
    obtain ⟨A', d, c', hx, hr⟩ := hc k hkn
    have HR := Lib.hid hr
    have d1 : decide ((k : Int) ≥ (n : Int)) = false := decide_eq_false (by omega)
    clear hc hr h3 hl
    have H : Calls Tryd.prog 69 #[.int .i64 (k : Nat), .pointer (some ⟨eb, 0, none⟩)] w fun e w' => e = .returned (.slice A' d c') ∧ w = w' := by
      go_enter Tryd.func69, Tryd.ntmps69
      go_wp2
      go_ret
      exact ⟨rfl, rfl⟩
    exact H.mono fun e w' hh => ⟨⟨A', d, c', hh.1, HR.out⟩, hh.2⟩
  · have HE : Hid (rows.getD k [] = []) := Lib.hid (by rw [List.getD_eq_getElem?_getD, List.getElem?_eq_none (by omega)]; rfl)
    have d1 : decide ((k : Int) ≥ (n : Int)) = true := decide_eq_true (by omega)
    clear h3 hl
    have H : Calls Tryd.prog 69 #[.int .i64 (k : Nat), .pointer (some ⟨eb, 0, none⟩)] w fun e w' => e = .returned (.slice none 0 0) ∧ w = w' := by
      go_enter Tryd.func69, Tryd.ntmps69
      go_wp2
      go_ret
      exact ⟨rfl, rfl⟩
    exact H.mono fun e w' hh => ⟨⟨none, 0, 0, hh.1, by rw [HE.out]; exact ⟨rfl, fun h => by omega⟩⟩, hh.2⟩
set_option maxRecDepth 100000 in
set_option maxHeartbeats 2000000 in
theorem ask1_any {w : World} {eb mb vb B n c N Q : Nat} {A : Option Addr} {rows : List (List Int)} (h : InvA eb mb vb B A n c rows N Q w) (hB : B ≤ w.heap.size) (hN : N ≤ 4096) (k : Nat) (hk : k < N) :
    Calls Tryd.prog 52 #[.int .i64 (k : Nat), .pointer (some ⟨vb, 0, none⟩), .pointer (some ⟨eb, 0, none⟩)] w fun e w' => ∃ A' d c', e = .returned (.slice A' d c') ∧ RdE w w' B A' d (rows.getD k []) ∧ w.grownBy w' (some mb) ∧ InvA eb mb vb B A n c rows N (sb Q k) w' := by
  have H := Lib.hid h
  obtain ⟨D, hown, hD⟩ := h.map
  have hsz : Maps.size D ≤ 4096 := by rw [hD.2]; have := popM_le N Q; omega
  have HD := Lib.hid hD
  have HTD := Lib.hid (hown.tidy askLaw)
  have hvar := h.var
  have hbox := h.box
  have hen := fun args w => enters_of Tryd.func69 (by kernel_rfl) rfl args w
  have hwf : (Lit.int .i64 (k : Int)).wf = true := WalkArith.wf_i64 (by omega)
  have e12 := h.e1
  have e23 := h.e2
  have e34 := h.e3
  clear h hD
  go_enter Tryd.func52, Tryd.ntmps52
  go_wp2_with (first
    | (at_mapUpdate; refine wpList_mapUpdate_own _ rfl _ _ _ 69 rfl 3 4 askLaw Tryd.underlying69 _ mb _ D rfl hown (by unfold maxLen; omega) _ _ _ rfl rfl (keyOf_int_mk Tryd.underlying3 hwf) _ [] (plainElem_bool Tryd.underlying4 true) ?_; intro w1 hown1 hg1; have hbox1 : w1.cell? ⟨eb, 0, none⟩ = some (.slice A n c) := hg1.cell hbox (fun e => absurd (Option.some.inj e) (by dsimp only; omega)); have hvar1 : w1.cell? ⟨vb, 0, none⟩ = some (.map (some mb)) := hg1.cell hvar (fun e => absurd (Option.some.inj e) (by dsimp only; omega)))
    | fail)
  have HV := Lib.hid hvar1
  have HBX := Lib.hid hbox1
  have HM := Lib.hid hown1
  have HG := Lib.hid hg1
  have HGR : Hid (Grid w1 eb A n rows) := Lib.hid (H.out.grid.below (B' := eb) ⟨hg1.os, hg1.tape, hg1.output, hg1.size, fun j hj => hg1.block j (by omega) (fun e => by have := Option.some.inj e; omega)⟩ (Nat.le_refl _))
  clear hvar hbox hvar1 hbox1 hown1 hg1 hown
  refine (by_any _ _ _ _).mono ?_
  rintro e w_ ⟨rfl, rfl⟩
  have HW : Hid (Below w1.heap.size w1 (w1.alloc (.cells #[.slice A n c] 59))) := Lib.hid ((Below.refl _ _).alloc (Nat.le_refl _) _)
  have HNB : Hid ((w1.alloc (.cells #[.slice A n c] 59)).cell? ⟨w1.heap.size, 0, none⟩ = some (.slice A n c)) := Lib.hid ((Blk.new w1 #[.slice A n c] 59).cell rfl)
  generalize w1.alloc (.cells #[.slice A n c] 59) = w2 at HW HNB
  have HS1 : Hid (w.heap.size ≤ w1.heap.size) := Lib.hid HG.out.size
  have HGR2 : Hid (Grid w2 eb A n rows) := Lib.hid (HGR.out.below HW.out (by have := HS1.out; omega))
  go_wp2_with fail
  refine (by1_at HNB.out HGR2.out k (by omega)).mono ?_
  rintro e w_ ⟨⟨A', d, c', rfl, hr⟩, rfl⟩
  have HR := Lib.hid hr
  clear hr
  go_wp2
  go_ret
  have hs1 := HS1.out
  have hs2 := HW.out.size
  have lt1 : vb < w1.heap.size := by omega
  refine ⟨_, _, _, rfl, ⟨HR.out.1, fun hp => ?_⟩, ⟨HW.out.os.trans HG.out.os, HW.out.tape.trans HG.out.tape, HW.out.output.trans HG.out.output, Nat.le_trans hs1 hs2, fun j hj hne => (HW.out.block j (by omega)).trans (HG.out.block j hj hne)⟩,
    (HW.out.cell (p := ⟨vb, 0, none⟩) (by dsimp only; omega)).trans HV.out, (HW.out.cell (p := ⟨eb, 0, none⟩) (by dsimp only; omega)).trans HBX.out, e12, e23, e34, HGR2.out, _, ownsMap_tight (ownsMap_below HM.out HW.out (by omega)), HD.out.put ?_ hk _⟩
  · obtain ⟨g, off, e, hg, hc⟩ := HR.out.2 hp
    exact ⟨g, off, e, .inl (by omega), by omega, hc⟩
  · exact HTD.out
theorem ask_edges {eb mb vb B n c N : Nat} {A : Option Addr} {rows : List (List Int)} (hN : N ≤ 4096) (hmb : 0 < mb) (h1 : mb < B) (hlen : ∀ k, (rows.getD k []).length ≤ 100000) :
    Edges 52 #[.pointer (some ⟨vb, 0, none⟩), .pointer (some ⟨eb, 0, none⟩)] (fun k => rows.getD k []) N B (some mb) (InvA eb mb vb B A n c rows N) where
  en := fun args w => enters_of Tryd.func52 (by kernel_rfl) rfl args w
  call := fun w Q k hk hB h => ask1_any h hB hN k hk
  keep := fun Q w w' h hb => h.below hb
  row := fun r e => by cases e; exact ⟨hmb, h1⟩
  len := hlen
end Go.Proofs.YtdfpmgpdkajhkaaDoor
