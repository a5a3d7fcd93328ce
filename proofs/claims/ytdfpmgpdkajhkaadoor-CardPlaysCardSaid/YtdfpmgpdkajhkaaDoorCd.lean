/-
  Contracts of package card: New, card, first, Touch, Dirty, Take, Wipe, All, over the predicate TM: a table in block t over a map of bits. Premises in each theorem.
-/
import Derived.Test.YtdfpmgpdkajhkaaDoorBits5
import Derived.Test.YtdfpmgpdkajhkaaDoorRf3
import Derived.Test.YtdfpmgpdkajhkaaDoorNf
namespace Go.Proofs.YtdfpmgpdkajhkaaDoor
open Go.RowKit
/-- A table for the addresses from fr on, below to, in block t; its map of cards in b and g: the bits of M. -/
structure TM (w : World) (t b g fr to M : Nat) : Prop where
  hd : Blk w t #[.pointer (some ⟨b, 0, none⟩), .int .i64 fr, .int .i64 to] 86
  bm : BM w b g (ncard fr to) M
  le : fr ≤ to
  le4 : to ≤ 4096
theorem TM.up {w w' : World} {t b g fr to M : Nat} (h : TM w t b g fr to M) (hb : Below w.heap.size w w') : TM w' t b g fr to M := ⟨h.hd.below hb h.hd.lt, h.bm.up hb, h.le, h.le4⟩
theorem TM.c0 {w : World} {t b g fr to M : Nat} (h : TM w t b g fr to M) : w.cell? ⟨t, 0, none⟩ = some (.pointer (some ⟨b, 0, none⟩)) := h.hd.cell rfl
theorem TM.c1 {w : World} {t b g fr to M : Nat} (h : TM w t b g fr to M) : w.cell? ⟨t, 1, none⟩ = some (.int .i64 fr) := h.hd.cell rfl
theorem TM.c2 {w : World} {t b g fr to M : Nat} (h : TM w t b g fr to M) : w.cell? ⟨t, 2, none⟩ = some (.int .i64 to) := h.hd.cell rfl
theorem TM.words {w w' : World} {t b g fr to M M' : Nat} (h : TM w t b g fr to M) (hg : w.grownBy w' (some g)) (hM : BM w' b g (ncard fr to) M') : TM w' t b g fr to M' :=
  ⟨h.hd.grown hg (fun e => h.hd.ne_ h.bm.ws (by decide) (Option.some.inj e)), hM, h.le, h.le4⟩
/-- Another table stays while this one's map is written. -/
theorem TM.other {w w' : World} {t b g fr to M b' g' n' M' : Nat} (h : TM w t b g fr to M) (h' : BM w b' g' n' M') (hne : g ≠ g') (hg : w.grownBy w' (some g')) : TM w' t b g fr to M :=
  ⟨h.hd.grown hg (fun e => h.hd.ne_ h'.ws (by decide) (Option.some.inj e)), h.bm.grown hg (fun e => by have := Option.some.inj e; have := h'.g0; omega) (fun e => h.bm.hd.ne_ h'.ws (by decide) (Option.some.inj e)) (fun e => hne (Option.some.inj e)), h.le, h.le4⟩
theorem TM.own {w w' : World} {t b g fr to M base : Nat} {A : Option Addr} {n c : Nat} {xs : List Int} (h : TM w t b g fr to M) (ho : Own w base A n c xs) (h0 : 0 < base) (hg : w.grownBy w' (Value.slice A n c).ownBlock) : TM w' t b g fr to M :=
  ⟨h.hd.grown hg (own_blk ho h.hd (by decide)), h.bm.own ho h0 hg, h.le, h.le4⟩
set_option maxHeartbeats 400000 in
theorem card_in {w : World} {t b g fr to M : Nat} (h : TM w t b g fr to M) (x : Int) (hx : (fr : Int) ≤ x ∧ x < to) : Calls Tryd.prog 63 #[.pointer (some ⟨t, 0, none⟩), .int .i64 x] w fun e w' => e = .returned (.int .i64 (cardI fr to x)) ∧ w = w' := by
  have HE := Lib.hid (cardI_in hx)
  have c1 := h.c1
  have c2 := h.c2
  have l1 := h.le
  have l2 := h.le4
  obtain ⟨h1, h2⟩ := hx
  clear h
  go_enter Tryd.func63, Tryd.ntmps63
  go_wp2
  go_ret
  exact ⟨by rw [HE.out]; rfl, rfl⟩
set_option maxHeartbeats 400000 in
theorem card_out {w : World} {t b g fr to M : Nat} (h : TM w t b g fr to M) (x : Int) (hx : ¬ ((fr : Int) ≤ x ∧ x < to)) : Calls Tryd.prog 63 #[.pointer (some ⟨t, 0, none⟩), .int .i64 x] w fun e w' => e = .returned (.int .i64 (-1)) ∧ w = w' := by
  have c1 := h.c1
  have c2 := h.c2
  have l1 := h.le
  have l2 := h.le4
  clear h
  by_cases h1 : (fr : Int) ≤ x
  · have d1 : decide (x < (fr : Int)) = false := decide_eq_false (by omega)
    have d2 : decide (x ≥ (to : Int)) = true := decide_eq_true (by omega)
    clear hx
    go_enter Tryd.func63, Tryd.ntmps63
    go_wp2
    go_ret
    exact ⟨rfl, rfl⟩
  · have d1 : decide (x < (fr : Int)) = true := decide_eq_true (by omega)
    clear hx
    go_enter Tryd.func63, Tryd.ntmps63
    go_wp2
    go_ret
    exact ⟨rfl, rfl⟩
theorem card_any {w : World} {t b g fr to M : Nat} (h : TM w t b g fr to M) (x : Int) : Calls Tryd.prog 63 #[.pointer (some ⟨t, 0, none⟩), .int .i64 x] w fun e w' => e = .returned (.int .i64 (cardI fr to x)) ∧ w = w' := by
  by_cases hx : (fr : Int) ≤ x ∧ x < to
  · exact card_in h x hx
  · rw [cardI_out hx]; exact card_out h x hx
set_option maxHeartbeats 400000 in
theorem card_nil (w : World) (x : Int) : Calls Tryd.prog 63 #[.pointer none, .int .i64 x] w fun e w' => e = .returned (.int .i64 (-1)) ∧ w = w' := by
  go_enter Tryd.func63, Tryd.ntmps63
  go_wp2
  go_ret
  exact ⟨rfl, rfl⟩
set_option maxHeartbeats 400000 in
theorem first_any {w : World} {t b g fr to M : Nat} (h : TM w t b g fr to M) (k : Int) (h0 : 0 ≤ k) (hk : k ≤ 4096) : Calls Tryd.prog 62 #[.pointer (some ⟨t, 0, none⟩), .int .i64 k] w fun e w' => e = .returned (.int .i64 ((fr : Int) + k * 16)) ∧ w = w' := by
  have c1 := h.c1
  have l1 := h.le
  have l2 := h.le4
  clear h
  go_enter Tryd.func62, Tryd.ntmps62
  go_wp2
  go_ret
  exact ⟨rfl, rfl⟩
/-- A card that is none, or one of so many. -/
theorem cardI_cases (fr to : Nat) (x : Int) : cardI fr to x = -1 ∨ (0 ≤ cardI fr to x ∧ cardI fr to x < ncard fr to) := by
  by_cases hx : (fr : Int) ≤ x ∧ x < to
  · exact .inr (cardI_lt hx)
  · exact .inl (cardI_out hx)
set_option maxHeartbeats 1000000 in
/-- Touch. -/
theorem touch_any {w : World} {t b g fr to M : Nat} (h : TM w t b g fr to M) (x : Int) : Calls Tryd.prog 26 #[.pointer (some ⟨t, 0, none⟩), .int .i64 x] w fun e w' => e = .returned (.bool (newB (ncard fr to) M (cardI fr to x))) ∧ TM w' t b g fr to (setM (ncard fr to) M (cardI fr to x)) ∧ w.grownBy w' (some g) := by
  have H := Lib.hid h
  have c0 := h.c0
  have hcs := cardI_cases fr to x
  clear h
  obtain ⟨k, hk⟩ : ∃ k, k = cardI fr to x := ⟨_, rfl⟩
  rw [← hk] at hcs ⊢
  have HK := Lib.hid hk
  clear hk
  rcases hcs with rfl | ⟨h0, _⟩
  · rw [newB_neg, setM_neg]
    go_enter Tryd.func26, Tryd.ntmps26
    go_wp2_with fail
    refine (card_any H.out x).mono ?_
    rintro e w_ ⟨rfl, rfl⟩
    rw [← HK.out]
    go_wp2
    go_ret
    exact ⟨rfl, H.out, only_refl _ _⟩
  · have d0 : decide (k ≥ 0) = true := decide_eq_true h0
    go_enter Tryd.func26, Tryd.ntmps26
    go_wp2_with fail
    refine (card_any H.out x).mono ?_
    rintro e w_ ⟨rfl, rfl⟩
    rw [← HK.out]
    go_wp2_with fail
    refine (set_any H.out.bm k).mono ?_
    rintro e w' ⟨rfl, hM, hG⟩
    have HM := Lib.hid (H.out.words hG hM)
    have HG := Lib.hid hG
    clear hM hG
    go_wp2
    go_ret
    exact ⟨rfl, HM.out, HG.out⟩
set_option maxHeartbeats 1000000 in
/-- Dirty. -/
theorem dirty_any {w : World} {t b g fr to M : Nat} (h : TM w t b g fr to M) (x : Int) : Calls Tryd.prog 27 #[.pointer (some ⟨t, 0, none⟩), .int .i64 x] w fun e w' => e = .returned (.bool (hasB M (cardI fr to x))) ∧ w = w' := by
  have H := Lib.hid h
  have c0 := h.c0
  have hcs := cardI_cases fr to x
  clear h
  obtain ⟨k, hk⟩ : ∃ k, k = cardI fr to x := ⟨_, rfl⟩
  rw [← hk] at hcs ⊢
  have HK := Lib.hid hk
  clear hk
  rcases hcs with rfl | ⟨h0, _⟩
  · rw [hasB_neg]
    go_enter Tryd.func27, Tryd.ntmps27
    go_wp2_with fail
    refine (card_any H.out x).mono ?_
    rintro e w_ ⟨rfl, rfl⟩
    rw [← HK.out]
    go_wp2
    go_ret
    exact ⟨rfl, rfl⟩
  · have d0 : decide (k ≥ 0) = true := decide_eq_true h0
    go_enter Tryd.func27, Tryd.ntmps27
    go_wp2_with fail
    refine (card_any H.out x).mono ?_
    rintro e w_ ⟨rfl, rfl⟩
    rw [← HK.out]
    go_wp2_with fail
    refine (has_any H.out.bm k).mono ?_
    rintro e w_ ⟨rfl, rfl⟩
    go_wp2
    go_ret
    exact ⟨rfl, rfl⟩
set_option maxHeartbeats 1000000 in
/-- Wipe. -/
theorem twipe_any {w : World} {t b g fr to M : Nat} (h : TM w t b g fr to M) : Calls Tryd.prog 23 #[.pointer (some ⟨t, 0, none⟩)] w fun e w' => e = .returned (.tuple #[]) ∧ TM w' t b g fr to 0 ∧ w.grownBy w' (some g) := by
  have H := Lib.hid h
  have c0 := h.c0
  clear h
  go_enter Tryd.func23, Tryd.ntmps23
  go_wp2_with fail
  refine (wipe_any H.out.bm).mono ?_
  rintro e w' ⟨rfl, hM, hG⟩
  have HM := Lib.hid (H.out.words hG hM)
  have HG := Lib.hid hG
  clear hM hG
  go_wp2
  go_end0
  exact ⟨rfl, HM.out, HG.out⟩
set_option maxHeartbeats 1000000 in
/-- Take, where no card is dirty. -/
theorem take_none {w : World} {t b g fr to M : Nat} (h : TM w t b g fr to M) (hz : nextM (ncard fr to) M 0 < 0) : Calls Tryd.prog 24 #[.pointer (some ⟨t, 0, none⟩)] w fun e w' => e = .returned (.tuple #[.int .i64 0, .int .i64 0, .bool false]) ∧ w = w' := by
  have H := Lib.hid h
  have c0 := h.c0
  clear h
  obtain ⟨z, hk⟩ : ∃ z, z = nextM (ncard fr to) M 0 := ⟨_, rfl⟩
  rw [← hk] at hz
  have HK := Lib.hid hk
  clear hk
  go_enter Tryd.func24, Tryd.ntmps24
  go_wp2_with fail
  refine (next_any H.out.bm 0).mono ?_
  rintro e w_ ⟨rfl, rfl⟩
  rw [← HK.out]
  go_wp2
  go_ret3
  exact ⟨rfl, rfl⟩
theorem only_below {w w' : World} (h : Below w.heap.size w w') (row : Option Nat) : w.grownBy w' row := ⟨h.os, h.tape, h.output, h.size, fun k hk _ => h.block k hk⟩
set_option maxRecDepth 100000 in
set_option maxHeartbeats 1000000 in
/-- Take, where k is the first card that is dirty. -/
theorem take_some {w : World} {t b g fr to M k : Nat} (h : TM w t b g fr to M) (hz : nextM (ncard fr to) M 0 = (k : Int)) :
    Calls Tryd.prog 24 #[.pointer (some ⟨t, 0, none⟩)] w fun e w' => e = .returned (.tuple #[.int .i64 ((fr : Int) + (k : Int) * 16), .int .i64 (if (to : Int) < (fr : Int) + ((k : Int) + 1) * 16 then (to : Int) else (fr : Int) + ((k : Int) + 1) * 16), .bool true]) ∧ TM w' t b g fr to (clrM M k) ∧ w.grownBy w' (some g) := by
  have H := Lib.hid h
  have c0 := h.c0
  have hkn : (k : Int) < 256 := by
    have h1 := (nextM_bd h.bm.lt 0).2
    have h2 := ncard_le (fr := fr) h.le4
    omega
  have l1 := h.le
  have l2 := h.le4
  have hb : hasB M (k : Int) = true := by
    rcases nextM_cases h.bm.lt 0 with ⟨e, _⟩ | ⟨j, e, _, _, j3, _⟩
    · omega
    · have : j = k := by omega
      subst this
      rw [hasB_nat]; exact j3
  have HH := Lib.hid hb
  have HK := Lib.hid hz
  clear h hz hb
  go_enter Tryd.func24, Tryd.ntmps24
  go_wp2_with fail
  refine (next_any H.out.bm 0).mono ?_
  rintro e w_ ⟨rfl, rfl⟩
  rw [HK.out]
  go_wp2_with fail
  refine (clear_any H.out.bm k).mono ?_
  rintro e w1 ⟨rfl, hM, hG⟩
  have H1 := Lib.hid (H.out.words hG hM)
  have HG := Lib.hid hG
  clear hM hG c0
  have c2 := H1.out.c2
  have lt := H1.out.hd.lt
  have ek : IntKind.i64.wrap ((k : Int) + 1) = (k : Int) + 1 := IntWalk.i64_in _ (by omega)
  have hq := bw_cell w1
  go_wp2_with fail
  refine wp_region_bw (by kernel_rfl) (by kernel_rfl) ?_
  repeat go_big_quiet_step (first | (go_at_call 62; exact calls_same (first_any (H1.out.up (BW.is _)) _ (by omega) (by omega))))
  with_reducible refine wpQuiet_nil ?_
  rintro ⟨w5, hb⟩
  dsimp only
  have H2 := Lib.hid (H1.out.up hb)
  have HG2 := Lib.hid (only_trans HG.out (only_below hb _))
  clear hb hq c2 lt
  go_wp2
  all_goals
    go_ret3
    exact ⟨rfl, H2.out, HG2.out⟩
set_option maxHeartbeats 1000000 in
theorem take_nil (w : World) : Calls Tryd.prog 24 #[.pointer none] w fun e w' => e = .returned (.tuple #[.int .i64 0, .int .i64 0, .bool false]) ∧ w = w' := by
  go_enter Tryd.func24, Tryd.ntmps24
  go_wp2
  go_ret3
  exact ⟨rfl, rfl⟩
set_option maxHeartbeats 1000000 in
theorem twipe_nil (w : World) : Calls Tryd.prog 23 #[.pointer none] w fun e w' => e = .returned (.tuple #[]) ∧ w = w' := by
  go_enter Tryd.func23, Tryd.ntmps23
  go_wp2
  go_end0
  exact ⟨rfl, rfl⟩
set_option maxHeartbeats 1000000 in
theorem touch_nil (w : World) (x : Int) : Calls Tryd.prog 26 #[.pointer none, .int .i64 x] w fun e w' => e = .returned (.bool false) ∧ w = w' := by
  go_enter Tryd.func26, Tryd.ntmps26
  go_wp2_with (go_at_call 63; refine (card_nil _ x).mono ?_; rintro e w' ⟨rfl, rfl⟩)
  go_ret
  exact ⟨rfl, rfl⟩
set_option maxHeartbeats 1000000 in
theorem dirty_nil (w : World) (x : Int) : Calls Tryd.prog 27 #[.pointer none, .int .i64 x] w fun e w' => e = .returned (.bool false) ∧ w = w' := by
  go_enter Tryd.func27, Tryd.ntmps27
  go_wp2_with (go_at_call 63; refine (card_nil _ x).mono ?_; rintro e w' ⟨rfl, rfl⟩)
  go_ret
  exact ⟨rfl, rfl⟩
set_option maxHeartbeats 1000000 in
theorem all_nil (w : World) : Calls Tryd.prog 28 #[.pointer none] w fun e w' => e = .returned (.slice none 0 0) ∧ w = w' := by
  go_enter Tryd.func28, Tryd.ntmps28
  go_wp2
  go_ret
  exact ⟨rfl, rfl⟩
set_option maxHeartbeats 1000000 in
/-- New. -/
theorem tnew_any {w : World} (hT : Tab w) (x y : Int) : Calls Tryd.prog 25 #[.int .i64 x, .int .i64 y] w fun e w' => ∃ t b g, e = .returned (.pointer (some ⟨t, 0, none⟩)) ∧ w.heap.size ≤ t ∧ w.heap.size ≤ b ∧ w.heap.size ≤ g ∧ TM w' t b g (plc x) (plt (plc x) y) 0 ∧ Below w.heap.size w w' := by
  have HT := Lib.hid hT
  have hq := plc_eq x
  have hle := plc_le x
  clear hT
  obtain ⟨fr, hf⟩ : ∃ fr, fr = plc x := ⟨_, rfl⟩
  rw [← hf] at hq hle ⊢
  clear hf
  have hq2 := plt_eq fr y
  have hle2 := plt_le hle y
  obtain ⟨to, ht⟩ : ∃ to, to = plt fr y := ⟨_, rfl⟩
  rw [← ht] at hq2 hle2 ⊢
  clear ht
  obtain ⟨l1, l2⟩ := hle2
  have hn : ((to : Int) - (fr : Int) + 16 - 1) / 16 = ((ncard fr to : Nat) : Int) := by unfold ncard; omega
  have hn2 := ncard_le (fr := fr) l2
  have HP : Hid (plc ((ncard fr to : Nat) : Int) = ncard fr to) := Lib.hid (by unfold plc; split <;> omega)
  obtain ⟨n, hnn⟩ : ∃ n, n = ncard fr to := ⟨_, rfl⟩
  have HN := Lib.hid hnn
  rw [← hnn] at hn hn2 HP
  clear hnn
  go_enter Tryd.func25, Tryd.ntmps25
  go_wp2_with fail
  all_goals
    refine (new_any HT.out _).mono ?_
    rintro e w1 ⟨b, g, rfl, hb, hg, hM, hB⟩
    rw [HP.out] at hM
    have HM := Lib.hid hM
    have HB := Lib.hid hB
    have HG := Lib.hid hg
    have HBB := Lib.hid hb
    clear hM hB hg hb
    go_wp2
    go_ret
    refine ⟨w1.heap.size, b, g, rfl, HB.out.size, HBB.out, HG.out, ⟨Blk.new _ _ _, ?_, l1, l2⟩, HB.out.alloc HB.out.size _⟩
    rw [← HN.out]
    exact HM.out.alloc _
set_option maxRecDepth 100000 in
set_option maxHeartbeats 4000000 in
/-- All. -/
theorem all_any {w : World} {t b g fr to M : Nat} (h : TM w t b g fr to M) : Calls Tryd.prog 28 #[.pointer (some ⟨t, 0, none⟩)] w fun e w' => ∃ A c, e = .returned (.slice A (popM (ncard fr to) M) c) ∧ Own w' w.heap.size A (popM (ncard fr to) M) c (allL fr (ncard fr to) M) ∧ TM w' t b g fr to M ∧ Below w.heap.size w w' := by
  have H := Lib.hid h
  have hn := ncard_le (fr := fr) h.le4
  have l1 := h.le
  have l2 := h.le4
  clear h
  have c0 := H.out.c0
  obtain ⟨n, hnn⟩ : ∃ n, n = ncard fr to := ⟨_, rfl⟩
  have HN := Lib.hid hnn
  rw [← hnn] at hn ⊢
  clear hnn
  have HM : Hid (M < 2 ^ n) := Lib.hid (by rw [HN.out]; exact H.out.bm.lt)
  have hpos := H.out.bm.tab.2
  obtain ⟨z0, hz0⟩ : ∃ z0, z0 = nextM n M 0 := ⟨_, rfl⟩
  have HZ := Lib.hid hz0
  clear hz0
  go_enter Tryd.func28, Tryd.ntmps28
  go_wp2_with fail
  refine (next_any H.out.bm 0).mono ?_
  rintro e w_ ⟨rfl, rfl⟩
  rw [← HN.out, ← HZ.out]
  clear c0
  go_wp2
  go_loopw [3, 4] (fun v i wr => ∃ (p c d : Nat) (z : Int) (A : Option Addr), v = .slice A d c ∧ i = .int .i64 z ∧ p ≤ n ∧ d ≤ p ∧ Hid (z = nextM n M p) ∧ Hid (Own wr w.heap.size A d c ((dl M p).map fun k : Nat => (fr : Int) + (k : Int) * 16)) ∧ Hid (TM wr t b g fr to M) ∧ Hid (Below w.heap.size w wr)) (fun _ i _ => upm n (intOf i))
  case atStart => exact ⟨0, 0, 0, z0, none, rfl, rfl, Nat.zero_le _, Nat.le_refl _, HZ, Lib.hid (Own.nil _ _), H, Lib.hid (Below.refl _ _)⟩
  case round =>
    clear H HZ
    obtain ⟨p, c, d, z, A, rfl, rfl, hp, hd, HZ, HO, H, HB⟩ := hrel
    have c0 := H.out.c0
    by_cases h0 : z ≥ 0
    · obtain ⟨j, rfl⟩ : ∃ j : Nat, z = j := ⟨z.toNat, by omega⟩
      obtain ⟨q1, q2, q3⟩ := dl_next HM.out HZ.out.symm
      have Q3 := Lib.hid q3
      have MS := Lib.hid (upm_next HM.out q2)
      clear q3
      obtain ⟨z1, hz1⟩ : ∃ z1, z1 = nextM n M ((j + 1 : Nat) : Int) := ⟨_, rfl⟩
      have HZ1 := Lib.hid hz1
      clear hz1
      go_wp2_with fail
      refine (first_any H.out j (by omega) (by omega)).mono ?_
      rintro e w_ ⟨rfl, rfl⟩
      clear c0
      go_wp2_with (at_builtin; refine app_int rfl _ _ rfl _ w.heap.size A d c _ _ rfl rfl HO.out (by omega) HB.out.size ?_; intro A' c' w4 hO hg; have HT2 := Lib.hid (H.out.own HO.out hpos hg); have HO2 := Lib.hid hO; have HB2 := Lib.hid (below_own HB.out HO.out (Nat.le_refl _) HB.out.size hg); clear hO hg; have c4 := HT2.out.c0)
      rw [show ((j : Int) + 1) = ((j + 1 : Nat) : Int) by omega]
      refine (next_any HT2.out.bm _).mono ?_
      rintro e w_ ⟨rfl, rfl⟩
      rw [← HN.out, ← HZ1.out]
      go_wp2
      go_roundw
      case rel => exact ⟨j + 1, c', d + 1, z1, A', rfl, rfl, by omega, by omega, HZ1, by rw [Q3.out, List.map_append]; exact HO2, HT2, HB2⟩
      case measure => simp only [intOf]; rw [HZ1.out]; exact MS.out
    · have hE := dl_end hp HM.out (by rw [← HZ.out]; omega)
      have hlen := HO.out.1
      rw [List.length_map, ← hE, dl_len] at hlen
      have HD : Hid (d = popM n M) := Lib.hid hlen.symm
      have HO3 : Hid (Own wr w.heap.size A d c (allL fr n M)) := Lib.hid (by unfold allL; rw [hE]; exact HO.out)
      clear hE hlen
      go_wp2
      go_ret
      exact ⟨A, c, by rw [← HD.out]; rfl, by rw [← HD.out]; exact HO3.out, H.out, HB.out⟩
end Go.Proofs.YtdfpmgpdkajhkaaDoor
