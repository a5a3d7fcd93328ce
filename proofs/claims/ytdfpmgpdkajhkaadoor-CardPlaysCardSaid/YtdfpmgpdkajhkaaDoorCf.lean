/-
  Contracts of gleaningref07: card, Dirty, Touch, Take, New, over the predicate QM: a reference table in block q that lists L. Premises in each theorem.
-/
import Derived.Test.YtdfpmgpdkajhkaaDoorCe
import Derived.Test.YtdfpmgpdkajhkaaDoorNp
import Derived.RegionTactic
import Derived.ChangeAlike
import Derived.Deep.Upon
namespace Go.Proofs.YtdfpmgpdkajhkaaDoor
open Go.RowKit
/-- The slice '.slice A n _' reads as xs, in a block of ints. -/
def RdQ (w : World) (A : Option Addr) (n : Nat) (xs : List Int) : Prop :=
  xs.length = n ∧ (0 < n → ∃ g off cs, A = some ⟨g, off, none⟩ ∧ Blk w g cs 3 ∧ ∀ i, i < n → cs[off + i]? = some (.int .i64 (xs.getD i 0)))
theorem RdQ.rd {w : World} {A : Option Addr} {n : Nat} {xs : List Int} (h : RdQ w A n xs) : Rd w A n xs :=
  ⟨h.1, fun hp => by
    obtain ⟨g, off, cs, e, hb, hc⟩ := h.2 hp
    exact ⟨g, off, e, hb.lt, fun i hi => hb.cell (hc i hi)⟩⟩
theorem RdQ.grown {w w' : World} {A : Option Addr} {n : Nat} {xs : List Int} {row : Option Nat} (h : RdQ w A n xs) (hg : w.grownBy w' row) (hr : ∀ r, row = some r → ∃ cs t, Blk w r cs t ∧ t ≠ 3) : RdQ w' A n xs :=
  ⟨h.1, fun hp => by
    obtain ⟨g, off, cs, e, hb, hc⟩ := h.2 hp
    refine ⟨g, off, cs, e, hb.grown hg (fun e => ?_), hc⟩
    obtain ⟨cs', t, hb', ht⟩ := hr g e.symm
    exact hb.ne_ hb' (fun q => ht q.symm) rfl⟩
theorem Own.rdQ {w : World} {base : Nat} {A : Option Addr} {n c : Nat} {xs : List Int} (h : Own w base A n c xs) : RdQ w A n xs := by
  refine ⟨h.1, fun hp => ?_⟩
  rcases h.2.2 with ⟨_, h0⟩ | ⟨g, cap, cur, hv, hb, hh, hn, hm, _, hc⟩
  · omega
  · injection hv with hA _ hcc
    subst hA hcc
    refine ⟨g, 0, cur, rfl, hh, fun i hi => ?_⟩
    have e := congrArg (fun l : List Value => l[i]?) hc
    simp only [Nat.mul_one, List.getElem?_map] at e
    rw [List.getElem?_take_of_lt hi, List.getElem?_eq_getElem (l := xs) (by rw [h.1]; exact hi)] at e
    rw [Nat.zero_add, ← Array.getElem?_toList, e, List.getD_eq_getElem?_getD, List.getElem?_eq_getElem (by rw [h.1]; exact hi)]
    rfl
theorem RdQ.nil (w : World) (A : Option Addr) : RdQ w A 0 [] := ⟨rfl, fun h => by omega⟩
theorem RdQ.take {w : World} {A : Option Addr} {n i : Nat} {xs : List Int} (h : RdQ w A n xs) (hi : i ≤ n) : RdQ w A i (xs.take i) :=
  ⟨by rw [List.length_take, h.1]; omega, fun hp => by
    obtain ⟨g, off, cs, e, hb, hc⟩ := h.2 (by omega)
    exact ⟨g, off, cs, e, hb, fun j hj => by rw [hc j (by omega), List.getD_eq_getElem?_getD, List.getD_eq_getElem?_getD, List.getElem?_take_of_lt hj]⟩⟩
theorem RdQ.drop {w : World} {g off n i : Nat} {xs : List Int} (h : RdQ w (some ⟨g, off, none⟩) n xs) (hi : i ≤ n) : RdQ w (some ⟨g, off + i, none⟩) (n - i) (xs.drop i) :=
  ⟨by rw [List.length_drop, h.1], fun hp => by
    obtain ⟨g', off', cs, e, hb, hc⟩ := h.2 (by omega)
    injection e with e
    injection e with e1 e2
    subst e1 e2
    exact ⟨g, off + i, cs, rfl, hb, fun j hj => by rw [Nat.add_assoc, hc (i + j) (by omega), List.getD_eq_getElem?_getD, List.getD_eq_getElem?_getD, List.getElem?_drop]⟩⟩
theorem addq {b off i : Nat} : Addr.add ⟨b, off, none⟩ i = ⟨b, off + i, none⟩ := by
  unfold Addr.add
  split
  · next e => rw [e]; rfl
  · rfl
theorem app_nothingQ {w : World} {base n c d : Nat} {A : Option Addr} {xs : List Int} {ty : TypeId} (h : Own w base A n c xs) : (Builtin.append_ #[28, 28] ty #[.slice A n c, .slice none 0 d]).run Tryd.prog w = .ok (.slice A n c) w := by
  obtain ⟨i, hi, h0, h1, h2⟩ := info_parts info3
  have hu := Tryd.underlying28
  rcases h.2.2 with ⟨hv, _⟩ | ⟨g, cap, cur, hv, _, _, hn, _⟩
  · rw [hv]
    simp [Builtin.append_, run_underlying hu, sizeOf, typeInfo, hi, Builtin.lenOf, Builtin.firstCells]
  · injection hv with e1 e2 e3
    subst e1 e3
    simp [Builtin.append_, run_underlying hu, sizeOf, typeInfo, hi, Builtin.lenOf, Builtin.firstCells, hn, storeCells]
theorem run_app_intsQ {w : World} {base n c m d : Nat} {A B : Option Addr} {xs ys : List Int} {ty : TypeId} (h : Own w base A n c xs) (hr : Rd w B m ys) (hlen : n + m ≤ 2000000) (hbase : base ≤ w.heap.size) :
    ∃ A' c' w', (Builtin.append_ #[28, 28] ty #[.slice A n c, .slice B m d]).run Tryd.prog w = .ok (.slice A' (n + m) c') w' ∧ Own w' base A' (n + m) c' (xs ++ ys) ∧ w.grownBy w' (Value.slice A n c).ownBlock := by
  by_cases hB : B = none
  · subst hB
    have hm : m = 0 := by
      rcases Nat.eq_zero_or_pos m with h0 | h0
      · exact h0
      · obtain ⟨g, off, e, _⟩ := hr.2 h0
        cases e
    subst hm
    have hy : ys = [] := List.eq_nil_of_length_eq_zero hr.1
    subst hy
    exact ⟨A, c, w, app_nothingQ h, by simpa using h, World.grownBy.refl w _⟩
  · obtain ⟨ad, rfl⟩ : ∃ ad, B = some ad := by
      cases B with
      | none => exact absurd rfl hB
      | some ad => exact ⟨ad, rfl⟩
    obtain ⟨i, hi, h0, h1, h2⟩ := info_parts info3
    obtain ⟨v', w', hrun, q2, q3, q4, q5⟩ := run_append_own_at (P := Tryd.prog) w base 28 ty 3 i (.int .i64 0) 1 8 Tryd.underlying28 hi h0 h1 h2 rfl (by decide) (.slice A n c) n _ h.2 ad m d (ys.map fun x => Value.int .i64 x)
      (by simp [hr.1]) (fun j u hu => by
        have hj : j < m := by
          have := (List.getElem?_eq_some_iff.1 hu).1
          rw [List.length_map, hr.1] at this
          exact this
        obtain ⟨g, off, e, _, hc⟩ := hr.2 (by omega)
        have e := Option.some.inj e
        subst e
        rw [addq, hc j hj]
        rw [List.getElem?_map, List.getElem?_eq_getElem (by rw [hr.1]; exact hj)] at hu
        simp only [Option.map_some] at hu
        rw [← hu, List.getD_eq_getElem?_getD, List.getElem?_eq_getElem (by rw [hr.1]; exact hj)]
        rfl) (fun u hu => by
        simp only [List.mem_map] at hu
        obtain ⟨x, _, e⟩ := hu
        subst e
        rfl) (by unfold maxLen; omega) (by omega) hbase
    have hform : ∃ A' c', v' = .slice A' (n + m) c' := by
      rcases q2.2 with ⟨e, q⟩ | ⟨g, cap, cur, hv, _⟩
      · exact ⟨none, 0, by rw [e, q]⟩
      · exact ⟨_, _, hv⟩
    obtain ⟨A', c', rfl⟩ := hform
    exact ⟨A', c', w', hrun, ⟨by simp [h.1, hr.1], by simpa using q2⟩, q3⟩
theorem app_intsQ {ops : Array Oper} {rest : List Oper} {o : Oper} {a : Act} {Q : Exit → Act → World → Prop} (hgd : o.guard = none) (s x : Operand)
    (ho : o.op = .call { callee := .builtin .append, args := #[s, x], argTypes := #[28, 28] }) (w : World) (base : Nat) (A : Option Addr) (n c : Nat) (xs : List Int) (B : Option Addr) (m d : Nat) (ys : List Int)
    (hs : a.eval s = .slice A n c) (hx : a.eval x = .slice B m d) (hown : Own w base A n c xs) (hr : Rd w B m ys) (hlen : n + m ≤ 2000000) (hbase : base ≤ w.heap.size)
    (h : ∀ A' c' w', Own w' base A' (n + m) c' (xs ++ ys) → w.grownBy w' (Value.slice A n c).ownBlock → wpList Tryd.prog ops Q rest (a.put o.dst (.slice A' (n + m) c')) w') :
    wpList Tryd.prog ops Q (o :: rest) a w :=
  wpList_plain hgd fun K hK => by
    obtain ⟨A', c', w', hrun, h2, h3⟩ := run_app_intsQ (ty := o.type) (d := d) hown hr hlen hbase
    unfold Oper.wp execOp
    simp only [ho, resolve, invoke, builtin, Sem.run_bind, Sem.run_pure, Result.andThen_ok, List.map_toArray, List.map_cons, List.map_nil, hs, hx, hrun]
    exact hK _ _ (h A' c' w' h2 h3)
/-- A reference table in block q. -/
structure QM (w : World) (q fr to : Nat) (A : Option Addr) (n c : Nat) (L : List Int) : Prop where
  hd : Blk w q #[.int .i64 fr, .int .i64 to, .slice A n c] 81
  rd : RdQ w A n L
  cap : n ≤ c
  le : fr ≤ to
  le4 : to ≤ 4096
  few : n ≤ 4096
section
variable {w : World} {q fr to : Nat} {A : Option Addr} {n c : Nat} {L : List Int}
theorem QM.c0 (h : QM w q fr to A n c L) : w.cell? ⟨q, 0, none⟩ = some (.int .i64 fr) := h.hd.cell rfl
theorem QM.c1 (h : QM w q fr to A n c L) : w.cell? ⟨q, 1, none⟩ = some (.int .i64 to) := h.hd.cell rfl
theorem QM.c2 (h : QM w q fr to A n c L) : w.cell? ⟨q, 2, none⟩ = some (.slice A n c) := h.hd.cell rfl
theorem QM.grown {w' : World} (h : QM w q fr to A n c L) {row : Option Nat} (hg : w.grownBy w' row) (hr : ∀ r, row = some r → ∃ cs t, Blk w r cs t ∧ t ≠ 3 ∧ t ≠ 81) : QM w' q fr to A n c L :=
  ⟨h.hd.grown hg (fun e => by obtain ⟨cs, t, hb, _, ht⟩ := hr q e.symm; exact h.hd.ne_ hb (fun e => ht e.symm) rfl), h.rd.grown hg (fun r e => by obtain ⟨cs, t, hb, ht, _⟩ := hr r e; exact ⟨cs, t, hb, ht⟩), h.cap, h.le, h.le4, h.few⟩
theorem QM.up {w' : World} (h : QM w q fr to A n c L) (hb : Below w.heap.size w w') : QM w' q fr to A n c L := h.grown (only_below hb none) (fun r e => by cases e)
theorem QM.store (h : QM w q fr to A n c L) {A' : Option Addr} {n' c' : Nat} {L' : List Int} (hr : RdQ w A' n' L') (hc : n' ≤ c') (hf : n' ≤ 4096) : QM (w.setCell ⟨q, 2, none⟩ (.slice A' n' c')) q fr to A' n' c' L' :=
  ⟨h.hd.set (i := 2) _, hr.grown (only_set0 _) (fun r e => by have e := Option.some.inj e; subst e; exact ⟨_, _, h.hd, by decide⟩), hc, h.le, h.le4, hf⟩
set_option maxHeartbeats 400000 in
theorem qcard_any (h : QM w q fr to A n c L) (x : Int) : Calls Tryd.prog 70 #[.pointer (some ⟨q, 0, none⟩), .int .i64 x] w fun e w' => e = .returned (.int .i64 (qk fr to x)) ∧ w = w' := by
  have c0 := h.c0
  have c1 := h.c1
  have l1 := h.le
  have l2 := h.le4
  clear h
  by_cases h1 : (fr : Int) ≤ x
  · have d1 : decide (x < (fr : Int)) = false := decide_eq_false (by omega)
    by_cases h2 : x < (to : Int)
    · have HE : Hid (qk fr to x = x - (x - fr) % 16) := Lib.hid (by unfold qk; rw [if_pos ⟨h1, h2⟩])
      have d2 : decide (x ≥ (to : Int)) = false := decide_eq_false (by omega)
      go_enter Tryd.func70, Tryd.ntmps70
      go_wp2
      go_ret
      exact ⟨by rw [HE.out]; rfl, rfl⟩
    · have HE : Hid (qk fr to x = -1) := Lib.hid (by unfold qk; rw [if_neg (by omega)])
      have d2 : decide (x ≥ (to : Int)) = true := decide_eq_true (by omega)
      go_enter Tryd.func70, Tryd.ntmps70
      go_wp2
      go_ret
      exact ⟨by rw [HE.out]; rfl, rfl⟩
  · have HE : Hid (qk fr to x = -1) := Lib.hid (by unfold qk; rw [if_neg (by omega)])
    have d1 : decide (x < (fr : Int)) = true := decide_eq_true (by omega)
    go_enter Tryd.func70, Tryd.ntmps70
    go_wp2
    go_ret
    exact ⟨by rw [HE.out]; rfl, rfl⟩
set_option maxHeartbeats 2000000 in
theorem qdirty_any (h : QM w q fr to A n c L) (x : Int) : Calls Tryd.prog 60 #[.pointer (some ⟨q, 0, none⟩), .int .i64 x] w fun e w' => e = .returned (.bool (decide (qk fr to x ∈ L))) ∧ w = w' := by
  have H := Lib.hid h
  have c2 := h.c2
  have hf := h.few
  clear h
  obtain ⟨k, hk⟩ : ∃ k, k = qk fr to x := ⟨_, rfl⟩
  have HK := Lib.hid hk
  rw [← hk]
  clear hk
  go_enter Tryd.func60, Tryd.ntmps60
  go_wp2_with fail
  refine (qcard_any H.out x).mono ?_
  rintro e w_ ⟨rfl, rfl⟩
  rw [← HK.out]
  go_wp2
  go_loopw [15] (fun v wr => ∃ i : Nat, i ≤ n ∧ v = .int .i64 i ∧ Hid (∀ j, j < i → L.getD j 0 ≠ k) ∧ w = wr) (fun v _ => n - (intOf v).toNat)
  case atStart => exact ⟨0, Nat.zero_le _, rfl, Lib.hid (fun j hj => by omega), rfl⟩
  case round =>
    obtain ⟨i, hi, rfl, HN, rfl⟩ := hrel
    by_cases hin : i < n
    · obtain ⟨g, off, rfl, hg, hc⟩ := H.out.rd.rd.2 (by omega)
      have hx := hc i hin
      have HMEM := Lib.hid (show L.getD i 0 ∈ L by rw [List.getD_eq_getElem?_getD, List.getElem?_eq_getElem (by rw [H.out.rd.1]; exact hin)]; exact List.getElem_mem _)
      obtain ⟨y, hy⟩ : ∃ y, y = L.getD i 0 := ⟨_, rfl⟩
      rw [← hy] at hx HMEM
      have HY := Lib.hid hy
      clear hc hy
      by_cases hyk : y = k
      · have d0 : (y == k) = true := by simp [hyk]
        have HR : Hid (decide (k ∈ L) = true) := Lib.hid (by rw [← hyk]; exact decide_eq_true HMEM.out)
        clear hyk
        go_wp2
        go_ret
        exact ⟨by rw [HR.out]; rfl, rfl⟩
      · have d0 : (y == k) = false := by simp [hyk]
        have HN2 : Hid (∀ j, j < i + 1 → L.getD j 0 ≠ k) := Lib.hid fun j hj => by
          by_cases e : j = i
          · rw [e, ← HY.out]; exact hyk
          · exact HN.out j (by omega)
        clear hyk
        go_wp2
        go_roundw
        case rel => exact ⟨i + 1, by omega, by go_num, HN2, by trivial⟩
        case measure => simp [intOf]; omega
    · have HR : Hid (decide (k ∈ L) = false) := Lib.hid (decide_eq_false fun hm => by
        obtain ⟨j, hj, e⟩ := List.getElem_of_mem hm
        refine HN.out j (by have := H.out.rd.1; omega) ?_
        rw [List.getD_eq_getElem?_getD, List.getElem?_eq_getElem hj]
        exact e)
      go_wp2
      go_ret
      exact ⟨by rw [HR.out]; rfl, rfl⟩
set_option maxHeartbeats 2000000 in
theorem qtake_none (h : QM w q fr to A 0 c L) : Calls Tryd.prog 61 #[.pointer (some ⟨q, 0, none⟩)] w fun e w' => e = .returned (.tuple #[.int .i64 0, .int .i64 0, .bool false]) ∧ w = w' := by
  have c2 := h.c2
  clear h
  go_enter Tryd.func61, Tryd.ntmps61
  go_wp2
  go_ret3
  exact ⟨rfl, rfl⟩
set_option maxHeartbeats 2000000 in
theorem qtake_some {k : Int} {S : List Int} (h : QM w q fr to A (n + 1) c (k :: S)) (h0 : 0 ≤ k) (h4 : k ≤ 10000) : Calls Tryd.prog 61 #[.pointer (some ⟨q, 0, none⟩)] w fun e w' => e = .returned (.tuple #[.int .i64 k, .int .i64 (if (to : Int) < k + 16 then (to : Int) else k + 16), .bool true]) ∧ (∃ A' c', QM w' q fr to A' n c' S) ∧ w.grownBy w' (some q) := by
  have H := Lib.hid h
  have c0 := h.c0
  have c1 := h.c1
  have c2 := h.c2
  have l2 := h.le4
  have hf := h.few
  have hcap := h.cap
  obtain ⟨g, off, cs, rfl, hb, hc⟩ := h.rd.2 (by omega)
  have HBK := Lib.hid hb
  have HCS := Lib.hid hc
  have hx := hb.cell (hc 0 (by omega))
  have hx : w.cell? ⟨g, off, none⟩ = some (.int .i64 k) := hx
  have f2 := h.hd.free 2
  obtain ⟨mn, hmn⟩ : ∃ mn, (if (to : Int) < k + 16 then (to : Int) else k + 16) = mn := ⟨_, rfl⟩
  rw [hmn]
  clear h hb hc
  go_enter Tryd.func61, Tryd.ntmps61
  go_wp2
  · next hc1 =>
    have hn0 : n = 0 := by omega
    go_region
    go_wp2
    go_ret3
    have hS : S = [] := List.eq_nil_of_length_eq_zero (by have := H.out.rd.1; simp at this; omega)
    subst hn0
    refine ⟨rfl, ⟨_, _, QM.up (QM.store H.out ?_ ?_ ?_) ((Below.refl _ _).drew)⟩, only_trans (only_set0 _) (only_below ((Below.refl _ _).drew) _)⟩
    · rw [hS]; exact RdQ.nil _ _
    · omega
    · omega
  · next hc1 =>
    go_region
    go_wp2
    go_ret3
    refine ⟨rfl, ⟨_, _, QM.up (QM.store H.out (n' := n) ?_ ?_ ?_) ((Below.refl _ _).drew)⟩, only_trans (only_set0 _) (only_below ((Below.refl _ _).drew) _)⟩
    · exact H.out.rd.drop (i := 1) (by omega)
    · omega
    · omega
set_option maxHeartbeats 2000000 in
theorem qtouch_no1 (h : QM w q fr to A n c L) (x : Int) (h0 : qk fr to x < 0) : Calls Tryd.prog 59 #[.pointer (some ⟨q, 0, none⟩), .int .i64 x] w fun e w' => e = .returned (.bool false) ∧ w = w' := by
  have H := Lib.hid h
  clear h
  obtain ⟨k, hk⟩ : ∃ k, k = qk fr to x := ⟨_, rfl⟩
  have HK := Lib.hid hk
  rw [← hk] at h0
  clear hk
  have d0 : decide (k < 0) = true := decide_eq_true h0
  go_enter Tryd.func59, Tryd.ntmps59
  go_wp2_with fail
  refine (qcard_any H.out x).mono ?_
  rintro e w_ ⟨rfl, rfl⟩
  rw [← HK.out]
  go_wp2
  go_ret
  exact ⟨rfl, rfl⟩
set_option maxHeartbeats 2000000 in
theorem qtouch_no2 (h : QM w q fr to A n c L) (x : Int) (h0 : 0 ≤ qk fr to x) (hm : qk fr to x ∈ L) : Calls Tryd.prog 59 #[.pointer (some ⟨q, 0, none⟩), .int .i64 x] w fun e w' => e = .returned (.bool false) ∧ w = w' := by
  have H := Lib.hid h
  have HM : Hid (decide (qk fr to x ∈ L) = true) := Lib.hid (decide_eq_true hm)
  clear h hm
  obtain ⟨k, hk⟩ : ∃ k, k = qk fr to x := ⟨_, rfl⟩
  have HK := Lib.hid hk
  rw [← hk] at h0 HM
  clear hk
  have d0 : decide (k < 0) = false := decide_eq_false (by omega)
  go_enter Tryd.func59, Tryd.ntmps59
  go_wp2_with fail
  refine (qcard_any H.out x).mono ?_
  rintro e w_ ⟨rfl, rfl⟩
  rw [← HK.out]
  go_wp2_with fail
  refine (qdirty_any H.out x).mono ?_
  rintro e w_ ⟨rfl, rfl⟩
  rw [← HK.out, HM.out]
  go_wp2
  go_ret
  exact ⟨rfl, rfl⟩
set_option maxRecDepth 100000 in
set_option maxHeartbeats 4000000 in
theorem qtouch_yes {P S : List Int} (h : QM w q fr to A n c (P ++ S)) (x : Int) (h0 : 0 ≤ qk fr to x) (hP : ∀ y ∈ P, y < qk fr to x) (hS : ∀ y ∈ S, qk fr to x < y) (h4 : n + 1 ≤ 4096) :
    Calls Tryd.prog 59 #[.pointer (some ⟨q, 0, none⟩), .int .i64 x] w fun e w' => e = .returned (.bool true) ∧ (∃ A' c', QM w' q fr to A' (n + 1) c' (P ++ [qk fr to x] ++ S)) ∧ w.grownBy w' (some q) := by
  have H := Lib.hid h
  have c2 := h.c2
  have f2 := h.hd.free 2
  have hcap := h.cap
  have hlen := h.rd.1
  have HND : Hid (decide (qk fr to x ∈ P ++ S) = false) := Lib.hid (decide_eq_false fun hm => by
    rw [List.mem_append] at hm
    rcases hm with hm | hm
    · have := hP _ hm; omega
    · have := hS _ hm; omega)
  have HP := Lib.hid hP
  have HS := Lib.hid hS
  clear h hP hS
  obtain ⟨k, hk⟩ : ∃ k, k = qk fr to x := ⟨_, rfl⟩
  have HK := Lib.hid hk
  rw [← hk] at h0 HND HP HS ⊢
  clear hk
  obtain ⟨e, he⟩ : ∃ e, e = P.length := ⟨_, rfl⟩
  rw [List.length_append, ← he] at hlen
  have HE := Lib.hid he
  clear he
  have d0 : decide (k < 0) = false := decide_eq_false (by omega)
  go_enter Tryd.func59, Tryd.ntmps59
  go_wp2_with fail
  refine (qcard_any H.out x).mono ?_
  rintro e w_ ⟨rfl, rfl⟩
  rw [← HK.out]
  go_wp2_with fail
  refine (qdirty_any H.out x).mono ?_
  rintro e w_ ⟨rfl, rfl⟩
  rw [← HK.out, HND.out]
  go_wp2
  go_loopw [6] (fun v wr => ∃ i : Nat, i ≤ e ∧ v = .int .i64 i ∧ w = wr) (fun v _ => e - (intOf v).toNat)
  case atStart => exact ⟨0, Nat.zero_le _, rfl, rfl⟩
  case round =>
    obtain ⟨i, hi, rfl, rfl⟩ := hrel
    by_cases hie : i < e
    · obtain ⟨g, off, rfl, hg, hc⟩ := H.out.rd.rd.2 (by omega)
      have hx := hc i (by omega)
      have hlt : (P ++ S).getD i 0 < k := HP.out _ (by
        rw [List.getD_eq_getElem?_getD, List.getElem?_append_left (by rw [← HE.out]; exact hie), List.getElem?_eq_getElem (by rw [← HE.out]; exact hie)]
        exact List.getElem_mem _)
      generalize (P ++ S).getD i 0 = y at hx hlt
      have d1 : decide (y < k) = true := decide_eq_true hlt
      clear hc hlt
      go_wp2
      go_roundw
      case rel => exact ⟨i + 1, by omega, by go_num, by trivial⟩
      case measure => simp [intOf]; omega
    · have hie : i = e := by omega
      subst hie
      by_cases hin : i < n
      · obtain ⟨g, off, rfl, hg, hc⟩ := H.out.rd.rd.2 (by omega)
        have hx := hc i (by omega)
        have hlt : k < (P ++ S).getD i 0 := HS.out _ (by
          rw [List.getD_eq_getElem?_getD, List.getElem?_append_right (by rw [← HE.out]; exact Nat.le_refl _), ← HE.out, List.getElem?_eq_getElem (by omega)]
          exact List.getElem_mem _)
        generalize (P ++ S).getD i 0 = y at hx hlt
        have d1 : decide (y < k) = false := decide_eq_false (by omega)
        have hci : ¬ c = i := by omega
        clear hc hlt
        have HSD : Hid ((P ++ S).drop i = S) := Lib.hid (by rw [HE.out, List.drop_left])
        go_wp2_with (first
          | (at_builtin; refine app_intsQ rfl _ _ rfl _ w.heap.size none 0 0 [] _ i c ((P ++ S).take i) rfl rfl (Own.nil _ _) (H.out.rd.take (by omega)).rd (by omega) (Nat.le_refl _) ?_; intro A1 c1 w1 hO hg; rw [Nat.zero_add, List.nil_append, HE.out, List.take_left, ← HE.out] at hO; have HO1 := Lib.hid hO; have B1 := Lib.hid (below_own (Below.refl _ _) (Own.nil w w.heap.size) (Nat.le_refl _) (Nat.le_refl _) hg); have H1 := Lib.hid (H.out.up B1.out); clear hO hg c2 f2)
          | (at_builtin; refine app_int rfl _ _ rfl _ w.heap.size A1 i c1 P k rfl rfl HO1.out (by omega) B1.out.size ?_; intro A2 c3 w2 hO hg; have HO2 := Lib.hid hO; have B2 := Lib.hid (below_own B1.out HO1.out (Nat.le_refl _) B1.out.size hg); have H2 := Lib.hid (H.out.up B2.out); have c2 := H2.out.c2; clear hO hg)
          | (at_builtin; refine app_intsQ rfl _ _ rfl _ w.heap.size A2 (i + 1) c3 (P ++ [k]) _ (n - i) _ S rfl rfl HO2.out (by rw [← HSD.out]; exact (H2.out.rd.drop (by omega)).rd) (by omega) B2.out.size ?_; intro A3 c4 w3 hO hg; have HO3 := Lib.hid hO; have B3 := Lib.hid (below_own B2.out HO2.out (Nat.le_refl _) B2.out.size hg); have H3 := Lib.hid (H.out.up B3.out); have f3 := H3.out.hd.free 2; have l3 := H3.out.hd.lt; have x3 := H3.out.c2; clear hO hg c2)
          | fail)
        go_ret
        have hll : i + 1 + (n - i) = n + 1 := by omega
        have HOF := HO3.out
        rw [hll] at HOF
        refine ⟨rfl, ⟨A3, c4, ?_⟩, only_trans (only_below B3.out _) (only_set0 _)⟩
        rw [hll]
        have hcc : n + 1 ≤ c4 := by
          obtain ⟨_, _, _, _, q, _⟩ := HOF.at (by omega)
          exact q
        exact H3.out.store HOF.rdQ hcc h4
      · have hni : n = i := by omega
        have hS0 : S = [] := List.eq_nil_of_length_eq_zero (by omega)
        subst hS0
        rw [hni] at H c2 h4 hcap
        have HNI := Lib.hid hni
        clear hin hni hlen
        go_wp2_with (first
          | (at_builtin; refine app_intsQ rfl _ _ rfl _ w.heap.size none 0 0 [] _ i c ((P ++ []).take i) rfl rfl (Own.nil _ _) (H.out.rd.take (by omega)).rd (by omega) (Nat.le_refl _) ?_; intro A1 c1 w1 hO hg; rw [Nat.zero_add, List.nil_append, HE.out, List.take_left, ← HE.out] at hO; have HO1 := Lib.hid hO; have B1 := Lib.hid (below_own (Below.refl _ _) (Own.nil w w.heap.size) (Nat.le_refl _) (Nat.le_refl _) hg); have H1 := Lib.hid (H.out.up B1.out); clear hO hg c2 f2)
          | (at_builtin; refine app_int rfl _ _ rfl _ w.heap.size A1 i c1 P k rfl rfl HO1.out (by omega) B1.out.size ?_; intro A2 c3 w2 hO hg; have HO2 := Lib.hid hO; have B2 := Lib.hid (below_own B1.out HO1.out (Nat.le_refl _) B1.out.size hg); have H2 := Lib.hid (H.out.up B2.out); have c2 := H2.out.c2; clear hO hg)
          | (at_builtin; refine app_intsQ rfl _ _ rfl _ w.heap.size A2 (i + 1) c3 (P ++ [k]) _ _ _ [] rfl rfl HO2.out (RdQ.nil _ _).rd (by omega) B2.out.size ?_; intro A3 c4 w3 hO hg; have HO3 := Lib.hid hO; have B3 := Lib.hid (below_own B2.out HO2.out (Nat.le_refl _) B2.out.size hg); have H3 := Lib.hid (H.out.up B3.out); have f3 := H3.out.hd.free 2; have l3 := H3.out.hd.lt; have x3 := H3.out.c2; clear hO hg c2)
          | fail)
        all_goals
          go_ret
          have HOF := HO3.out
          rw [List.append_nil] at HOF
          have HOF : Own w3 w.heap.size A3 (i + 1) c4 (P ++ [k]) := HOF
          have hcc : i + 1 ≤ c4 := by
            obtain ⟨_, _, _, _, q, _⟩ := HOF.at (by omega)
            exact q
          rw [HNI.out]
          refine ⟨rfl, ⟨A3, c4, ?_⟩, only_trans (only_below B3.out _) (only_set0 _)⟩
          first
            | exact H3.out.store HOF.rdQ hcc h4
            | (rw [List.append_nil]; exact H3.out.store HOF.rdQ hcc h4)
end
theorem plt_eq2 (fr : Nat) (y : Int) : (if (fr : Int) < (plc y : Int) then (plc y : Int) else (fr : Int)) = (plt fr y : Int) := by
  unfold plt plc
  split <;> split <;> split <;> omega
set_option maxRecDepth 100000 in
set_option maxHeartbeats 4000000 in
theorem qnew_any (w : World) (x y : Int) : Calls Tryd.prog 58 #[.int .i64 x, .int .i64 y] w fun e w' => ∃ q, e = .returned (.pointer (some ⟨q, 0, none⟩)) ∧ w.heap.size ≤ q ∧ QM w' q (plc x) (plt (plc x) y) none 0 0 [] ∧ Below w.heap.size w w' := by
  have hq := plc_eq x
  have hle := plc_le x
  obtain ⟨fr, hf⟩ : ∃ fr, fr = plc x := ⟨_, rfl⟩
  rw [← hf] at hq hle ⊢
  clear hf
  have hq3 := plt_eq2 fr y
  have hle2 := plt_le hle y
  have hq2 := plc_eq y
  obtain ⟨to, ht⟩ : ∃ to, to = plt fr y := ⟨_, rfl⟩
  obtain ⟨t0, ht0⟩ : ∃ t0, t0 = plc y := ⟨_, rfl⟩
  rw [← ht] at hq3 hle2 ⊢
  rw [← ht0] at hq3 hq2
  clear ht ht0
  obtain ⟨l1, l2⟩ := hle2
  go_enter Tryd.func58, Tryd.ntmps58
  go_wp2
  all_goals
    generalize hwa : w.alloc (Obj.cells #[.int .i64 (fr : Nat), .int .i64 (t0 : Nat), .slice none 0 0] 81) = wa
    generalize hqq : w.heap.size = q
    have HB : Hid (Blk wa q #[.int .i64 (fr : Nat), .int .i64 (t0 : Nat), .slice none 0 0] 81) := Lib.hid (by rw [← hwa, ← hqq]; exact Blk.new _ _ _)
    have HQQ := Lib.hid hqq
    have HW : Hid (Below w.heap.size w wa) := Lib.hid (by rw [← hwa]; exact (Below.refl _ _).alloc (Nat.le_refl _) _)
    have x0 : wa.cell? ⟨q, 0, none⟩ = some (.int .i64 (fr : Nat)) := HB.out.cell rfl
    have x1 : wa.cell? ⟨q, 1, none⟩ = some (.int .i64 (t0 : Nat)) := HB.out.cell rfl
    have f1 := HB.out.free 1
    clear hwa hqq hq hq2
    obtain ⟨z, hz⟩ : ∃ z : Int, z = ((to : Nat) : Int) := ⟨_, rfl⟩
    rw [← hz] at hq3
    have HZ := Lib.hid hz
    clear hz
    go_region
    go_wp2
    all_goals
      go_ret
      refine ⟨q, rfl, Nat.le_of_eq HQQ.out, ⟨?_, RdQ.nil _ _, Nat.le_refl _, l1, l2, by omega⟩, (HW.out.setCell (p := ⟨q, 1, none⟩) (Nat.le_of_eq HQQ.out) _).drew⟩
      first
        | (have e : t0 = to := by
            have h3 := hq3
            rw [HZ.out] at h3
            split at h3 <;> omega
           rw [← e]
           exact (HB.out.set (i := 1) _).drew)
        | (have e : fr = to := by
            have h3 := hq3
            rw [HZ.out] at h3
            split at h3 <;> omega
           rw [← e]
           exact (HB.out.set (i := 1) _).drew)
        | (trace_state; sorry)
/-- Touch, over the list of a table's cards. -/
theorem qtouch_all {w : World} {q fr to M c : Nat} {A : Option Addr} (h : QM w q fr to A (popM (ncard fr to) M) c (allL fr (ncard fr to) M)) (_ : M < 2 ^ ncard fr to) (x : Int) :
    Calls Tryd.prog 59 #[.pointer (some ⟨q, 0, none⟩), .int .i64 x] w fun e w' => e = .returned (.bool (newB (ncard fr to) M (cardI fr to x))) ∧ (∃ A' c', QM w' q fr to A' (popM (ncard fr to) (setM (ncard fr to) M (cardI fr to x))) c' (allL fr (ncard fr to) (setM (ncard fr to) M (cardI fr to x)))) ∧ w.grownBy w' (some q) := by
  rcases qk_card (fr := fr) (to := to) x with ⟨e1, e2⟩ | ⟨k, e1, e2, hk⟩
  · rw [e2, newB_neg, setM_neg]
    refine (qtouch_no1 h x (by omega)).mono fun e w' ⟨he, hw⟩ => ?_
    subst hw
    exact ⟨he, ⟨_, _, h⟩, only_refl _ _⟩
  · rw [e2]
    cases hb : M.testBit k
    · have hn : newB (ncard fr to) M (k : Int) = true := by rw [newB_eq, hasB_nat, hb]; simp; omega
      have hs : setM (ncard fr to) M (k : Int) = sb M k := by unfold setM; rw [if_pos (by omega)]; simp
      obtain ⟨P, S, q1, q2, q3, q4⟩ := all_touch (fr := fr) hk hb
      have hp := popM_new hn
      have hle := popM_le (ncard fr to) (setM (ncard fr to) M (k : Int))
      have hnc := ncard_le (fr := fr) h.le4
      rw [hp, hn, hs, q2]
      rw [q1] at h
      rw [← e1] at q3 q4 ⊢
      exact qtouch_yes h x (by omega) q3 q4 (by omega)
    · have hn : newB (ncard fr to) M (k : Int) = false := by rw [newB_eq, hasB_nat, hb]; simp
      rw [hn, setM_old hn]
      refine (qtouch_no2 h x (by omega) ((qk_mem x).1 ⟨by rw [e2, hasB_nat]; exact hb, by omega⟩)).mono fun e w' ⟨he, hw⟩ => ?_
      subst hw
      exact ⟨he, ⟨_, _, h⟩, only_refl _ _⟩
/-- Dirty, over the list of a table's cards. -/
theorem qdirty_all {w : World} {q fr to M c : Nat} {A : Option Addr} (h : QM w q fr to A (popM (ncard fr to) M) c (allL fr (ncard fr to) M)) (_ : M < 2 ^ ncard fr to) (x : Int) :
    Calls Tryd.prog 60 #[.pointer (some ⟨q, 0, none⟩), .int .i64 x] w fun e w' => e = .returned (.bool (hasB M (cardI fr to x))) ∧ w = w' := by
  have e : decide (qk fr to x ∈ allL fr (ncard fr to) M) = hasB M (cardI fr to x) := by
    rw [Bool.eq_iff_iff, decide_eq_true_iff]
    refine ⟨fun q => ((qk_mem x).2 q).1, fun q => (qk_mem x).1 ⟨q, ?_⟩⟩
    rcases qk_card (fr := fr) (to := to) x with ⟨_, e2⟩ | ⟨k, _, e2, hk⟩ <;> omega
  rw [← e]
  exact qdirty_any h x
/-- Take, over the list of a table's cards: none. -/
theorem qtake_none_all {w : World} {q fr to M c : Nat} {A : Option Addr} (h : QM w q fr to A (popM (ncard fr to) M) c (allL fr (ncard fr to) M)) (hM : M < 2 ^ ncard fr to) (hz : nextM (ncard fr to) M 0 < 0) :
    Calls Tryd.prog 61 #[.pointer (some ⟨q, 0, none⟩)] w fun e w' => e = .returned (.tuple #[.int .i64 0, .int .i64 0, .bool false]) ∧ w = w' := by
  have hd : dl M (ncard fr to) = [] := dl_end (p := 0) (Nat.zero_le _) hM hz
  have hp : popM (ncard fr to) M = 0 := by rw [← allL_len fr]; unfold allL; rw [hd]; rfl
  rw [hp] at h
  exact qtake_none h
/-- Take, over the list of a table's cards: the first one. -/
theorem qtake_some_all {w : World} {q fr to M c k : Nat} {A : Option Addr} (h : QM w q fr to A (popM (ncard fr to) M) c (allL fr (ncard fr to) M)) (hM : M < 2 ^ ncard fr to) (hz : nextM (ncard fr to) M 0 = (k : Int)) :
    Calls Tryd.prog 61 #[.pointer (some ⟨q, 0, none⟩)] w fun e w' => e = .returned (.tuple #[.int .i64 ((fr : Int) + (k : Int) * 16), .int .i64 (if (to : Int) < (fr : Int) + ((k : Int) + 1) * 16 then (to : Int) else (fr : Int) + ((k : Int) + 1) * 16), .bool true]) ∧
      (∃ A' c', QM w' q fr to A' (popM (ncard fr to) (clrM M (k : Int))) c' (allL fr (ncard fr to) (clrM M (k : Int)))) ∧ w.grownBy w' (some q) := by
  obtain ⟨S, q1, q2⟩ := all_take (fr := fr) hM hz
  have l1 := allL_len fr (ncard fr to) M
  have l2 := allL_len fr (ncard fr to) (clrM M (k : Int))
  rw [q1] at l1
  rw [q2] at l2
  rw [List.length_cons, l2] at l1
  rw [q1, ← l1] at h
  rw [q2]
  have hnc := ncard_le (fr := fr) h.le4
  have hk := (nextM_bd hM 0).2
  have h1 := h.le
  have h2 := h.le4
  rw [show (fr : Int) + ((k : Int) + 1) * 16 = (fr : Int) + (k : Int) * 16 + 16 by omega]
  exact qtake_some h (by omega) (by omega)
end Go.Proofs.YtdfpmgpdkajhkaaDoor
