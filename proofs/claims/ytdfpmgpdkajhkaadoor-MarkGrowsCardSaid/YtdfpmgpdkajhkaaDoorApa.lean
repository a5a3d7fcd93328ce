/-
  append of a slice of ints, nil or not, onto one of the call's own. Premises in each theorem.
-/
import Derived.Test.YtdfpmgpdkajhkaaDoorOw
import Derived.Test.YtdfpmgpdkajhkaaDoorGrd
import Derived.Test.YtdfpmgpdkajhkaaDoorRd
import Derived.Deep.Upon
namespace Go.Proofs.YtdfpmgpdkajhkaaDoor
open Go.RowKit
theorem app_nothing {w : World} {base n c d : Nat} {A : Option Addr} {xs : List Int} {ty : TypeId} (h : Own w base A n c xs) : (Builtin.append_ #[28, 28] ty #[.slice A n c, .slice none 0 d]).run Tryd.prog w = .ok (.slice A n c) w := by
  obtain ⟨i, hi, h0, h1, h2⟩ := info_parts info3
  have hu := Tryd.underlying28
  rcases h.2.2 with ⟨hv, _⟩ | ⟨g, cap, cur, hv, _, _, hn, _⟩
  · rw [hv]
    simp [Builtin.append_, run_underlying hu, sizeOf, typeInfo, hi, Builtin.lenOf, Builtin.firstCells]
  · injection hv with e1 e2 e3
    subst e1 e3
    simp [Builtin.append_, run_underlying hu, sizeOf, typeInfo, hi, Builtin.lenOf, Builtin.firstCells, hn, storeCells]
theorem run_app_ints {w : World} {base n c m d : Nat} {A B : Option Addr} {xs ys : List Int} {ty : TypeId} (h : Own w base A n c xs) (hr : Rd w B m ys) (hlen : n + m ≤ 2000000) (hbase : base ≤ w.heap.size) :
    ∃ A' c' w', (Builtin.append_ #[28, 28] ty #[.slice A n c, .slice B m d]).run Tryd.prog w = .ok (.slice A' (n + m) c') w' ∧ Own w' base A' (n + m) c' (xs ++ ys) ∧ w.grownBy w' (Value.slice A n c).ownBlock ∧
      ((Value.slice A' (n + m) c').ownBlock = (Value.slice A n c).ownBlock ∨ (Value.slice A' (n + m) c').ownBlock = some w.heap.size) := by
  by_cases hB : B = none
  · subst hB
    have hm : m = 0 := by
      rcases Nat.eq_zero_or_pos m with h0 | h0
      · exact h0
      · obtain ⟨g, off, e, _⟩ := hr.2 h0
        cases e
    subst hm
    have hy : ys = [] := List.eq_nil_of_length_eq_zero hr.1
    subst hy
    exact ⟨A, c, w, app_nothing h, by simpa using h, World.grownBy.refl w _, .inl rfl⟩
  · obtain ⟨ad, rfl⟩ : ∃ ad, B = some ad := by
      cases B with
      | none => exact absurd rfl hB
      | some ad => exact ⟨ad, rfl⟩
    obtain ⟨i, hi, h0, h1, h2⟩ := info_parts info3
    obtain ⟨v', w', hrun, q2, q3, q4, q5⟩ := run_append_own_at (P := Tryd.prog) w base 28 ty 3 i (.int .i64 0) 1 8 Tryd.underlying28 hi h0 h1 h2 rfl (by decide) (.slice A n c) n _ h.2 ad m d (ys.map fun x => Value.int .i64 x)
      (by simp [hr.1]) (fun j u hu => by
        have hj : j < m := by
          have := (List.getElem?_eq_some_iff.1 hu).1
          rw [List.length_map, hr.1] at this
          exact this
        obtain ⟨g, off, e, _, hc⟩ := hr.2 (by omega)
        have e := Option.some.inj e
        subst e
        rw [add_at, hc j hj]
        rw [List.getElem?_map, List.getElem?_eq_getElem (by rw [hr.1]; exact hj)] at hu
        simp only [Option.map_some] at hu
        rw [← hu, List.getD_eq_getElem?_getD, List.getElem?_eq_getElem (by rw [hr.1]; exact hj)]
        rfl) (fun u hu => by
        simp only [List.mem_map] at hu
        obtain ⟨x, _, e⟩ := hu
        subst e
        rfl) (by unfold maxLen; omega) (by omega) hbase
    have hform : ∃ A' c', v' = .slice A' (n + m) c' := by
      rcases q2.2 with ⟨e, q⟩ | ⟨g, cap, cur, hv, _⟩
      · exact ⟨none, 0, by rw [e, q]⟩
      · exact ⟨_, _, hv⟩
    obtain ⟨A', c', rfl⟩ := hform
    exact ⟨A', c', w', hrun, ⟨by simp [h.1, hr.1], by simpa using q2⟩, q3, q5⟩
theorem app_ints {ops : Array Oper} {rest : List Oper} {o : Oper} {a : Act} {Q : Exit → Act → World → Prop} (hgd : o.guard = none) (s x : Operand)
    (ho : o.op = .call { callee := .builtin .append, args := #[s, x], argTypes := #[28, 28] }) (w : World) (base : Nat) (A : Option Addr) (n c : Nat) (xs : List Int) (B : Option Addr) (m d : Nat) (ys : List Int)
    (hs : a.eval s = .slice A n c) (hx : a.eval x = .slice B m d) (hown : Own w base A n c xs) (hr : Rd w B m ys) (hlen : n + m ≤ 2000000) (hbase : base ≤ w.heap.size)
    (h : ∀ A' c' w', Own w' base A' (n + m) c' (xs ++ ys) → w.grownBy w' (Value.slice A n c).ownBlock → ((Value.slice A' (n + m) c').ownBlock = (Value.slice A n c).ownBlock ∨ (Value.slice A' (n + m) c').ownBlock = some w.heap.size) → wpList Tryd.prog ops Q rest (a.put o.dst (.slice A' (n + m) c')) w') :
    wpList Tryd.prog ops Q (o :: rest) a w :=
  wpList_plain hgd fun K hK => by
    obtain ⟨A', c', w', hrun, h2, h3, h4⟩ := run_app_ints (ty := o.type) (d := d) hown hr hlen hbase
    unfold Oper.wp execOp
    simp only [ho, resolve, invoke, builtin, Sem.run_bind, Sem.run_pure, Result.andThen_ok, List.map_toArray, List.map_cons, List.map_nil, hs, hx, hrun]
    exact hK _ _ (h A' c' w' h2 h3 h4)
/-- An empty slice that was just made. -/
theorem own_empty {w : World} {base : Nat} (hb : base ≤ w.heap.size) : Own (w.alloc (.cells #[] 3)) base (some ⟨w.heap.size, 0, none⟩) 0 0 [] :=
  ⟨rfl, rfl, .inr ⟨w.heap.size, 0, #[], rfl, hb, Blk.new w #[] 3, by omega, by unfold maxLen; omega, rfl, rfl⟩⟩
end Go.Proofs.YtdfpmgpdkajhkaaDoor
