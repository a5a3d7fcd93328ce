/-
  The row and the tied card of the law CardPlays: for every input the given Go function returns true and its arguments read afterwards as before, where the library's table lies as its initialiser lays it (the card ties that to the program's text). No other condition.
-/
import Derived.Test.YtdfpmgpdkajhkaaDoorRows
import Derived.Test.YtdfpmgpdkajhkaaDoorCards
import Derived.Test.YtdfpmgpdkajhkaaDoorTie
import Derived.Test.YtdfpmgpdkajhkaaDoorTabl
import Derived.Test.YtdfpmgpdkajhkaaDoorArg
import Derived.Test.YtdfpmgpdkajhkaaDoorCardPlaysW
import Derived.Test.YtdfpmgpdkajhkaaDoorStr
import Derived.WalkKit
import Derived.ProofKit
import Derived.OpenShut
import Derived.ShutString
import Derived.ChangeOld
import Derived.Below
import Derived.Lib.SmallJoins
import Derived.Deep.DeepHandedRow
import Derived.Lib.LaidTab
import Derived.SevenTiedAt
namespace Go.Proofs.YtdfpmgpdkajhkaaDoor.cardPlays
open Go.ChangeShapes Go.WideShapes Go.ChangeAt Go.RowKit Go.Joins
set_option linter.unusedVariables false

theorem contract (H : Type) (enc : TypeId × Value → H) (W : World) (base : Nat) (args : Array Value) (ds gs : List (DataW H)) (before : List MemPlace)
    (hval0 : ∀ (j : Nat) t v, Tryd.f21.params[j]? = some t → args[j]? = some v → Value.okWide Tryd.prog W .any base t v)
    (hW : DataW.Whole enc Tryd.prog Tryd.f21.params.toList Rows.cardPlaysSpec.vars false W args.toList ds gs before) (hL : laidMetH Tryd.prog Rows.cardPlaysRow.laid W) :
    Calls Tryd.prog 21 args W fun e W' => ∃ v, e = .returned v ∧ Rows.cardPlaysSpec.post enc Tryd.prog Tryd.f21 false true false false W args v W' := by
  have hT : Tab W := tab_of hL
  have hval : ∀ (j : Nat) t v, Tryd.f21.params[j]? = some t → args[j]? = some v → Value.okWide Tryd.prog W .any base t v := hval0
  have hW' := hW
  obtain ⟨p, q, hA0, hV, rfl, hfz, hnd⟩ := hW
  have hA : DataW.TrodAll enc Tryd.prog W 0 (fun _ => true) true Tryd.f21.params.toList args.toList ds p := hA0
  rw [Tryd.params21] at hA hval
  obtain ⟨v0, vs0, d0, ds0, p0, q0, hargs, rfl, rfl, h0, r0⟩ := trodAll_cons hA
  obtain ⟨v1, vs1, d1, ds1, p1, q1, rfl, rfl, rfl, h1, r1⟩ := trodAll_cons r0
  obtain ⟨v2, vs2, d2, ds2, p2, q2, rfl, rfl, rfl, h2, r2⟩ := trodAll_cons r1
  obtain ⟨rfl, rfl, rfl⟩ := trodAll_nil r2
  obtain rfl : args = #[v0, v1, v2] := by cases args; simp_all
  obtain ⟨rfl, rfl⟩ := trodVars_none hV
  have k0 := h0
  have lt0 : ∀ x ∈ p0, x.block < W.heap.size := by obtain ⟨m, hm⟩ := k0; exact DataW.trod_lt m _ _ _ hm
  obtain ⟨a0, rfl, rfl, rfl, w0⟩ := open_int Tryd.underlying3 (hval 0 3 v0 rfl rfl) h0
  have k1 := h1
  have lt1 : ∀ x ∈ p1, x.block < W.heap.size := by obtain ⟨m, hm⟩ := k1; exact DataW.trod_lt m _ _ _ hm
  obtain ⟨a1, rfl, rfl, rfl, w1⟩ := open_int Tryd.underlying3 (hval 1 3 v1 rfl rfl) h1
  have k2 := h2
  have lt2 : ∀ x ∈ p2, x.block < W.heap.size := by obtain ⟨m, hm⟩ := k2; exact DataW.trod_lt m _ _ _ hm
  obtain ⟨a2, len2, cap2, rfl⟩ := okWide_slice Tryd.underlying75 (hval 2 75 v2 rfl rfl)
  obtain ⟨z2, w2⟩ := isStr_of_trod (k := 2) Tryd.underlying75 Tryd.underlying79 (by kernel_rfl) (by kernel_rfl) rfl (by decide) (by kernel_rfl) Tryd.underlying3 h2
  clear hA0 hval0
  refine (cardPlays_walk W a0 w0 a1 w1 a2 len2 cap2 z2 w2 hT).mono fun e W' ⟨he, bel⟩ => ?_
  subst he
  exact ⟨_, rfl, _, _, _, [], _, [], hW', trodAll_mk1 (shut_bool Tryd.underlying4 _), (trodAll_cons_mk (Below.trod laidOut (by kernel_rfl) (of_decide_eq_true (by kernel_rfl)) k0 bel lt0) (trodAll_cons_mk (Below.trod laidOut (by kernel_rfl) (of_decide_eq_true (by kernel_rfl)) k1 bel lt1) (trodAll_cons_mk (Below.trod laidOut (by kernel_rfl) (of_decide_eq_true (by kernel_rfl)) k2 bel lt2) trodAll_mk0))), rfl, bel.frame _, fun h => by cases h⟩

theorem laid_met (os : Os) : laidMet Tryd.prog Rows.cardPlaysRow.laid ((laidWorld os).forCall (fun _ _ => 0) ⟨#[], #[.int .i64 0, .int .i64 0, .slice none 0 0], []⟩).memory :=
  laidMet_of_run' 8 (by kernel_rfl) (by kernel_rfl)
theorem reads (os : Os) {H : Type} (enc : TypeId × Value → H) : ∃ places, DataW.whole enc Tryd.prog ((laidWorld os).forCall (fun _ _ => 0) ⟨#[], #[.int .i64 0, .int .i64 0, .slice none 0 0], []⟩).memory Tryd.f21.params.toList Rows.cardPlaysSpec.vars false (#[.int .i64 0, .int .i64 0, .slice none 0 0] : Array Value).toList 8 = some ([.lit (.int .i64 0), .lit (.int .i64 0), .nil], [], places) :=
  ⟨[], by kernel_rfl⟩

set_option maxRecDepth 100000 in
theorem lifted (os : Os) (started : os.Started) (H : Type) (enc : TypeId × Value → H) (F : Stop.Interp) :
    ReturnsInHanded {} Tryd.checked os 21 .any ((OpenSpec.ofChange Rows.cardPlaysSpec).preRow enc Tryd.prog Tryd.f21 Rows.cardPlaysRow.domain false Rows.cardPlaysRow.laid) (((OpenSpec.ofChange Rows.cardPlaysSpec).at F).post enc Tryd.prog Tryd.f21 false true false false) := by
  obtain ⟨places, hx⟩ := reads os enc
  refine returnsInHanded_of_row (C := Tryd.checked) (s := OpenSpec.ofChange Rows.cardPlaysSpec) own started (by kernel_rfl) Tryd.func21
    (witness_row_at (enc := enc) (C := Tryd.checked) false (laidWorld os) #[.int .i64 0, .int .i64 0, .slice none 0 0] rfl (by kernel_rfl) (by kernel_rfl) (by kernel_rfl)
      (OpenSpec.preRow_of_cond 8 hx (by kernel_rfl) (fun k hk => by cases hk) (by kernel_rfl) (laid_met os))) ?_
  intro W base args ds gs before hval hW _ _ _ hL _ _
  exact contract H enc W base args ds gs before hval hW hL

theorem said : Rows.CardPlaysSaid :=
  OpenClaim.holds_of_cond 21 Tryd.f21 rfl rfl rfl rfl rfl rfl rfl ⟨rfl, rfl, rfl, rfl, rfl⟩ rfl rfl rfl rfl rfl (by kernel_rfl) Tryd.func21 (by kernel_rfl)
    (of_decide_eq_true (by kernel_rfl)) (by unfold Func.isWrapper; first | (rw [if_pos (by decide +kernel)]; kernel_rfl) | (rw [if_neg (by decide +kernel)]; exact ⟨rfl, rfl⟩))
    (fun os started H enc _ F => by rw [OpenClaim.pre_eq_preRow]; exact lifted os started H enc F)
theorem plain (f : FuncId) (fn : Func) (hf : Tryd.pinned.checked.prog.funcNamed "gleaning/gleaninglaw07.CardPlays" = some f) (hfn : Tryd.pinned.checked.prog.funcs[f]? = some fn) :
    false = Tryd.pinned.checked.prog.looks [] ∧ ∀ (j : Nat) t, fn.params[j]? = some t → Tryd.pinned.checked.prog.wantsStandIn t = false := by
  obtain rfl : f = 21 := Option.some.inj ((show Tryd.prog.funcNamed "gleaning/gleaninglaw07.CardPlays" = some 21 by kernel_rfl).symm.trans hf) |>.symm
  obtain rfl : fn = Tryd.f21 := (Option.some.inj (Tryd.func21.symm.trans hfn)).symm
  refine ⟨by kernel_rfl, fun j t ht => ?_⟩
  have hall : (Tryd.f21.params.all fun t => !(Tryd.prog.wantsStandIn t)) = true := by kernel_rfl
  have h1 := Array.all_eq_true_iff_forall_mem.1 hall t (Array.mem_of_getElem? ht)
  exact (show Tryd.prog.wantsStandIn t = false by rwa [Bool.not_eq_true'] at h1)
end Go.Proofs.YtdfpmgpdkajhkaaDoor.cardPlays
namespace Go.Proofs.YtdfpmgpdkajhkaaDoor
/-- The given statement: the tied card. -/
theorem cardPlays_holds : Rows.CardPlaysCardSaid :=
  Claim7.holds_tied_plain_at .later [] _ _ _ _ cardPlays.said (fun _ h => by cases h) (by kernel_rfl) (fun _ h => by cases h) cardPlays_row_tie rfl ⟨rfl, rfl⟩ (by kernel_rfl) rfl cardPlays.plain (by kernel_rfl)
#print axioms cardPlays_holds
end Go.Proofs.YtdfpmgpdkajhkaaDoor
