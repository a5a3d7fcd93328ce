/-
  NARROWER THAN 'FOR EVERY INPUT', by the rows' own cells (each row's printed sentence says how): CardNil: laid · CardOnce: laid · BitsWalk: laid · BitsSome: laid · BitsEdges: laid · BitsPlay: laid · BitsBack: laid · BitsNil: laid · CardTakes: laid · CardNear: laid · CardWhole: laid · MarkReaches: laid · MarkOrder: laid · MarkGrows: laid · MarkAsks: laid · MarkChain: laid · MarkOdd: laid · MarkRings: laid · CardPlays: laid.
  DERIVED. THE GIVEN ROWS OF THIS SEAT. 19 by the template 'for every input the law returns true; each argument reads behind the call as it read before'; 0 by the template 'total and deterministic' (their statements: YtdfpmgpdkajhkaaDoorTotals.lean).
  GIVEN WITH THE SEED: the statements are not yours to turn. If you find one false, say at which input.
  Laid BY PROGRAM, IN A SANDBOX (cutbox-rows.mjs): the forced cells as the released guide's own fill.sh prints them over the translation 66f5aa739dffacef… (all of the seat's roots in one cut). By AI agents, Wed Nov 11 2026. No macro, syntax, notation, axiom, sorry.
-/
import Derived.Test.YtdfpmgpdkajhkaaDoorChecked
import GoSem.Claim
import GoSem.ClaimJoined
import GoSem.ClaimMapViews
import Derived.JoinedTies
import Derived.KernelRfl
namespace Go.Proofs.YtdfpmgpdkajhkaaDoor
/- THE CELL 'sum', in the pinned program and in every row, IS THE sha256 OF THE DUMP (.gsa) THAT YtdfpmgpdkajhkaaDoorProg.lean LOADS. Nothing in Lean hashes anything: it is a label: what it is worth is what the hold of that sum in a sandbox is worth. -/
noncomputable def Tryd.pinned : Pinned := { name := "ytdfpmgpdkajhkaadoor", sum := "66f5aa739dffaceffe1074f475f5c6a368ab8c92621f934006012bf8dadb477e", checked := Tryd.checked }
namespace Rows
def none {H : Type} : Left H := { results := [], args := [] }

/- WHAT THE LISTED PACKAGE-LEVEL VARIABLES READ AS WHEN THE CALL BEGINS. Each datum BY PROGRAM (the guide's laid-datum.mjs) off the statement by which the dump's own 'gosem.cut.vars' lays the variable. In a bare row this is a premise. The card (YtdfpmgpdkajhkaaDoorCards.lean) ties it to the program's text. -/
def laid_math_bits_deBruijn64tab {H : Type} : DataW H := .agg [.lit (.int .u8 0), .lit (.int .u8 1), .lit (.int .u8 56), .lit (.int .u8 2), .lit (.int .u8 57), .lit (.int .u8 49), .lit (.int .u8 28), .lit (.int .u8 3), .lit (.int .u8 61), .lit (.int .u8 58), .lit (.int .u8 42), .lit (.int .u8 50), .lit (.int .u8 38), .lit (.int .u8 29), .lit (.int .u8 17), .lit (.int .u8 4), .lit (.int .u8 62), .lit (.int .u8 47), .lit (.int .u8 59), .lit (.int .u8 36), .lit (.int .u8 45), .lit (.int .u8 43), .lit (.int .u8 51), .lit (.int .u8 22), .lit (.int .u8 53), .lit (.int .u8 39), .lit (.int .u8 33), .lit (.int .u8 30), .lit (.int .u8 24), .lit (.int .u8 18), .lit (.int .u8 12), .lit (.int .u8 5), .lit (.int .u8 63), .lit (.int .u8 55), .lit (.int .u8 48), .lit (.int .u8 27), .lit (.int .u8 60), .lit (.int .u8 41), .lit (.int .u8 37), .lit (.int .u8 16), .lit (.int .u8 46), .lit (.int .u8 35), .lit (.int .u8 44), .lit (.int .u8 21), .lit (.int .u8 52), .lit (.int .u8 32), .lit (.int .u8 23), .lit (.int .u8 11), .lit (.int .u8 54), .lit (.int .u8 26), .lit (.int .u8 40), .lit (.int .u8 15), .lit (.int .u8 34), .lit (.int .u8 20), .lit (.int .u8 31), .lit (.int .u8 10), .lit (.int .u8 25), .lit (.int .u8 14), .lit (.int .u8 19), .lit (.int .u8 9), .lit (.int .u8 13), .lit (.int .u8 8), .lit (.int .u8 7), .lit (.int .u8 6)]

/-- 'gleaninglaw07.CardNil': WHATEVER THE INPUT: true; the input reads as it did. -/
def cardNilSpec : ChangeSpec := { name := "cardNil", fn := fun _ => fun
  | [d] => { results := [.lit (.bool true)], args := [d] }
  | _ => none }
def cardNilRow : OpenClaim := { program := "ytdfpmgpdkajhkaadoor", sum := "66f5aa739dffaceffe1074f475f5c6a368ab8c92621f934006012bf8dadb477e", func := "gleaning/gleaninglaw07.CardNil", spec := "cardNil", named := ["math/bits.deBruijn64tab"], apart := false, laid := [("math/bits.deBruijn64tab", laid_math_bits_deBruijn64tab)] }
def CardNilSaid : Prop := cardNilRow.holds Tryd.pinned (OpenSpec.ofChange cardNilSpec)

/-- ITS FALSE NEIGHBOUR: 'it returns false'. Refute it at one input. -/
def cardNilWrong : ChangeSpec := { name := "cardNil", fn := fun _ => fun
  | [d] => { results := [.lit (.bool false)], args := [d] }
  | _ => none }
def CardNilWrongFalsely : Prop := cardNilRow.holds Tryd.pinned (OpenSpec.ofChange cardNilWrong)

/-- 'gleaninglaw07.CardOnce': WHATEVER THE INPUT: true; the input reads as it did. -/
def cardOnceSpec : ChangeSpec := { name := "cardOnce", fn := fun _ => fun
  | [d1, d2, d3] => { results := [.lit (.bool true)], args := [d1, d2, d3] }
  | _ => none }
def cardOnceRow : OpenClaim := { program := "ytdfpmgpdkajhkaadoor", sum := "66f5aa739dffaceffe1074f475f5c6a368ab8c92621f934006012bf8dadb477e", func := "gleaning/gleaninglaw07.CardOnce", spec := "cardOnce", named := ["math/bits.deBruijn64tab"], apart := false, laid := [("math/bits.deBruijn64tab", laid_math_bits_deBruijn64tab)] }
def CardOnceSaid : Prop := cardOnceRow.holds Tryd.pinned (OpenSpec.ofChange cardOnceSpec)

/-- ITS FALSE NEIGHBOUR: 'it returns false'. Refute it at one input. -/
def cardOnceWrong : ChangeSpec := { name := "cardOnce", fn := fun _ => fun
  | [d1, d2, d3] => { results := [.lit (.bool false)], args := [d1, d2, d3] }
  | _ => none }
def CardOnceWrongFalsely : Prop := cardOnceRow.holds Tryd.pinned (OpenSpec.ofChange cardOnceWrong)

/-- 'gleaninglaw03.BitsWalk': WHATEVER THE INPUT: true; the input reads as it did. -/
def bitsWalkSpec : ChangeSpec := { name := "bitsWalk", fn := fun _ => fun
  | [d1, d2, d3] => { results := [.lit (.bool true)], args := [d1, d2, d3] }
  | _ => none }
def bitsWalkRow : OpenClaim := { program := "ytdfpmgpdkajhkaadoor", sum := "66f5aa739dffaceffe1074f475f5c6a368ab8c92621f934006012bf8dadb477e", func := "gleaning/gleaninglaw03.BitsWalk", spec := "bitsWalk", named := ["math/bits.deBruijn64tab"], apart := false, laid := [("math/bits.deBruijn64tab", laid_math_bits_deBruijn64tab)] }
def BitsWalkSaid : Prop := bitsWalkRow.holds Tryd.pinned (OpenSpec.ofChange bitsWalkSpec)

/-- ITS FALSE NEIGHBOUR: 'it returns false'. Refute it at one input. -/
def bitsWalkWrong : ChangeSpec := { name := "bitsWalk", fn := fun _ => fun
  | [d1, d2, d3] => { results := [.lit (.bool false)], args := [d1, d2, d3] }
  | _ => none }
def BitsWalkWrongFalsely : Prop := bitsWalkRow.holds Tryd.pinned (OpenSpec.ofChange bitsWalkWrong)

/-- 'gleaninglaw03.BitsSome': WHATEVER THE INPUT: true; the input reads as it did. -/
def bitsSomeSpec : ChangeSpec := { name := "bitsSome", fn := fun _ => fun
  | [d1, d2, d3, d4] => { results := [.lit (.bool true)], args := [d1, d2, d3, d4] }
  | _ => none }
def bitsSomeRow : OpenClaim := { program := "ytdfpmgpdkajhkaadoor", sum := "66f5aa739dffaceffe1074f475f5c6a368ab8c92621f934006012bf8dadb477e", func := "gleaning/gleaninglaw03.BitsSome", spec := "bitsSome", named := ["math/bits.deBruijn64tab"], apart := false, laid := [("math/bits.deBruijn64tab", laid_math_bits_deBruijn64tab)] }
def BitsSomeSaid : Prop := bitsSomeRow.holds Tryd.pinned (OpenSpec.ofChange bitsSomeSpec)

/-- ITS FALSE NEIGHBOUR: 'it returns false'. Refute it at one input. -/
def bitsSomeWrong : ChangeSpec := { name := "bitsSome", fn := fun _ => fun
  | [d1, d2, d3, d4] => { results := [.lit (.bool false)], args := [d1, d2, d3, d4] }
  | _ => none }
def BitsSomeWrongFalsely : Prop := bitsSomeRow.holds Tryd.pinned (OpenSpec.ofChange bitsSomeWrong)

/-- 'gleaninglaw03.BitsEdges': WHATEVER THE INPUT: true; the input reads as it did. -/
def bitsEdgesSpec : ChangeSpec := { name := "bitsEdges", fn := fun _ => fun
  | [d1, d2] => { results := [.lit (.bool true)], args := [d1, d2] }
  | _ => none }
def bitsEdgesRow : OpenClaim := { program := "ytdfpmgpdkajhkaadoor", sum := "66f5aa739dffaceffe1074f475f5c6a368ab8c92621f934006012bf8dadb477e", func := "gleaning/gleaninglaw03.BitsEdges", spec := "bitsEdges", named := ["math/bits.deBruijn64tab"], apart := false, laid := [("math/bits.deBruijn64tab", laid_math_bits_deBruijn64tab)] }
def BitsEdgesSaid : Prop := bitsEdgesRow.holds Tryd.pinned (OpenSpec.ofChange bitsEdgesSpec)

/-- ITS FALSE NEIGHBOUR: 'it returns false'. Refute it at one input. -/
def bitsEdgesWrong : ChangeSpec := { name := "bitsEdges", fn := fun _ => fun
  | [d1, d2] => { results := [.lit (.bool false)], args := [d1, d2] }
  | _ => none }
def BitsEdgesWrongFalsely : Prop := bitsEdgesRow.holds Tryd.pinned (OpenSpec.ofChange bitsEdgesWrong)

/-- 'gleaninglaw03.BitsPlay': WHATEVER THE INPUT: true; the input reads as it did. -/
def bitsPlaySpec : ChangeSpec := { name := "bitsPlay", fn := fun _ => fun
  | [d1, d2] => { results := [.lit (.bool true)], args := [d1, d2] }
  | _ => none }
def bitsPlayRow : OpenClaim := { program := "ytdfpmgpdkajhkaadoor", sum := "66f5aa739dffaceffe1074f475f5c6a368ab8c92621f934006012bf8dadb477e", func := "gleaning/gleaninglaw03.BitsPlay", spec := "bitsPlay", named := ["math/bits.deBruijn64tab"], apart := false, laid := [("math/bits.deBruijn64tab", laid_math_bits_deBruijn64tab)] }
def BitsPlaySaid : Prop := bitsPlayRow.holds Tryd.pinned (OpenSpec.ofChange bitsPlaySpec)

/-- ITS FALSE NEIGHBOUR: 'it returns false'. Refute it at one input. -/
def bitsPlayWrong : ChangeSpec := { name := "bitsPlay", fn := fun _ => fun
  | [d1, d2] => { results := [.lit (.bool false)], args := [d1, d2] }
  | _ => none }
def BitsPlayWrongFalsely : Prop := bitsPlayRow.holds Tryd.pinned (OpenSpec.ofChange bitsPlayWrong)

/-- 'gleaninglaw03.BitsBack': WHATEVER THE INPUT: true; the input reads as it did. -/
def bitsBackSpec : ChangeSpec := { name := "bitsBack", fn := fun _ => fun
  | [d1, d2] => { results := [.lit (.bool true)], args := [d1, d2] }
  | _ => none }
def bitsBackRow : OpenClaim := { program := "ytdfpmgpdkajhkaadoor", sum := "66f5aa739dffaceffe1074f475f5c6a368ab8c92621f934006012bf8dadb477e", func := "gleaning/gleaninglaw03.BitsBack", spec := "bitsBack", named := ["math/bits.deBruijn64tab"], apart := false, laid := [("math/bits.deBruijn64tab", laid_math_bits_deBruijn64tab)] }
def BitsBackSaid : Prop := bitsBackRow.holds Tryd.pinned (OpenSpec.ofChange bitsBackSpec)

/-- ITS FALSE NEIGHBOUR: 'it returns false'. Refute it at one input. -/
def bitsBackWrong : ChangeSpec := { name := "bitsBack", fn := fun _ => fun
  | [d1, d2] => { results := [.lit (.bool false)], args := [d1, d2] }
  | _ => none }
def BitsBackWrongFalsely : Prop := bitsBackRow.holds Tryd.pinned (OpenSpec.ofChange bitsBackWrong)

/-- 'gleaninglaw03.BitsNil': WHATEVER THE INPUT: true; the input reads as it did. -/
def bitsNilSpec : ChangeSpec := { name := "bitsNil", fn := fun _ => fun
  | [d1, d2] => { results := [.lit (.bool true)], args := [d1, d2] }
  | _ => none }
def bitsNilRow : OpenClaim := { program := "ytdfpmgpdkajhkaadoor", sum := "66f5aa739dffaceffe1074f475f5c6a368ab8c92621f934006012bf8dadb477e", func := "gleaning/gleaninglaw03.BitsNil", spec := "bitsNil", named := ["math/bits.deBruijn64tab"], apart := false, laid := [("math/bits.deBruijn64tab", laid_math_bits_deBruijn64tab)] }
def BitsNilSaid : Prop := bitsNilRow.holds Tryd.pinned (OpenSpec.ofChange bitsNilSpec)

/-- ITS FALSE NEIGHBOUR: 'it returns false'. Refute it at one input. -/
def bitsNilWrong : ChangeSpec := { name := "bitsNil", fn := fun _ => fun
  | [d1, d2] => { results := [.lit (.bool false)], args := [d1, d2] }
  | _ => none }
def BitsNilWrongFalsely : Prop := bitsNilRow.holds Tryd.pinned (OpenSpec.ofChange bitsNilWrong)

/-- 'gleaninglaw07.CardTakes': WHATEVER THE INPUT: true; the input reads as it did. -/
def cardTakesSpec : ChangeSpec := { name := "cardTakes", fn := fun _ => fun
  | [d1, d2, d3] => { results := [.lit (.bool true)], args := [d1, d2, d3] }
  | _ => none }
def cardTakesRow : OpenClaim := { program := "ytdfpmgpdkajhkaadoor", sum := "66f5aa739dffaceffe1074f475f5c6a368ab8c92621f934006012bf8dadb477e", func := "gleaning/gleaninglaw07.CardTakes", spec := "cardTakes", named := ["math/bits.deBruijn64tab"], apart := false, laid := [("math/bits.deBruijn64tab", laid_math_bits_deBruijn64tab)] }
def CardTakesSaid : Prop := cardTakesRow.holds Tryd.pinned (OpenSpec.ofChange cardTakesSpec)

/-- ITS FALSE NEIGHBOUR: 'it returns false'. Refute it at one input. -/
def cardTakesWrong : ChangeSpec := { name := "cardTakes", fn := fun _ => fun
  | [d1, d2, d3] => { results := [.lit (.bool false)], args := [d1, d2, d3] }
  | _ => none }
def CardTakesWrongFalsely : Prop := cardTakesRow.holds Tryd.pinned (OpenSpec.ofChange cardTakesWrong)

/-- 'gleaninglaw07.CardNear': WHATEVER THE INPUT: true; the input reads as it did. -/
def cardNearSpec : ChangeSpec := { name := "cardNear", fn := fun _ => fun
  | [d1, d2, d3, d4] => { results := [.lit (.bool true)], args := [d1, d2, d3, d4] }
  | _ => none }
def cardNearRow : OpenClaim := { program := "ytdfpmgpdkajhkaadoor", sum := "66f5aa739dffaceffe1074f475f5c6a368ab8c92621f934006012bf8dadb477e", func := "gleaning/gleaninglaw07.CardNear", spec := "cardNear", named := ["math/bits.deBruijn64tab"], apart := false, laid := [("math/bits.deBruijn64tab", laid_math_bits_deBruijn64tab)] }
def CardNearSaid : Prop := cardNearRow.holds Tryd.pinned (OpenSpec.ofChange cardNearSpec)

/-- ITS FALSE NEIGHBOUR: 'it returns false'. Refute it at one input. -/
def cardNearWrong : ChangeSpec := { name := "cardNear", fn := fun _ => fun
  | [d1, d2, d3, d4] => { results := [.lit (.bool false)], args := [d1, d2, d3, d4] }
  | _ => none }
def CardNearWrongFalsely : Prop := cardNearRow.holds Tryd.pinned (OpenSpec.ofChange cardNearWrong)

/-- 'gleaninglaw07.CardWhole': WHATEVER THE INPUT: true; the input reads as it did. -/
def cardWholeSpec : ChangeSpec := { name := "cardWhole", fn := fun _ => fun
  | [d1, d2] => { results := [.lit (.bool true)], args := [d1, d2] }
  | _ => none }
def cardWholeRow : OpenClaim := { program := "ytdfpmgpdkajhkaadoor", sum := "66f5aa739dffaceffe1074f475f5c6a368ab8c92621f934006012bf8dadb477e", func := "gleaning/gleaninglaw07.CardWhole", spec := "cardWhole", named := ["math/bits.deBruijn64tab"], apart := false, laid := [("math/bits.deBruijn64tab", laid_math_bits_deBruijn64tab)] }
def CardWholeSaid : Prop := cardWholeRow.holds Tryd.pinned (OpenSpec.ofChange cardWholeSpec)

/-- ITS FALSE NEIGHBOUR: 'it returns false'. Refute it at one input. -/
def cardWholeWrong : ChangeSpec := { name := "cardWhole", fn := fun _ => fun
  | [d1, d2] => { results := [.lit (.bool false)], args := [d1, d2] }
  | _ => none }
def CardWholeWrongFalsely : Prop := cardWholeRow.holds Tryd.pinned (OpenSpec.ofChange cardWholeWrong)

/-- 'gleaninglaw14.MarkReaches': WHATEVER THE INPUT: true; the input reads as it did. -/
def markReachesSpec : ChangeSpec := { name := "markReaches", fn := fun _ => fun
  | [d1, d2, d3, d4] => { results := [.lit (.bool true)], args := [d1, d2, d3, d4] }
  | _ => none }
def markReachesRow : OpenClaim := { program := "ytdfpmgpdkajhkaadoor", sum := "66f5aa739dffaceffe1074f475f5c6a368ab8c92621f934006012bf8dadb477e", func := "gleaning/gleaninglaw14.MarkReaches", spec := "markReaches", unfollowed := true, recurses := true, named := ["math/bits.deBruijn64tab"], apart := false, laid := [("math/bits.deBruijn64tab", laid_math_bits_deBruijn64tab)] }
def MarkReachesSaid : Prop := markReachesRow.holds Tryd.pinned (OpenSpec.ofChange markReachesSpec)

/-- ITS FALSE NEIGHBOUR: 'it returns false'. Refute it at one input. -/
def markReachesWrong : ChangeSpec := { name := "markReaches", fn := fun _ => fun
  | [d1, d2, d3, d4] => { results := [.lit (.bool false)], args := [d1, d2, d3, d4] }
  | _ => none }
def MarkReachesWrongFalsely : Prop := markReachesRow.holds Tryd.pinned (OpenSpec.ofChange markReachesWrong)

/-- 'gleaninglaw14.MarkOrder': WHATEVER THE INPUT: true; the input reads as it did. -/
def markOrderSpec : ChangeSpec := { name := "markOrder", fn := fun _ => fun
  | [d1, d2, d3, d4, d5] => { results := [.lit (.bool true)], args := [d1, d2, d3, d4, d5] }
  | _ => none }
def markOrderRow : OpenClaim := { program := "ytdfpmgpdkajhkaadoor", sum := "66f5aa739dffaceffe1074f475f5c6a368ab8c92621f934006012bf8dadb477e", func := "gleaning/gleaninglaw14.MarkOrder", spec := "markOrder", unfollowed := true, recurses := true, named := ["math/bits.deBruijn64tab"], apart := false, laid := [("math/bits.deBruijn64tab", laid_math_bits_deBruijn64tab)] }
def MarkOrderSaid : Prop := markOrderRow.holds Tryd.pinned (OpenSpec.ofChange markOrderSpec)

/-- ITS FALSE NEIGHBOUR: 'it returns false'. Refute it at one input. -/
def markOrderWrong : ChangeSpec := { name := "markOrder", fn := fun _ => fun
  | [d1, d2, d3, d4, d5] => { results := [.lit (.bool false)], args := [d1, d2, d3, d4, d5] }
  | _ => none }
def MarkOrderWrongFalsely : Prop := markOrderRow.holds Tryd.pinned (OpenSpec.ofChange markOrderWrong)

/-- 'gleaninglaw14.MarkGrows': WHATEVER THE INPUT: true; the input reads as it did. -/
def markGrowsSpec : ChangeSpec := { name := "markGrows", fn := fun _ => fun
  | [d1, d2, d3, d4, d5] => { results := [.lit (.bool true)], args := [d1, d2, d3, d4, d5] }
  | _ => none }
def markGrowsRow : OpenClaim := { program := "ytdfpmgpdkajhkaadoor", sum := "66f5aa739dffaceffe1074f475f5c6a368ab8c92621f934006012bf8dadb477e", func := "gleaning/gleaninglaw14.MarkGrows", spec := "markGrows", unfollowed := true, recurses := true, named := ["math/bits.deBruijn64tab"], apart := false, laid := [("math/bits.deBruijn64tab", laid_math_bits_deBruijn64tab)] }
def MarkGrowsSaid : Prop := markGrowsRow.holds Tryd.pinned (OpenSpec.ofChange markGrowsSpec)

/-- ITS FALSE NEIGHBOUR: 'it returns false'. Refute it at one input. -/
def markGrowsWrong : ChangeSpec := { name := "markGrows", fn := fun _ => fun
  | [d1, d2, d3, d4, d5] => { results := [.lit (.bool false)], args := [d1, d2, d3, d4, d5] }
  | _ => none }
def MarkGrowsWrongFalsely : Prop := markGrowsRow.holds Tryd.pinned (OpenSpec.ofChange markGrowsWrong)

/-- 'gleaninglaw14.MarkAsks': WHATEVER THE INPUT: true; the input reads as it did. -/
def markAsksSpec : ChangeSpec := { name := "markAsks", fn := fun _ => fun
  | [d1, d2, d3, d4] => { results := [.lit (.bool true)], args := [d1, d2, d3, d4] }
  | _ => none }
def markAsksRow : OpenClaim := { program := "ytdfpmgpdkajhkaadoor", sum := "66f5aa739dffaceffe1074f475f5c6a368ab8c92621f934006012bf8dadb477e", func := "gleaning/gleaninglaw14.MarkAsks", spec := "markAsks", unfollowed := true, recurses := true, named := ["math/bits.deBruijn64tab"], apart := false, laid := [("math/bits.deBruijn64tab", laid_math_bits_deBruijn64tab)] }
def MarkAsksSaid : Prop := markAsksRow.holds Tryd.pinned (OpenSpec.ofChange markAsksSpec)

/-- ITS FALSE NEIGHBOUR: 'it returns false'. Refute it at one input. -/
def markAsksWrong : ChangeSpec := { name := "markAsks", fn := fun _ => fun
  | [d1, d2, d3, d4] => { results := [.lit (.bool false)], args := [d1, d2, d3, d4] }
  | _ => none }
def MarkAsksWrongFalsely : Prop := markAsksRow.holds Tryd.pinned (OpenSpec.ofChange markAsksWrong)

/-- 'gleaninglaw14.MarkChain': WHATEVER THE INPUT: true; the input reads as it did. -/
def markChainSpec : ChangeSpec := { name := "markChain", fn := fun _ => fun
  | [d1, d2, d3, d4] => { results := [.lit (.bool true)], args := [d1, d2, d3, d4] }
  | _ => none }
def markChainRow : OpenClaim := { program := "ytdfpmgpdkajhkaadoor", sum := "66f5aa739dffaceffe1074f475f5c6a368ab8c92621f934006012bf8dadb477e", func := "gleaning/gleaninglaw14.MarkChain", spec := "markChain", unfollowed := true, recurses := true, named := ["math/bits.deBruijn64tab"], apart := false, laid := [("math/bits.deBruijn64tab", laid_math_bits_deBruijn64tab)] }
def MarkChainSaid : Prop := markChainRow.holds Tryd.pinned (OpenSpec.ofChange markChainSpec)

/-- ITS FALSE NEIGHBOUR: 'it returns false'. Refute it at one input. -/
def markChainWrong : ChangeSpec := { name := "markChain", fn := fun _ => fun
  | [d1, d2, d3, d4] => { results := [.lit (.bool false)], args := [d1, d2, d3, d4] }
  | _ => none }
def MarkChainWrongFalsely : Prop := markChainRow.holds Tryd.pinned (OpenSpec.ofChange markChainWrong)

/-- 'gleaninglaw14.MarkOdd': WHATEVER THE INPUT: true; the input reads as it did. -/
def markOddSpec : ChangeSpec := { name := "markOdd", fn := fun _ => fun
  | [d1, d2, d3] => { results := [.lit (.bool true)], args := [d1, d2, d3] }
  | _ => none }
def markOddRow : OpenClaim := { program := "ytdfpmgpdkajhkaadoor", sum := "66f5aa739dffaceffe1074f475f5c6a368ab8c92621f934006012bf8dadb477e", func := "gleaning/gleaninglaw14.MarkOdd", spec := "markOdd", unfollowed := true, recurses := true, named := ["math/bits.deBruijn64tab"], apart := false, laid := [("math/bits.deBruijn64tab", laid_math_bits_deBruijn64tab)] }
def MarkOddSaid : Prop := markOddRow.holds Tryd.pinned (OpenSpec.ofChange markOddSpec)

/-- ITS FALSE NEIGHBOUR: 'it returns false'. Refute it at one input. -/
def markOddWrong : ChangeSpec := { name := "markOdd", fn := fun _ => fun
  | [d1, d2, d3] => { results := [.lit (.bool false)], args := [d1, d2, d3] }
  | _ => none }
def MarkOddWrongFalsely : Prop := markOddRow.holds Tryd.pinned (OpenSpec.ofChange markOddWrong)

/-- 'gleaninglaw14.MarkRings': WHATEVER THE INPUT: true; the input reads as it did. -/
def markRingsSpec : ChangeSpec := { name := "markRings", fn := fun _ => fun
  | [d1, d2, d3, d4] => { results := [.lit (.bool true)], args := [d1, d2, d3, d4] }
  | _ => none }
def markRingsRow : OpenClaim := { program := "ytdfpmgpdkajhkaadoor", sum := "66f5aa739dffaceffe1074f475f5c6a368ab8c92621f934006012bf8dadb477e", func := "gleaning/gleaninglaw14.MarkRings", spec := "markRings", unfollowed := true, recurses := true, named := ["math/bits.deBruijn64tab"], apart := false, laid := [("math/bits.deBruijn64tab", laid_math_bits_deBruijn64tab)] }
def MarkRingsSaid : Prop := markRingsRow.holds Tryd.pinned (OpenSpec.ofChange markRingsSpec)

/-- ITS FALSE NEIGHBOUR: 'it returns false'. Refute it at one input. -/
def markRingsWrong : ChangeSpec := { name := "markRings", fn := fun _ => fun
  | [d1, d2, d3, d4] => { results := [.lit (.bool false)], args := [d1, d2, d3, d4] }
  | _ => none }
def MarkRingsWrongFalsely : Prop := markRingsRow.holds Tryd.pinned (OpenSpec.ofChange markRingsWrong)

/-- 'gleaninglaw07.CardPlays': WHATEVER THE INPUT: true; the input reads as it did. -/
def cardPlaysSpec : ChangeSpec := { name := "cardPlays", fn := fun _ => fun
  | [d1, d2, d3] => { results := [.lit (.bool true)], args := [d1, d2, d3] }
  | _ => none }
def cardPlaysRow : OpenClaim := { program := "ytdfpmgpdkajhkaadoor", sum := "66f5aa739dffaceffe1074f475f5c6a368ab8c92621f934006012bf8dadb477e", func := "gleaning/gleaninglaw07.CardPlays", spec := "cardPlays", named := ["math/bits.deBruijn64tab"], apart := false, laid := [("math/bits.deBruijn64tab", laid_math_bits_deBruijn64tab)] }
def CardPlaysSaid : Prop := cardPlaysRow.holds Tryd.pinned (OpenSpec.ofChange cardPlaysSpec)

/-- ITS FALSE NEIGHBOUR: 'it returns false'. Refute it at one input. -/
def cardPlaysWrong : ChangeSpec := { name := "cardPlays", fn := fun _ => fun
  | [d1, d2, d3] => { results := [.lit (.bool false)], args := [d1, d2, d3] }
  | _ => none }
def CardPlaysWrongFalsely : Prop := cardPlaysRow.holds Tryd.pinned (OpenSpec.ofChange cardPlaysWrong)

/- THE SECOND FORM. 'bulk': how many values and letters a reading holds, each counted each time it is reached (what is shared counts as often as it is met; a slice's spare places count too). A statement '..UptoSaid' is the law's where the arguments, and the package variables that the reading takes, are together of bulk at most 1048576: NARROWER than '..Said'. Prove '..Said' where nothing that the law and all that it calls make is longer than what came in: it says more and counts as full. Else prove '..UptoSaid'. A law counts once. -/
mutual
def uptoBulk {H : Type} : DataW H → Nat
  | .lit (.string bytes) => bytes.length + 1
  | .lit _ => 1
  | .nil => 1
  | .ptr d => uptoBulk d + 1
  | .slice elems spare => uptoBulkAll elems + uptoBulkAll spare + 1
  | .agg parts => uptoBulkAll parts + 1
  | .iface _ d => uptoBulk d + 1
  | .map entries => uptoBulkEntries entries + 1
  | .held _ => 1
def uptoBulkAll {H : Type} : List (DataW H) → Nat
  | [] => 0
  | d :: r => uptoBulk d + uptoBulkAll r
def uptoBulkEntries {H : Type} : List (Lit × DataW H) → Nat
  | [] => 0
  | x :: r => uptoBulkEntry x + uptoBulkEntries r
def uptoBulkEntry {H : Type} : Lit × DataW H → Nat
  | (.string bytes, d) => bytes.length + uptoBulk d + 1
  | (_, d) => uptoBulk d + 1
 end
def uptoSmall : (H : Type) → List (DataW H) → Bool := fun _ ds => decide (uptoBulkAll ds ≤ 1048576)
def OpenSpec.upto (s : _root_.Go.ChangeSpec) : _root_.Go.OpenSpec := { _root_.Go.OpenSpec.ofChange s with cond := some uptoSmall }

/-- 'gleaninglaw07.CardNil', WHERE WHAT IT READS IS OF BULK AT MOST 1048576: true; the input reads as it did. -/
def cardNilUptoRow : OpenClaim := { program := "ytdfpmgpdkajhkaadoor", sum := "66f5aa739dffaceffe1074f475f5c6a368ab8c92621f934006012bf8dadb477e", func := "gleaning/gleaninglaw07.CardNil", spec := "cardNil", named := ["math/bits.deBruijn64tab"], apart := false, laid := [("math/bits.deBruijn64tab", laid_math_bits_deBruijn64tab)], narrowed := true }
def CardNilUptoSaid : Prop := cardNilUptoRow.holds Tryd.pinned (OpenSpec.upto cardNilSpec)

/-- 'gleaninglaw07.CardOnce', WHERE WHAT IT READS IS OF BULK AT MOST 1048576: true; the input reads as it did. -/
def cardOnceUptoRow : OpenClaim := { program := "ytdfpmgpdkajhkaadoor", sum := "66f5aa739dffaceffe1074f475f5c6a368ab8c92621f934006012bf8dadb477e", func := "gleaning/gleaninglaw07.CardOnce", spec := "cardOnce", named := ["math/bits.deBruijn64tab"], apart := false, laid := [("math/bits.deBruijn64tab", laid_math_bits_deBruijn64tab)], narrowed := true }
def CardOnceUptoSaid : Prop := cardOnceUptoRow.holds Tryd.pinned (OpenSpec.upto cardOnceSpec)

/-- 'gleaninglaw03.BitsWalk', WHERE WHAT IT READS IS OF BULK AT MOST 1048576: true; the input reads as it did. -/
def bitsWalkUptoRow : OpenClaim := { program := "ytdfpmgpdkajhkaadoor", sum := "66f5aa739dffaceffe1074f475f5c6a368ab8c92621f934006012bf8dadb477e", func := "gleaning/gleaninglaw03.BitsWalk", spec := "bitsWalk", named := ["math/bits.deBruijn64tab"], apart := false, laid := [("math/bits.deBruijn64tab", laid_math_bits_deBruijn64tab)], narrowed := true }
def BitsWalkUptoSaid : Prop := bitsWalkUptoRow.holds Tryd.pinned (OpenSpec.upto bitsWalkSpec)

/-- 'gleaninglaw03.BitsSome', WHERE WHAT IT READS IS OF BULK AT MOST 1048576: true; the input reads as it did. -/
def bitsSomeUptoRow : OpenClaim := { program := "ytdfpmgpdkajhkaadoor", sum := "66f5aa739dffaceffe1074f475f5c6a368ab8c92621f934006012bf8dadb477e", func := "gleaning/gleaninglaw03.BitsSome", spec := "bitsSome", named := ["math/bits.deBruijn64tab"], apart := false, laid := [("math/bits.deBruijn64tab", laid_math_bits_deBruijn64tab)], narrowed := true }
def BitsSomeUptoSaid : Prop := bitsSomeUptoRow.holds Tryd.pinned (OpenSpec.upto bitsSomeSpec)

/-- 'gleaninglaw03.BitsEdges', WHERE WHAT IT READS IS OF BULK AT MOST 1048576: true; the input reads as it did. -/
def bitsEdgesUptoRow : OpenClaim := { program := "ytdfpmgpdkajhkaadoor", sum := "66f5aa739dffaceffe1074f475f5c6a368ab8c92621f934006012bf8dadb477e", func := "gleaning/gleaninglaw03.BitsEdges", spec := "bitsEdges", named := ["math/bits.deBruijn64tab"], apart := false, laid := [("math/bits.deBruijn64tab", laid_math_bits_deBruijn64tab)], narrowed := true }
def BitsEdgesUptoSaid : Prop := bitsEdgesUptoRow.holds Tryd.pinned (OpenSpec.upto bitsEdgesSpec)

/-- 'gleaninglaw03.BitsPlay', WHERE WHAT IT READS IS OF BULK AT MOST 1048576: true; the input reads as it did. -/
def bitsPlayUptoRow : OpenClaim := { program := "ytdfpmgpdkajhkaadoor", sum := "66f5aa739dffaceffe1074f475f5c6a368ab8c92621f934006012bf8dadb477e", func := "gleaning/gleaninglaw03.BitsPlay", spec := "bitsPlay", named := ["math/bits.deBruijn64tab"], apart := false, laid := [("math/bits.deBruijn64tab", laid_math_bits_deBruijn64tab)], narrowed := true }
def BitsPlayUptoSaid : Prop := bitsPlayUptoRow.holds Tryd.pinned (OpenSpec.upto bitsPlaySpec)

/-- 'gleaninglaw03.BitsBack', WHERE WHAT IT READS IS OF BULK AT MOST 1048576: true; the input reads as it did. -/
def bitsBackUptoRow : OpenClaim := { program := "ytdfpmgpdkajhkaadoor", sum := "66f5aa739dffaceffe1074f475f5c6a368ab8c92621f934006012bf8dadb477e", func := "gleaning/gleaninglaw03.BitsBack", spec := "bitsBack", named := ["math/bits.deBruijn64tab"], apart := false, laid := [("math/bits.deBruijn64tab", laid_math_bits_deBruijn64tab)], narrowed := true }
def BitsBackUptoSaid : Prop := bitsBackUptoRow.holds Tryd.pinned (OpenSpec.upto bitsBackSpec)

/-- 'gleaninglaw03.BitsNil', WHERE WHAT IT READS IS OF BULK AT MOST 1048576: true; the input reads as it did. -/
def bitsNilUptoRow : OpenClaim := { program := "ytdfpmgpdkajhkaadoor", sum := "66f5aa739dffaceffe1074f475f5c6a368ab8c92621f934006012bf8dadb477e", func := "gleaning/gleaninglaw03.BitsNil", spec := "bitsNil", named := ["math/bits.deBruijn64tab"], apart := false, laid := [("math/bits.deBruijn64tab", laid_math_bits_deBruijn64tab)], narrowed := true }
def BitsNilUptoSaid : Prop := bitsNilUptoRow.holds Tryd.pinned (OpenSpec.upto bitsNilSpec)

/-- 'gleaninglaw07.CardTakes', WHERE WHAT IT READS IS OF BULK AT MOST 1048576: true; the input reads as it did. -/
def cardTakesUptoRow : OpenClaim := { program := "ytdfpmgpdkajhkaadoor", sum := "66f5aa739dffaceffe1074f475f5c6a368ab8c92621f934006012bf8dadb477e", func := "gleaning/gleaninglaw07.CardTakes", spec := "cardTakes", named := ["math/bits.deBruijn64tab"], apart := false, laid := [("math/bits.deBruijn64tab", laid_math_bits_deBruijn64tab)], narrowed := true }
def CardTakesUptoSaid : Prop := cardTakesUptoRow.holds Tryd.pinned (OpenSpec.upto cardTakesSpec)

/-- 'gleaninglaw07.CardNear', WHERE WHAT IT READS IS OF BULK AT MOST 1048576: true; the input reads as it did. -/
def cardNearUptoRow : OpenClaim := { program := "ytdfpmgpdkajhkaadoor", sum := "66f5aa739dffaceffe1074f475f5c6a368ab8c92621f934006012bf8dadb477e", func := "gleaning/gleaninglaw07.CardNear", spec := "cardNear", named := ["math/bits.deBruijn64tab"], apart := false, laid := [("math/bits.deBruijn64tab", laid_math_bits_deBruijn64tab)], narrowed := true }
def CardNearUptoSaid : Prop := cardNearUptoRow.holds Tryd.pinned (OpenSpec.upto cardNearSpec)

/-- 'gleaninglaw07.CardWhole', WHERE WHAT IT READS IS OF BULK AT MOST 1048576: true; the input reads as it did. -/
def cardWholeUptoRow : OpenClaim := { program := "ytdfpmgpdkajhkaadoor", sum := "66f5aa739dffaceffe1074f475f5c6a368ab8c92621f934006012bf8dadb477e", func := "gleaning/gleaninglaw07.CardWhole", spec := "cardWhole", named := ["math/bits.deBruijn64tab"], apart := false, laid := [("math/bits.deBruijn64tab", laid_math_bits_deBruijn64tab)], narrowed := true }
def CardWholeUptoSaid : Prop := cardWholeUptoRow.holds Tryd.pinned (OpenSpec.upto cardWholeSpec)

/-- 'gleaninglaw14.MarkReaches', WHERE WHAT IT READS IS OF BULK AT MOST 1048576: true; the input reads as it did. -/
def markReachesUptoRow : OpenClaim := { program := "ytdfpmgpdkajhkaadoor", sum := "66f5aa739dffaceffe1074f475f5c6a368ab8c92621f934006012bf8dadb477e", func := "gleaning/gleaninglaw14.MarkReaches", spec := "markReaches", unfollowed := true, recurses := true, named := ["math/bits.deBruijn64tab"], apart := false, laid := [("math/bits.deBruijn64tab", laid_math_bits_deBruijn64tab)], narrowed := true }
def MarkReachesUptoSaid : Prop := markReachesUptoRow.holds Tryd.pinned (OpenSpec.upto markReachesSpec)

/-- 'gleaninglaw14.MarkOrder', WHERE WHAT IT READS IS OF BULK AT MOST 1048576: true; the input reads as it did. -/
def markOrderUptoRow : OpenClaim := { program := "ytdfpmgpdkajhkaadoor", sum := "66f5aa739dffaceffe1074f475f5c6a368ab8c92621f934006012bf8dadb477e", func := "gleaning/gleaninglaw14.MarkOrder", spec := "markOrder", unfollowed := true, recurses := true, named := ["math/bits.deBruijn64tab"], apart := false, laid := [("math/bits.deBruijn64tab", laid_math_bits_deBruijn64tab)], narrowed := true }
def MarkOrderUptoSaid : Prop := markOrderUptoRow.holds Tryd.pinned (OpenSpec.upto markOrderSpec)

/-- 'gleaninglaw14.MarkGrows', WHERE WHAT IT READS IS OF BULK AT MOST 1048576: true; the input reads as it did. -/
def markGrowsUptoRow : OpenClaim := { program := "ytdfpmgpdkajhkaadoor", sum := "66f5aa739dffaceffe1074f475f5c6a368ab8c92621f934006012bf8dadb477e", func := "gleaning/gleaninglaw14.MarkGrows", spec := "markGrows", unfollowed := true, recurses := true, named := ["math/bits.deBruijn64tab"], apart := false, laid := [("math/bits.deBruijn64tab", laid_math_bits_deBruijn64tab)], narrowed := true }
def MarkGrowsUptoSaid : Prop := markGrowsUptoRow.holds Tryd.pinned (OpenSpec.upto markGrowsSpec)

/-- 'gleaninglaw14.MarkAsks', WHERE WHAT IT READS IS OF BULK AT MOST 1048576: true; the input reads as it did. -/
def markAsksUptoRow : OpenClaim := { program := "ytdfpmgpdkajhkaadoor", sum := "66f5aa739dffaceffe1074f475f5c6a368ab8c92621f934006012bf8dadb477e", func := "gleaning/gleaninglaw14.MarkAsks", spec := "markAsks", unfollowed := true, recurses := true, named := ["math/bits.deBruijn64tab"], apart := false, laid := [("math/bits.deBruijn64tab", laid_math_bits_deBruijn64tab)], narrowed := true }
def MarkAsksUptoSaid : Prop := markAsksUptoRow.holds Tryd.pinned (OpenSpec.upto markAsksSpec)

/-- 'gleaninglaw14.MarkChain', WHERE WHAT IT READS IS OF BULK AT MOST 1048576: true; the input reads as it did. -/
def markChainUptoRow : OpenClaim := { program := "ytdfpmgpdkajhkaadoor", sum := "66f5aa739dffaceffe1074f475f5c6a368ab8c92621f934006012bf8dadb477e", func := "gleaning/gleaninglaw14.MarkChain", spec := "markChain", unfollowed := true, recurses := true, named := ["math/bits.deBruijn64tab"], apart := false, laid := [("math/bits.deBruijn64tab", laid_math_bits_deBruijn64tab)], narrowed := true }
def MarkChainUptoSaid : Prop := markChainUptoRow.holds Tryd.pinned (OpenSpec.upto markChainSpec)

/-- 'gleaninglaw14.MarkOdd', WHERE WHAT IT READS IS OF BULK AT MOST 1048576: true; the input reads as it did. -/
def markOddUptoRow : OpenClaim := { program := "ytdfpmgpdkajhkaadoor", sum := "66f5aa739dffaceffe1074f475f5c6a368ab8c92621f934006012bf8dadb477e", func := "gleaning/gleaninglaw14.MarkOdd", spec := "markOdd", unfollowed := true, recurses := true, named := ["math/bits.deBruijn64tab"], apart := false, laid := [("math/bits.deBruijn64tab", laid_math_bits_deBruijn64tab)], narrowed := true }
def MarkOddUptoSaid : Prop := markOddUptoRow.holds Tryd.pinned (OpenSpec.upto markOddSpec)

/-- 'gleaninglaw14.MarkRings', WHERE WHAT IT READS IS OF BULK AT MOST 1048576: true; the input reads as it did. -/
def markRingsUptoRow : OpenClaim := { program := "ytdfpmgpdkajhkaadoor", sum := "66f5aa739dffaceffe1074f475f5c6a368ab8c92621f934006012bf8dadb477e", func := "gleaning/gleaninglaw14.MarkRings", spec := "markRings", unfollowed := true, recurses := true, named := ["math/bits.deBruijn64tab"], apart := false, laid := [("math/bits.deBruijn64tab", laid_math_bits_deBruijn64tab)], narrowed := true }
def MarkRingsUptoSaid : Prop := markRingsUptoRow.holds Tryd.pinned (OpenSpec.upto markRingsSpec)

/-- 'gleaninglaw07.CardPlays', WHERE WHAT IT READS IS OF BULK AT MOST 1048576: true; the input reads as it did. -/
def cardPlaysUptoRow : OpenClaim := { program := "ytdfpmgpdkajhkaadoor", sum := "66f5aa739dffaceffe1074f475f5c6a368ab8c92621f934006012bf8dadb477e", func := "gleaning/gleaninglaw07.CardPlays", spec := "cardPlays", named := ["math/bits.deBruijn64tab"], apart := false, laid := [("math/bits.deBruijn64tab", laid_math_bits_deBruijn64tab)], narrowed := true }
def CardPlaysUptoSaid : Prop := cardPlaysUptoRow.holds Tryd.pinned (OpenSpec.upto cardPlaysSpec)

end Rows
end Go.Proofs.YtdfpmgpdkajhkaaDoor
