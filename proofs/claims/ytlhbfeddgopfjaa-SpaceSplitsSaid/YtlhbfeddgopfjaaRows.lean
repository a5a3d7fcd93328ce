/-
  No cell of these rows narrows 'for every input' (looked for: loops, veiled, ifaces, maps, wideKeys, modest, calm, conditions, laid).
  DERIVED. THE GIVEN ROWS OF THIS SEAT. 17 by the template 'for every input the law returns true; each argument reads behind the call as it read before'; 0 by the template 'total and deterministic' (their statements: YtlhbfeddgopfjaaTotals.lean).
  GIVEN WITH THE SEED: the statements are not yours to turn. If you find one false, say at which input.
  Laid BY PROGRAM, IN A SANDBOX (cutbox-rows.mjs): the forced cells as the released guide's own fill.sh prints them over the translation b614e0a4465eaf06… (all of the seat's roots in one cut). By AI agents, Wed Nov 11 2026. No macro, syntax, notation, axiom, sorry.
-/
import Derived.Test.YtlhbfeddgopfjaaChecked
import GoSem.Claim
import GoSem.ClaimJoined
import GoSem.ClaimMapViews
import Derived.JoinedTies
import Derived.KernelRfl
namespace Go.Proofs.Ytlhbfeddgopfjaa
/- THE CELL 'sum', in the pinned program and in every row, IS THE sha256 OF THE DUMP (.gsa) THAT YtlhbfeddgopfjaaProg.lean LOADS. Nothing in Lean hashes anything: it is a label: what it is worth is what the hold of that sum in a sandbox is worth. -/
noncomputable def Try.pinned : Pinned := { name := "ytlhbfeddgopfjaa", sum := "b614e0a4465eaf06d77921fc3d62eb44f4564d342037b01380efbaa5d5b98875", checked := Try.checked }
namespace Rows
def none {H : Type} : Left H := { results := [], args := [] }

/-- 'gleaninglaw11.PolicyTells': WHATEVER THE INPUT: true; the input reads as it did. -/
def policyTellsSpec : ChangeSpec := { name := "policyTells", fn := fun _ => fun
  | [d1, d2, d3, d4] => { results := [.lit (.bool true)], args := [d1, d2, d3, d4] }
  | _ => none }
def policyTellsRow : OpenClaim := { program := "ytlhbfeddgopfjaa", sum := "b614e0a4465eaf06d77921fc3d62eb44f4564d342037b01380efbaa5d5b98875", func := "gleaning/gleaninglaw11.PolicyTells", spec := "policyTells", apart := false }
def PolicyTellsSaid : Prop := policyTellsRow.holds Try.pinned (OpenSpec.ofChange policyTellsSpec)

/-- ITS FALSE NEIGHBOUR: 'it returns false'. Refute it at one input. -/
def policyTellsWrong : ChangeSpec := { name := "policyTells", fn := fun _ => fun
  | [d1, d2, d3, d4] => { results := [.lit (.bool false)], args := [d1, d2, d3, d4] }
  | _ => none }
def PolicyTellsWrongFalsely : Prop := policyTellsRow.holds Try.pinned (OpenSpec.ofChange policyTellsWrong)

/-- 'gleaninglaw11.PolicyOrder': WHATEVER THE INPUT: true; the input reads as it did. -/
def policyOrderSpec : ChangeSpec := { name := "policyOrder", fn := fun _ => fun
  | [d1, d2, d3] => { results := [.lit (.bool true)], args := [d1, d2, d3] }
  | _ => none }
def policyOrderRow : OpenClaim := { program := "ytlhbfeddgopfjaa", sum := "b614e0a4465eaf06d77921fc3d62eb44f4564d342037b01380efbaa5d5b98875", func := "gleaning/gleaninglaw11.PolicyOrder", spec := "policyOrder", apart := false }
def PolicyOrderSaid : Prop := policyOrderRow.holds Try.pinned (OpenSpec.ofChange policyOrderSpec)

/-- ITS FALSE NEIGHBOUR: 'it returns false'. Refute it at one input. -/
def policyOrderWrong : ChangeSpec := { name := "policyOrder", fn := fun _ => fun
  | [d1, d2, d3] => { results := [.lit (.bool false)], args := [d1, d2, d3] }
  | _ => none }
def PolicyOrderWrongFalsely : Prop := policyOrderRow.holds Try.pinned (OpenSpec.ofChange policyOrderWrong)

/-- 'gleaninglaw11.PolicyKeeps': WHATEVER THE INPUT: true; the input reads as it did. -/
def policyKeepsSpec : ChangeSpec := { name := "policyKeeps", fn := fun _ => fun
  | [d1, d2, d3, d4, d5] => { results := [.lit (.bool true)], args := [d1, d2, d3, d4, d5] }
  | _ => none }
def policyKeepsRow : OpenClaim := { program := "ytlhbfeddgopfjaa", sum := "b614e0a4465eaf06d77921fc3d62eb44f4564d342037b01380efbaa5d5b98875", func := "gleaning/gleaninglaw11.PolicyKeeps", spec := "policyKeeps", apart := false }
def PolicyKeepsSaid : Prop := policyKeepsRow.holds Try.pinned (OpenSpec.ofChange policyKeepsSpec)

/-- ITS FALSE NEIGHBOUR: 'it returns false'. Refute it at one input. -/
def policyKeepsWrong : ChangeSpec := { name := "policyKeeps", fn := fun _ => fun
  | [d1, d2, d3, d4, d5] => { results := [.lit (.bool false)], args := [d1, d2, d3, d4, d5] }
  | _ => none }
def PolicyKeepsWrongFalsely : Prop := policyKeepsRow.holds Try.pinned (OpenSpec.ofChange policyKeepsWrong)

/-- 'gleaninglaw11.PolicyHeld': WHATEVER THE INPUT: true; the input reads as it did. -/
def policyHeldSpec : ChangeSpec := { name := "policyHeld", fn := fun _ => fun
  | [d1, d2, d3, d4] => { results := [.lit (.bool true)], args := [d1, d2, d3, d4] }
  | _ => none }
def policyHeldRow : OpenClaim := { program := "ytlhbfeddgopfjaa", sum := "b614e0a4465eaf06d77921fc3d62eb44f4564d342037b01380efbaa5d5b98875", func := "gleaning/gleaninglaw11.PolicyHeld", spec := "policyHeld", apart := false }
def PolicyHeldSaid : Prop := policyHeldRow.holds Try.pinned (OpenSpec.ofChange policyHeldSpec)

/-- ITS FALSE NEIGHBOUR: 'it returns false'. Refute it at one input. -/
def policyHeldWrong : ChangeSpec := { name := "policyHeld", fn := fun _ => fun
  | [d1, d2, d3, d4] => { results := [.lit (.bool false)], args := [d1, d2, d3, d4] }
  | _ => none }
def PolicyHeldWrongFalsely : Prop := policyHeldRow.holds Try.pinned (OpenSpec.ofChange policyHeldWrong)

/-- 'gleaninglaw11.PolicyEdge': WHATEVER THE INPUT: true; the input reads as it did. -/
def policyEdgeSpec : ChangeSpec := { name := "policyEdge", fn := fun _ => fun
  | [d1, d2, d3] => { results := [.lit (.bool true)], args := [d1, d2, d3] }
  | _ => none }
def policyEdgeRow : OpenClaim := { program := "ytlhbfeddgopfjaa", sum := "b614e0a4465eaf06d77921fc3d62eb44f4564d342037b01380efbaa5d5b98875", func := "gleaning/gleaninglaw11.PolicyEdge", spec := "policyEdge", apart := false }
def PolicyEdgeSaid : Prop := policyEdgeRow.holds Try.pinned (OpenSpec.ofChange policyEdgeSpec)

/-- ITS FALSE NEIGHBOUR: 'it returns false'. Refute it at one input. -/
def policyEdgeWrong : ChangeSpec := { name := "policyEdge", fn := fun _ => fun
  | [d1, d2, d3] => { results := [.lit (.bool false)], args := [d1, d2, d3] }
  | _ => none }
def PolicyEdgeWrongFalsely : Prop := policyEdgeRow.holds Try.pinned (OpenSpec.ofChange policyEdgeWrong)

/-- 'gleaninglaw02.SpaceEach': WHATEVER THE INPUT: true; the input reads as it did. -/
def spaceEachSpec : ChangeSpec := { name := "spaceEach", fn := fun _ => fun
  | [d1, d2] => { results := [.lit (.bool true)], args := [d1, d2] }
  | _ => none }
def spaceEachRow : OpenClaim := { program := "ytlhbfeddgopfjaa", sum := "b614e0a4465eaf06d77921fc3d62eb44f4564d342037b01380efbaa5d5b98875", func := "gleaning/gleaninglaw02.SpaceEach", spec := "spaceEach", apart := false }
def SpaceEachSaid : Prop := spaceEachRow.holds Try.pinned (OpenSpec.ofChange spaceEachSpec)

/-- ITS FALSE NEIGHBOUR: 'it returns false'. Refute it at one input. -/
def spaceEachWrong : ChangeSpec := { name := "spaceEach", fn := fun _ => fun
  | [d1, d2] => { results := [.lit (.bool false)], args := [d1, d2] }
  | _ => none }
def SpaceEachWrongFalsely : Prop := spaceEachRow.holds Try.pinned (OpenSpec.ofChange spaceEachWrong)

/-- 'gleaninglaw04.HeadTells': WHATEVER THE INPUT: true; the input reads as it did. -/
def headTellsSpec : ChangeSpec := { name := "headTells", fn := fun _ => fun
  | [d] => { results := [.lit (.bool true)], args := [d] }
  | _ => none }
def headTellsRow : OpenClaim := { program := "ytlhbfeddgopfjaa", sum := "b614e0a4465eaf06d77921fc3d62eb44f4564d342037b01380efbaa5d5b98875", func := "gleaning/gleaninglaw04.HeadTells", spec := "headTells", unfollowed := true, recurses := true, apart := false }
def HeadTellsSaid : Prop := headTellsRow.holds Try.pinned (OpenSpec.ofChange headTellsSpec)

/-- ITS FALSE NEIGHBOUR: 'it returns false'. Refute it at one input. -/
def headTellsWrong : ChangeSpec := { name := "headTells", fn := fun _ => fun
  | [d] => { results := [.lit (.bool false)], args := [d] }
  | _ => none }
def HeadTellsWrongFalsely : Prop := headTellsRow.holds Try.pinned (OpenSpec.ofChange headTellsWrong)

/-- 'gleaninglaw04.HeadReads': WHATEVER THE INPUT: true; the input reads as it did. -/
def headReadsSpec : ChangeSpec := { name := "headReads", fn := fun _ => fun
  | [d] => { results := [.lit (.bool true)], args := [d] }
  | _ => none }
def headReadsRow : OpenClaim := { program := "ytlhbfeddgopfjaa", sum := "b614e0a4465eaf06d77921fc3d62eb44f4564d342037b01380efbaa5d5b98875", func := "gleaning/gleaninglaw04.HeadReads", spec := "headReads", unfollowed := true, recurses := true, apart := false }
def HeadReadsSaid : Prop := headReadsRow.holds Try.pinned (OpenSpec.ofChange headReadsSpec)

/-- ITS FALSE NEIGHBOUR: 'it returns false'. Refute it at one input. -/
def headReadsWrong : ChangeSpec := { name := "headReads", fn := fun _ => fun
  | [d] => { results := [.lit (.bool false)], args := [d] }
  | _ => none }
def HeadReadsWrongFalsely : Prop := headReadsRow.holds Try.pinned (OpenSpec.ofChange headReadsWrong)

/-- 'gleaninglaw04.HeadBack': WHATEVER THE INPUT: true; the input reads as it did. -/
def headBackSpec : ChangeSpec := { name := "headBack", fn := fun _ => fun
  | [d1, d2] => { results := [.lit (.bool true)], args := [d1, d2] }
  | _ => none }
def headBackRow : OpenClaim := { program := "ytlhbfeddgopfjaa", sum := "b614e0a4465eaf06d77921fc3d62eb44f4564d342037b01380efbaa5d5b98875", func := "gleaning/gleaninglaw04.HeadBack", spec := "headBack", unfollowed := true, recurses := true, apart := false }
def HeadBackSaid : Prop := headBackRow.holds Try.pinned (OpenSpec.ofChange headBackSpec)

/-- ITS FALSE NEIGHBOUR: 'it returns false'. Refute it at one input. -/
def headBackWrong : ChangeSpec := { name := "headBack", fn := fun _ => fun
  | [d1, d2] => { results := [.lit (.bool false)], args := [d1, d2] }
  | _ => none }
def HeadBackWrongFalsely : Prop := headBackRow.holds Try.pinned (OpenSpec.ofChange headBackWrong)

/-- 'gleaninglaw04.HeadParts': WHATEVER THE INPUT: true; the input reads as it did. -/
def headPartsSpec : ChangeSpec := { name := "headParts", fn := fun _ => fun
  | [d1, d2, d3, d4] => { results := [.lit (.bool true)], args := [d1, d2, d3, d4] }
  | _ => none }
def headPartsRow : OpenClaim := { program := "ytlhbfeddgopfjaa", sum := "b614e0a4465eaf06d77921fc3d62eb44f4564d342037b01380efbaa5d5b98875", func := "gleaning/gleaninglaw04.HeadParts", spec := "headParts", unfollowed := true, recurses := true, apart := false }
def HeadPartsSaid : Prop := headPartsRow.holds Try.pinned (OpenSpec.ofChange headPartsSpec)

/-- ITS FALSE NEIGHBOUR: 'it returns false'. Refute it at one input. -/
def headPartsWrong : ChangeSpec := { name := "headParts", fn := fun _ => fun
  | [d1, d2, d3, d4] => { results := [.lit (.bool false)], args := [d1, d2, d3, d4] }
  | _ => none }
def HeadPartsWrongFalsely : Prop := headPartsRow.holds Try.pinned (OpenSpec.ofChange headPartsWrong)

/-- 'gleaninglaw04.HeadZero': WHATEVER THE INPUT: true; the input reads as it did. -/
def headZeroSpec : ChangeSpec := { name := "headZero", fn := fun _ => fun
  | [d1, d2] => { results := [.lit (.bool true)], args := [d1, d2] }
  | _ => none }
def headZeroRow : OpenClaim := { program := "ytlhbfeddgopfjaa", sum := "b614e0a4465eaf06d77921fc3d62eb44f4564d342037b01380efbaa5d5b98875", func := "gleaning/gleaninglaw04.HeadZero", spec := "headZero", unfollowed := true, recurses := true, apart := false }
def HeadZeroSaid : Prop := headZeroRow.holds Try.pinned (OpenSpec.ofChange headZeroSpec)

/-- ITS FALSE NEIGHBOUR: 'it returns false'. Refute it at one input. -/
def headZeroWrong : ChangeSpec := { name := "headZero", fn := fun _ => fun
  | [d1, d2] => { results := [.lit (.bool false)], args := [d1, d2] }
  | _ => none }
def HeadZeroWrongFalsely : Prop := headZeroRow.holds Try.pinned (OpenSpec.ofChange headZeroWrong)

/-- 'gleaninglaw04.HeadOlder': WHATEVER THE INPUT: true; the input reads as it did. -/
def headOlderSpec : ChangeSpec := { name := "headOlder", fn := fun _ => fun
  | [d1, d2] => { results := [.lit (.bool true)], args := [d1, d2] }
  | _ => none }
def headOlderRow : OpenClaim := { program := "ytlhbfeddgopfjaa", sum := "b614e0a4465eaf06d77921fc3d62eb44f4564d342037b01380efbaa5d5b98875", func := "gleaning/gleaninglaw04.HeadOlder", spec := "headOlder", unfollowed := true, recurses := true, apart := false }
def HeadOlderSaid : Prop := headOlderRow.holds Try.pinned (OpenSpec.ofChange headOlderSpec)

/-- ITS FALSE NEIGHBOUR: 'it returns false'. Refute it at one input. -/
def headOlderWrong : ChangeSpec := { name := "headOlder", fn := fun _ => fun
  | [d1, d2] => { results := [.lit (.bool false)], args := [d1, d2] }
  | _ => none }
def HeadOlderWrongFalsely : Prop := headOlderRow.holds Try.pinned (OpenSpec.ofChange headOlderWrong)

/-- 'gleaninglaw02.SpaceTells': WHATEVER THE INPUT: true; the input reads as it did. -/
def spaceTellsSpec : ChangeSpec := { name := "spaceTells", fn := fun _ => fun
  | [d1, d2, d3, d4, d5] => { results := [.lit (.bool true)], args := [d1, d2, d3, d4, d5] }
  | _ => none }
def spaceTellsRow : OpenClaim := { program := "ytlhbfeddgopfjaa", sum := "b614e0a4465eaf06d77921fc3d62eb44f4564d342037b01380efbaa5d5b98875", func := "gleaning/gleaninglaw02.SpaceTells", spec := "spaceTells", apart := false }
def SpaceTellsSaid : Prop := spaceTellsRow.holds Try.pinned (OpenSpec.ofChange spaceTellsSpec)

/-- ITS FALSE NEIGHBOUR: 'it returns false'. Refute it at one input. -/
def spaceTellsWrong : ChangeSpec := { name := "spaceTells", fn := fun _ => fun
  | [d1, d2, d3, d4, d5] => { results := [.lit (.bool false)], args := [d1, d2, d3, d4, d5] }
  | _ => none }
def SpaceTellsWrongFalsely : Prop := spaceTellsRow.holds Try.pinned (OpenSpec.ofChange spaceTellsWrong)

/-- 'gleaninglaw02.SpaceTakes': WHATEVER THE INPUT: true; the input reads as it did. -/
def spaceTakesSpec : ChangeSpec := { name := "spaceTakes", fn := fun _ => fun
  | [d1, d2, d3] => { results := [.lit (.bool true)], args := [d1, d2, d3] }
  | _ => none }
def spaceTakesRow : OpenClaim := { program := "ytlhbfeddgopfjaa", sum := "b614e0a4465eaf06d77921fc3d62eb44f4564d342037b01380efbaa5d5b98875", func := "gleaning/gleaninglaw02.SpaceTakes", spec := "spaceTakes", apart := false }
def SpaceTakesSaid : Prop := spaceTakesRow.holds Try.pinned (OpenSpec.ofChange spaceTakesSpec)

/-- ITS FALSE NEIGHBOUR: 'it returns false'. Refute it at one input. -/
def spaceTakesWrong : ChangeSpec := { name := "spaceTakes", fn := fun _ => fun
  | [d1, d2, d3] => { results := [.lit (.bool false)], args := [d1, d2, d3] }
  | _ => none }
def SpaceTakesWrongFalsely : Prop := spaceTakesRow.holds Try.pinned (OpenSpec.ofChange spaceTakesWrong)

/-- 'gleaninglaw02.SpaceApart': WHATEVER THE INPUT: true; the input reads as it did. -/
def spaceApartSpec : ChangeSpec := { name := "spaceApart", fn := fun _ => fun
  | [d1, d2, d3] => { results := [.lit (.bool true)], args := [d1, d2, d3] }
  | _ => none }
def spaceApartRow : OpenClaim := { program := "ytlhbfeddgopfjaa", sum := "b614e0a4465eaf06d77921fc3d62eb44f4564d342037b01380efbaa5d5b98875", func := "gleaning/gleaninglaw02.SpaceApart", spec := "spaceApart", apart := false }
def SpaceApartSaid : Prop := spaceApartRow.holds Try.pinned (OpenSpec.ofChange spaceApartSpec)

/-- ITS FALSE NEIGHBOUR: 'it returns false'. Refute it at one input. -/
def spaceApartWrong : ChangeSpec := { name := "spaceApart", fn := fun _ => fun
  | [d1, d2, d3] => { results := [.lit (.bool false)], args := [d1, d2, d3] }
  | _ => none }
def SpaceApartWrongFalsely : Prop := spaceApartRow.holds Try.pinned (OpenSpec.ofChange spaceApartWrong)

/-- 'gleaninglaw02.SpaceWrong': WHATEVER THE INPUT: true; the input reads as it did. -/
def spaceWrongSpec : ChangeSpec := { name := "spaceWrong", fn := fun _ => fun
  | [d1, d2] => { results := [.lit (.bool true)], args := [d1, d2] }
  | _ => none }
def spaceWrongRow : OpenClaim := { program := "ytlhbfeddgopfjaa", sum := "b614e0a4465eaf06d77921fc3d62eb44f4564d342037b01380efbaa5d5b98875", func := "gleaning/gleaninglaw02.SpaceWrong", spec := "spaceWrong", apart := false }
def SpaceWrongSaid : Prop := spaceWrongRow.holds Try.pinned (OpenSpec.ofChange spaceWrongSpec)

/-- ITS FALSE NEIGHBOUR: 'it returns false'. Refute it at one input. -/
def spaceWrongWrong : ChangeSpec := { name := "spaceWrong", fn := fun _ => fun
  | [d1, d2] => { results := [.lit (.bool false)], args := [d1, d2] }
  | _ => none }
def SpaceWrongWrongFalsely : Prop := spaceWrongRow.holds Try.pinned (OpenSpec.ofChange spaceWrongWrong)

/-- 'gleaninglaw02.SpaceSplits': WHATEVER THE INPUT: true; the input reads as it did. -/
def spaceSplitsSpec : ChangeSpec := { name := "spaceSplits", fn := fun _ => fun
  | [d1, d2] => { results := [.lit (.bool true)], args := [d1, d2] }
  | _ => none }
def spaceSplitsRow : OpenClaim := { program := "ytlhbfeddgopfjaa", sum := "b614e0a4465eaf06d77921fc3d62eb44f4564d342037b01380efbaa5d5b98875", func := "gleaning/gleaninglaw02.SpaceSplits", spec := "spaceSplits", apart := false }
def SpaceSplitsSaid : Prop := spaceSplitsRow.holds Try.pinned (OpenSpec.ofChange spaceSplitsSpec)

/-- ITS FALSE NEIGHBOUR: 'it returns false'. Refute it at one input. -/
def spaceSplitsWrong : ChangeSpec := { name := "spaceSplits", fn := fun _ => fun
  | [d1, d2] => { results := [.lit (.bool false)], args := [d1, d2] }
  | _ => none }
def SpaceSplitsWrongFalsely : Prop := spaceSplitsRow.holds Try.pinned (OpenSpec.ofChange spaceSplitsWrong)

/- THE SECOND FORM. 'bulk': how many values and letters a reading holds, each counted each time it is reached (what is shared counts as often as it is met; a slice's spare places count too). A statement '..UptoSaid' is the law's where the arguments, and the package variables that the reading takes, are together of bulk at most 1048576: NARROWER than '..Said'. Prove '..Said' where nothing that the law and all that it calls make is longer than what came in: it says more and counts as full. Else prove '..UptoSaid'. A law counts once. -/
mutual
def uptoBulk {H : Type} : DataW H → Nat
  | .lit (.string bytes) => bytes.length + 1
  | .lit _ => 1
  | .nil => 1
  | .ptr d => uptoBulk d + 1
  | .slice elems spare => uptoBulkAll elems + uptoBulkAll spare + 1
  | .agg parts => uptoBulkAll parts + 1
  | .iface _ d => uptoBulk d + 1
  | .map entries => uptoBulkEntries entries + 1
  | .held _ => 1
def uptoBulkAll {H : Type} : List (DataW H) → Nat
  | [] => 0
  | d :: r => uptoBulk d + uptoBulkAll r
def uptoBulkEntries {H : Type} : List (Lit × DataW H) → Nat
  | [] => 0
  | x :: r => uptoBulkEntry x + uptoBulkEntries r
def uptoBulkEntry {H : Type} : Lit × DataW H → Nat
  | (.string bytes, d) => bytes.length + uptoBulk d + 1
  | (_, d) => uptoBulk d + 1
 end
def uptoSmall : (H : Type) → List (DataW H) → Bool := fun _ ds => decide (uptoBulkAll ds ≤ 1048576)
def OpenSpec.upto (s : _root_.Go.ChangeSpec) : _root_.Go.OpenSpec := { _root_.Go.OpenSpec.ofChange s with cond := some uptoSmall }

/-- 'gleaninglaw11.PolicyTells', WHERE WHAT IT READS IS OF BULK AT MOST 1048576: true; the input reads as it did. -/
def policyTellsUptoRow : OpenClaim := { program := "ytlhbfeddgopfjaa", sum := "b614e0a4465eaf06d77921fc3d62eb44f4564d342037b01380efbaa5d5b98875", func := "gleaning/gleaninglaw11.PolicyTells", spec := "policyTells", apart := false, narrowed := true }
def PolicyTellsUptoSaid : Prop := policyTellsUptoRow.holds Try.pinned (OpenSpec.upto policyTellsSpec)

/-- 'gleaninglaw11.PolicyOrder', WHERE WHAT IT READS IS OF BULK AT MOST 1048576: true; the input reads as it did. -/
def policyOrderUptoRow : OpenClaim := { program := "ytlhbfeddgopfjaa", sum := "b614e0a4465eaf06d77921fc3d62eb44f4564d342037b01380efbaa5d5b98875", func := "gleaning/gleaninglaw11.PolicyOrder", spec := "policyOrder", apart := false, narrowed := true }
def PolicyOrderUptoSaid : Prop := policyOrderUptoRow.holds Try.pinned (OpenSpec.upto policyOrderSpec)

/-- 'gleaninglaw11.PolicyKeeps', WHERE WHAT IT READS IS OF BULK AT MOST 1048576: true; the input reads as it did. -/
def policyKeepsUptoRow : OpenClaim := { program := "ytlhbfeddgopfjaa", sum := "b614e0a4465eaf06d77921fc3d62eb44f4564d342037b01380efbaa5d5b98875", func := "gleaning/gleaninglaw11.PolicyKeeps", spec := "policyKeeps", apart := false, narrowed := true }
def PolicyKeepsUptoSaid : Prop := policyKeepsUptoRow.holds Try.pinned (OpenSpec.upto policyKeepsSpec)

/-- 'gleaninglaw11.PolicyHeld', WHERE WHAT IT READS IS OF BULK AT MOST 1048576: true; the input reads as it did. -/
def policyHeldUptoRow : OpenClaim := { program := "ytlhbfeddgopfjaa", sum := "b614e0a4465eaf06d77921fc3d62eb44f4564d342037b01380efbaa5d5b98875", func := "gleaning/gleaninglaw11.PolicyHeld", spec := "policyHeld", apart := false, narrowed := true }
def PolicyHeldUptoSaid : Prop := policyHeldUptoRow.holds Try.pinned (OpenSpec.upto policyHeldSpec)

/-- 'gleaninglaw11.PolicyEdge', WHERE WHAT IT READS IS OF BULK AT MOST 1048576: true; the input reads as it did. -/
def policyEdgeUptoRow : OpenClaim := { program := "ytlhbfeddgopfjaa", sum := "b614e0a4465eaf06d77921fc3d62eb44f4564d342037b01380efbaa5d5b98875", func := "gleaning/gleaninglaw11.PolicyEdge", spec := "policyEdge", apart := false, narrowed := true }
def PolicyEdgeUptoSaid : Prop := policyEdgeUptoRow.holds Try.pinned (OpenSpec.upto policyEdgeSpec)

/-- 'gleaninglaw02.SpaceEach', WHERE WHAT IT READS IS OF BULK AT MOST 1048576: true; the input reads as it did. -/
def spaceEachUptoRow : OpenClaim := { program := "ytlhbfeddgopfjaa", sum := "b614e0a4465eaf06d77921fc3d62eb44f4564d342037b01380efbaa5d5b98875", func := "gleaning/gleaninglaw02.SpaceEach", spec := "spaceEach", apart := false, narrowed := true }
def SpaceEachUptoSaid : Prop := spaceEachUptoRow.holds Try.pinned (OpenSpec.upto spaceEachSpec)

/-- 'gleaninglaw04.HeadTells', WHERE WHAT IT READS IS OF BULK AT MOST 1048576: true; the input reads as it did. -/
def headTellsUptoRow : OpenClaim := { program := "ytlhbfeddgopfjaa", sum := "b614e0a4465eaf06d77921fc3d62eb44f4564d342037b01380efbaa5d5b98875", func := "gleaning/gleaninglaw04.HeadTells", spec := "headTells", unfollowed := true, recurses := true, apart := false, narrowed := true }
def HeadTellsUptoSaid : Prop := headTellsUptoRow.holds Try.pinned (OpenSpec.upto headTellsSpec)

/-- 'gleaninglaw04.HeadReads', WHERE WHAT IT READS IS OF BULK AT MOST 1048576: true; the input reads as it did. -/
def headReadsUptoRow : OpenClaim := { program := "ytlhbfeddgopfjaa", sum := "b614e0a4465eaf06d77921fc3d62eb44f4564d342037b01380efbaa5d5b98875", func := "gleaning/gleaninglaw04.HeadReads", spec := "headReads", unfollowed := true, recurses := true, apart := false, narrowed := true }
def HeadReadsUptoSaid : Prop := headReadsUptoRow.holds Try.pinned (OpenSpec.upto headReadsSpec)

/-- 'gleaninglaw04.HeadBack', WHERE WHAT IT READS IS OF BULK AT MOST 1048576: true; the input reads as it did. -/
def headBackUptoRow : OpenClaim := { program := "ytlhbfeddgopfjaa", sum := "b614e0a4465eaf06d77921fc3d62eb44f4564d342037b01380efbaa5d5b98875", func := "gleaning/gleaninglaw04.HeadBack", spec := "headBack", unfollowed := true, recurses := true, apart := false, narrowed := true }
def HeadBackUptoSaid : Prop := headBackUptoRow.holds Try.pinned (OpenSpec.upto headBackSpec)

/-- 'gleaninglaw04.HeadParts', WHERE WHAT IT READS IS OF BULK AT MOST 1048576: true; the input reads as it did. -/
def headPartsUptoRow : OpenClaim := { program := "ytlhbfeddgopfjaa", sum := "b614e0a4465eaf06d77921fc3d62eb44f4564d342037b01380efbaa5d5b98875", func := "gleaning/gleaninglaw04.HeadParts", spec := "headParts", unfollowed := true, recurses := true, apart := false, narrowed := true }
def HeadPartsUptoSaid : Prop := headPartsUptoRow.holds Try.pinned (OpenSpec.upto headPartsSpec)

/-- 'gleaninglaw04.HeadZero', WHERE WHAT IT READS IS OF BULK AT MOST 1048576: true; the input reads as it did. -/
def headZeroUptoRow : OpenClaim := { program := "ytlhbfeddgopfjaa", sum := "b614e0a4465eaf06d77921fc3d62eb44f4564d342037b01380efbaa5d5b98875", func := "gleaning/gleaninglaw04.HeadZero", spec := "headZero", unfollowed := true, recurses := true, apart := false, narrowed := true }
def HeadZeroUptoSaid : Prop := headZeroUptoRow.holds Try.pinned (OpenSpec.upto headZeroSpec)

/-- 'gleaninglaw04.HeadOlder', WHERE WHAT IT READS IS OF BULK AT MOST 1048576: true; the input reads as it did. -/
def headOlderUptoRow : OpenClaim := { program := "ytlhbfeddgopfjaa", sum := "b614e0a4465eaf06d77921fc3d62eb44f4564d342037b01380efbaa5d5b98875", func := "gleaning/gleaninglaw04.HeadOlder", spec := "headOlder", unfollowed := true, recurses := true, apart := false, narrowed := true }
def HeadOlderUptoSaid : Prop := headOlderUptoRow.holds Try.pinned (OpenSpec.upto headOlderSpec)

/-- 'gleaninglaw02.SpaceTells', WHERE WHAT IT READS IS OF BULK AT MOST 1048576: true; the input reads as it did. -/
def spaceTellsUptoRow : OpenClaim := { program := "ytlhbfeddgopfjaa", sum := "b614e0a4465eaf06d77921fc3d62eb44f4564d342037b01380efbaa5d5b98875", func := "gleaning/gleaninglaw02.SpaceTells", spec := "spaceTells", apart := false, narrowed := true }
def SpaceTellsUptoSaid : Prop := spaceTellsUptoRow.holds Try.pinned (OpenSpec.upto spaceTellsSpec)

/-- 'gleaninglaw02.SpaceTakes', WHERE WHAT IT READS IS OF BULK AT MOST 1048576: true; the input reads as it did. -/
def spaceTakesUptoRow : OpenClaim := { program := "ytlhbfeddgopfjaa", sum := "b614e0a4465eaf06d77921fc3d62eb44f4564d342037b01380efbaa5d5b98875", func := "gleaning/gleaninglaw02.SpaceTakes", spec := "spaceTakes", apart := false, narrowed := true }
def SpaceTakesUptoSaid : Prop := spaceTakesUptoRow.holds Try.pinned (OpenSpec.upto spaceTakesSpec)

/-- 'gleaninglaw02.SpaceApart', WHERE WHAT IT READS IS OF BULK AT MOST 1048576: true; the input reads as it did. -/
def spaceApartUptoRow : OpenClaim := { program := "ytlhbfeddgopfjaa", sum := "b614e0a4465eaf06d77921fc3d62eb44f4564d342037b01380efbaa5d5b98875", func := "gleaning/gleaninglaw02.SpaceApart", spec := "spaceApart", apart := false, narrowed := true }
def SpaceApartUptoSaid : Prop := spaceApartUptoRow.holds Try.pinned (OpenSpec.upto spaceApartSpec)

/-- 'gleaninglaw02.SpaceWrong', WHERE WHAT IT READS IS OF BULK AT MOST 1048576: true; the input reads as it did. -/
def spaceWrongUptoRow : OpenClaim := { program := "ytlhbfeddgopfjaa", sum := "b614e0a4465eaf06d77921fc3d62eb44f4564d342037b01380efbaa5d5b98875", func := "gleaning/gleaninglaw02.SpaceWrong", spec := "spaceWrong", apart := false, narrowed := true }
def SpaceWrongUptoSaid : Prop := spaceWrongUptoRow.holds Try.pinned (OpenSpec.upto spaceWrongSpec)

/-- 'gleaninglaw02.SpaceSplits', WHERE WHAT IT READS IS OF BULK AT MOST 1048576: true; the input reads as it did. -/
def spaceSplitsUptoRow : OpenClaim := { program := "ytlhbfeddgopfjaa", sum := "b614e0a4465eaf06d77921fc3d62eb44f4564d342037b01380efbaa5d5b98875", func := "gleaning/gleaninglaw02.SpaceSplits", spec := "spaceSplits", apart := false, narrowed := true }
def SpaceSplitsUptoSaid : Prop := spaceSplitsUptoRow.holds Try.pinned (OpenSpec.upto spaceSplitsSpec)

end Rows
end Go.Proofs.Ytlhbfeddgopfjaa
