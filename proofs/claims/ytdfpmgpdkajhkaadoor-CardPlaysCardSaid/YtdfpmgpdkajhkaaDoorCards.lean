/-
  DERIVED. GIVEN WITH THE SEED: THE CARDS: each row of YtdfpmgpdkajhkaaDoorRows.lean that lists a variable, with what it lists TIED to the program's text (the seventh form; the later family's looks); each row that meets fmt, with fmt's text TOLD by the authors' own Lean function (tested against real Go, not proved from fmt's source: count such statements apart). THE CARD IS WHAT COUNTS. Prove the row's statement (the work); the ties are given (YtdfpmgpdkajhkaaDoorTie.lean); close each card by the builder's one call (the guide's Derived/Test/ToyasCard.lean, 'card_holds'). Laid BY PROGRAM, IN A SANDBOX (cutbox-door.mjs). By AI agents, Wed Nov 11 2026. No macro, syntax, notation, axiom, sorry.
-/
import Derived.Test.YtdfpmgpdkajhkaaDoorRows
import GoSem.ClaimSeven
namespace Go.Proofs.YtdfpmgpdkajhkaaDoor
namespace Rows

/-- THE TIED CARD OF 'gleaninglaw07.CardNil'. -/
def cardNilCard : Claim7 := { stood := { row := cardNilRow, standIns := [], harness := (true, "ac45d4c437fa1b4fc38010d3e04dffb739c7bcf467005a6fa251b78cdd03a1b9"), looks := false }, kinds := [], alts := [], laidByText := true, laidKinds := [.data], laidTests := true, laidLooks := .later }
def CardNilCardSaid : Prop := Claim7.holds Tryd.pinned (.plain (OpenSpec.ofChange cardNilSpec)) cardNilCard

/-- THE TIED CARD OF 'gleaninglaw07.CardOnce'. -/
def cardOnceCard : Claim7 := { stood := { row := cardOnceRow, standIns := [], harness := (true, "ac45d4c437fa1b4fc38010d3e04dffb739c7bcf467005a6fa251b78cdd03a1b9"), looks := false }, kinds := [], alts := [], laidByText := true, laidKinds := [.data], laidTests := true, laidLooks := .later }
def CardOnceCardSaid : Prop := Claim7.holds Tryd.pinned (.plain (OpenSpec.ofChange cardOnceSpec)) cardOnceCard

/-- THE TIED CARD OF 'gleaninglaw03.BitsWalk'. -/
def bitsWalkCard : Claim7 := { stood := { row := bitsWalkRow, standIns := [], harness := (true, "ac45d4c437fa1b4fc38010d3e04dffb739c7bcf467005a6fa251b78cdd03a1b9"), looks := false }, kinds := [], alts := [], laidByText := true, laidKinds := [.data], laidTests := true, laidLooks := .later }
def BitsWalkCardSaid : Prop := Claim7.holds Tryd.pinned (.plain (OpenSpec.ofChange bitsWalkSpec)) bitsWalkCard

/-- THE TIED CARD OF 'gleaninglaw03.BitsSome'. -/
def bitsSomeCard : Claim7 := { stood := { row := bitsSomeRow, standIns := [], harness := (true, "ac45d4c437fa1b4fc38010d3e04dffb739c7bcf467005a6fa251b78cdd03a1b9"), looks := false }, kinds := [], alts := [], laidByText := true, laidKinds := [.data], laidTests := true, laidLooks := .later }
def BitsSomeCardSaid : Prop := Claim7.holds Tryd.pinned (.plain (OpenSpec.ofChange bitsSomeSpec)) bitsSomeCard

/-- THE TIED CARD OF 'gleaninglaw03.BitsEdges'. -/
def bitsEdgesCard : Claim7 := { stood := { row := bitsEdgesRow, standIns := [], harness := (true, "ac45d4c437fa1b4fc38010d3e04dffb739c7bcf467005a6fa251b78cdd03a1b9"), looks := false }, kinds := [], alts := [], laidByText := true, laidKinds := [.data], laidTests := true, laidLooks := .later }
def BitsEdgesCardSaid : Prop := Claim7.holds Tryd.pinned (.plain (OpenSpec.ofChange bitsEdgesSpec)) bitsEdgesCard

/-- THE TIED CARD OF 'gleaninglaw03.BitsPlay'. -/
def bitsPlayCard : Claim7 := { stood := { row := bitsPlayRow, standIns := [], harness := (true, "ac45d4c437fa1b4fc38010d3e04dffb739c7bcf467005a6fa251b78cdd03a1b9"), looks := false }, kinds := [], alts := [], laidByText := true, laidKinds := [.data], laidTests := true, laidLooks := .later }
def BitsPlayCardSaid : Prop := Claim7.holds Tryd.pinned (.plain (OpenSpec.ofChange bitsPlaySpec)) bitsPlayCard

/-- THE TIED CARD OF 'gleaninglaw03.BitsBack'. -/
def bitsBackCard : Claim7 := { stood := { row := bitsBackRow, standIns := [], harness := (true, "ac45d4c437fa1b4fc38010d3e04dffb739c7bcf467005a6fa251b78cdd03a1b9"), looks := false }, kinds := [], alts := [], laidByText := true, laidKinds := [.data], laidTests := true, laidLooks := .later }
def BitsBackCardSaid : Prop := Claim7.holds Tryd.pinned (.plain (OpenSpec.ofChange bitsBackSpec)) bitsBackCard

/-- THE TIED CARD OF 'gleaninglaw03.BitsNil'. -/
def bitsNilCard : Claim7 := { stood := { row := bitsNilRow, standIns := [], harness := (true, "ac45d4c437fa1b4fc38010d3e04dffb739c7bcf467005a6fa251b78cdd03a1b9"), looks := false }, kinds := [], alts := [], laidByText := true, laidKinds := [.data], laidTests := true, laidLooks := .later }
def BitsNilCardSaid : Prop := Claim7.holds Tryd.pinned (.plain (OpenSpec.ofChange bitsNilSpec)) bitsNilCard

/-- THE TIED CARD OF 'gleaninglaw07.CardTakes'. -/
def cardTakesCard : Claim7 := { stood := { row := cardTakesRow, standIns := [], harness := (true, "ac45d4c437fa1b4fc38010d3e04dffb739c7bcf467005a6fa251b78cdd03a1b9"), looks := false }, kinds := [], alts := [], laidByText := true, laidKinds := [.data], laidTests := true, laidLooks := .later }
def CardTakesCardSaid : Prop := Claim7.holds Tryd.pinned (.plain (OpenSpec.ofChange cardTakesSpec)) cardTakesCard

/-- THE TIED CARD OF 'gleaninglaw07.CardNear'. -/
def cardNearCard : Claim7 := { stood := { row := cardNearRow, standIns := [], harness := (true, "ac45d4c437fa1b4fc38010d3e04dffb739c7bcf467005a6fa251b78cdd03a1b9"), looks := false }, kinds := [], alts := [], laidByText := true, laidKinds := [.data], laidTests := true, laidLooks := .later }
def CardNearCardSaid : Prop := Claim7.holds Tryd.pinned (.plain (OpenSpec.ofChange cardNearSpec)) cardNearCard

/-- THE TIED CARD OF 'gleaninglaw07.CardWhole'. -/
def cardWholeCard : Claim7 := { stood := { row := cardWholeRow, standIns := [], harness := (true, "ac45d4c437fa1b4fc38010d3e04dffb739c7bcf467005a6fa251b78cdd03a1b9"), looks := false }, kinds := [], alts := [], laidByText := true, laidKinds := [.data], laidTests := true, laidLooks := .later }
def CardWholeCardSaid : Prop := Claim7.holds Tryd.pinned (.plain (OpenSpec.ofChange cardWholeSpec)) cardWholeCard

/-- THE TIED CARD OF 'gleaninglaw14.MarkReaches'. -/
def markReachesCard : Claim7 := { stood := { row := markReachesRow, standIns := [], harness := (true, "ac45d4c437fa1b4fc38010d3e04dffb739c7bcf467005a6fa251b78cdd03a1b9"), looks := false }, kinds := [], alts := [], laidByText := true, laidKinds := [.data], laidTests := true, laidLooks := .later }
def MarkReachesCardSaid : Prop := Claim7.holds Tryd.pinned (.plain (OpenSpec.ofChange markReachesSpec)) markReachesCard

/-- THE TIED CARD OF 'gleaninglaw14.MarkOrder'. -/
def markOrderCard : Claim7 := { stood := { row := markOrderRow, standIns := [], harness := (true, "ac45d4c437fa1b4fc38010d3e04dffb739c7bcf467005a6fa251b78cdd03a1b9"), looks := false }, kinds := [], alts := [], laidByText := true, laidKinds := [.data], laidTests := true, laidLooks := .later }
def MarkOrderCardSaid : Prop := Claim7.holds Tryd.pinned (.plain (OpenSpec.ofChange markOrderSpec)) markOrderCard

/-- THE TIED CARD OF 'gleaninglaw14.MarkGrows'. -/
def markGrowsCard : Claim7 := { stood := { row := markGrowsRow, standIns := [], harness := (true, "ac45d4c437fa1b4fc38010d3e04dffb739c7bcf467005a6fa251b78cdd03a1b9"), looks := false }, kinds := [], alts := [], laidByText := true, laidKinds := [.data], laidTests := true, laidLooks := .later }
def MarkGrowsCardSaid : Prop := Claim7.holds Tryd.pinned (.plain (OpenSpec.ofChange markGrowsSpec)) markGrowsCard

/-- THE TIED CARD OF 'gleaninglaw14.MarkAsks'. -/
def markAsksCard : Claim7 := { stood := { row := markAsksRow, standIns := [], harness := (true, "ac45d4c437fa1b4fc38010d3e04dffb739c7bcf467005a6fa251b78cdd03a1b9"), looks := false }, kinds := [], alts := [], laidByText := true, laidKinds := [.data], laidTests := true, laidLooks := .later }
def MarkAsksCardSaid : Prop := Claim7.holds Tryd.pinned (.plain (OpenSpec.ofChange markAsksSpec)) markAsksCard

/-- THE TIED CARD OF 'gleaninglaw14.MarkChain'. -/
def markChainCard : Claim7 := { stood := { row := markChainRow, standIns := [], harness := (true, "ac45d4c437fa1b4fc38010d3e04dffb739c7bcf467005a6fa251b78cdd03a1b9"), looks := false }, kinds := [], alts := [], laidByText := true, laidKinds := [.data], laidTests := true, laidLooks := .later }
def MarkChainCardSaid : Prop := Claim7.holds Tryd.pinned (.plain (OpenSpec.ofChange markChainSpec)) markChainCard

/-- THE TIED CARD OF 'gleaninglaw14.MarkOdd'. -/
def markOddCard : Claim7 := { stood := { row := markOddRow, standIns := [], harness := (true, "ac45d4c437fa1b4fc38010d3e04dffb739c7bcf467005a6fa251b78cdd03a1b9"), looks := false }, kinds := [], alts := [], laidByText := true, laidKinds := [.data], laidTests := true, laidLooks := .later }
def MarkOddCardSaid : Prop := Claim7.holds Tryd.pinned (.plain (OpenSpec.ofChange markOddSpec)) markOddCard

/-- THE TIED CARD OF 'gleaninglaw14.MarkRings'. -/
def markRingsCard : Claim7 := { stood := { row := markRingsRow, standIns := [], harness := (true, "ac45d4c437fa1b4fc38010d3e04dffb739c7bcf467005a6fa251b78cdd03a1b9"), looks := false }, kinds := [], alts := [], laidByText := true, laidKinds := [.data], laidTests := true, laidLooks := .later }
def MarkRingsCardSaid : Prop := Claim7.holds Tryd.pinned (.plain (OpenSpec.ofChange markRingsSpec)) markRingsCard

/-- THE TIED CARD OF 'gleaninglaw07.CardPlays'. -/
def cardPlaysCard : Claim7 := { stood := { row := cardPlaysRow, standIns := [], harness := (true, "ac45d4c437fa1b4fc38010d3e04dffb739c7bcf467005a6fa251b78cdd03a1b9"), looks := false }, kinds := [], alts := [], laidByText := true, laidKinds := [.data], laidTests := true, laidLooks := .later }
def CardPlaysCardSaid : Prop := Claim7.holds Tryd.pinned (.plain (OpenSpec.ofChange cardPlaysSpec)) cardPlaysCard

/-- THE SECOND FORM's CARD OF 'gleaninglaw07.CardNil'. -/
def cardNilUptoCard : Claim7 := { stood := { row := cardNilUptoRow, standIns := [], harness := (true, "ac45d4c437fa1b4fc38010d3e04dffb739c7bcf467005a6fa251b78cdd03a1b9"), looks := false }, kinds := [], alts := [], laidByText := true, laidKinds := [.data], laidTests := true, laidLooks := .later }
def CardNilUptoCardSaid : Prop := Claim7.holds Tryd.pinned (.plain (OpenSpec.upto cardNilSpec)) cardNilUptoCard

/-- THE SECOND FORM's CARD OF 'gleaninglaw07.CardOnce'. -/
def cardOnceUptoCard : Claim7 := { stood := { row := cardOnceUptoRow, standIns := [], harness := (true, "ac45d4c437fa1b4fc38010d3e04dffb739c7bcf467005a6fa251b78cdd03a1b9"), looks := false }, kinds := [], alts := [], laidByText := true, laidKinds := [.data], laidTests := true, laidLooks := .later }
def CardOnceUptoCardSaid : Prop := Claim7.holds Tryd.pinned (.plain (OpenSpec.upto cardOnceSpec)) cardOnceUptoCard

/-- THE SECOND FORM's CARD OF 'gleaninglaw03.BitsWalk'. -/
def bitsWalkUptoCard : Claim7 := { stood := { row := bitsWalkUptoRow, standIns := [], harness := (true, "ac45d4c437fa1b4fc38010d3e04dffb739c7bcf467005a6fa251b78cdd03a1b9"), looks := false }, kinds := [], alts := [], laidByText := true, laidKinds := [.data], laidTests := true, laidLooks := .later }
def BitsWalkUptoCardSaid : Prop := Claim7.holds Tryd.pinned (.plain (OpenSpec.upto bitsWalkSpec)) bitsWalkUptoCard

/-- THE SECOND FORM's CARD OF 'gleaninglaw03.BitsSome'. -/
def bitsSomeUptoCard : Claim7 := { stood := { row := bitsSomeUptoRow, standIns := [], harness := (true, "ac45d4c437fa1b4fc38010d3e04dffb739c7bcf467005a6fa251b78cdd03a1b9"), looks := false }, kinds := [], alts := [], laidByText := true, laidKinds := [.data], laidTests := true, laidLooks := .later }
def BitsSomeUptoCardSaid : Prop := Claim7.holds Tryd.pinned (.plain (OpenSpec.upto bitsSomeSpec)) bitsSomeUptoCard

/-- THE SECOND FORM's CARD OF 'gleaninglaw03.BitsEdges'. -/
def bitsEdgesUptoCard : Claim7 := { stood := { row := bitsEdgesUptoRow, standIns := [], harness := (true, "ac45d4c437fa1b4fc38010d3e04dffb739c7bcf467005a6fa251b78cdd03a1b9"), looks := false }, kinds := [], alts := [], laidByText := true, laidKinds := [.data], laidTests := true, laidLooks := .later }
def BitsEdgesUptoCardSaid : Prop := Claim7.holds Tryd.pinned (.plain (OpenSpec.upto bitsEdgesSpec)) bitsEdgesUptoCard

/-- THE SECOND FORM's CARD OF 'gleaninglaw03.BitsPlay'. -/
def bitsPlayUptoCard : Claim7 := { stood := { row := bitsPlayUptoRow, standIns := [], harness := (true, "ac45d4c437fa1b4fc38010d3e04dffb739c7bcf467005a6fa251b78cdd03a1b9"), looks := false }, kinds := [], alts := [], laidByText := true, laidKinds := [.data], laidTests := true, laidLooks := .later }
def BitsPlayUptoCardSaid : Prop := Claim7.holds Tryd.pinned (.plain (OpenSpec.upto bitsPlaySpec)) bitsPlayUptoCard

/-- THE SECOND FORM's CARD OF 'gleaninglaw03.BitsBack'. -/
def bitsBackUptoCard : Claim7 := { stood := { row := bitsBackUptoRow, standIns := [], harness := (true, "ac45d4c437fa1b4fc38010d3e04dffb739c7bcf467005a6fa251b78cdd03a1b9"), looks := false }, kinds := [], alts := [], laidByText := true, laidKinds := [.data], laidTests := true, laidLooks := .later }
def BitsBackUptoCardSaid : Prop := Claim7.holds Tryd.pinned (.plain (OpenSpec.upto bitsBackSpec)) bitsBackUptoCard

/-- THE SECOND FORM's CARD OF 'gleaninglaw03.BitsNil'. -/
def bitsNilUptoCard : Claim7 := { stood := { row := bitsNilUptoRow, standIns := [], harness := (true, "ac45d4c437fa1b4fc38010d3e04dffb739c7bcf467005a6fa251b78cdd03a1b9"), looks := false }, kinds := [], alts := [], laidByText := true, laidKinds := [.data], laidTests := true, laidLooks := .later }
def BitsNilUptoCardSaid : Prop := Claim7.holds Tryd.pinned (.plain (OpenSpec.upto bitsNilSpec)) bitsNilUptoCard

/-- THE SECOND FORM's CARD OF 'gleaninglaw07.CardTakes'. -/
def cardTakesUptoCard : Claim7 := { stood := { row := cardTakesUptoRow, standIns := [], harness := (true, "ac45d4c437fa1b4fc38010d3e04dffb739c7bcf467005a6fa251b78cdd03a1b9"), looks := false }, kinds := [], alts := [], laidByText := true, laidKinds := [.data], laidTests := true, laidLooks := .later }
def CardTakesUptoCardSaid : Prop := Claim7.holds Tryd.pinned (.plain (OpenSpec.upto cardTakesSpec)) cardTakesUptoCard

/-- THE SECOND FORM's CARD OF 'gleaninglaw07.CardNear'. -/
def cardNearUptoCard : Claim7 := { stood := { row := cardNearUptoRow, standIns := [], harness := (true, "ac45d4c437fa1b4fc38010d3e04dffb739c7bcf467005a6fa251b78cdd03a1b9"), looks := false }, kinds := [], alts := [], laidByText := true, laidKinds := [.data], laidTests := true, laidLooks := .later }
def CardNearUptoCardSaid : Prop := Claim7.holds Tryd.pinned (.plain (OpenSpec.upto cardNearSpec)) cardNearUptoCard

/-- THE SECOND FORM's CARD OF 'gleaninglaw07.CardWhole'. -/
def cardWholeUptoCard : Claim7 := { stood := { row := cardWholeUptoRow, standIns := [], harness := (true, "ac45d4c437fa1b4fc38010d3e04dffb739c7bcf467005a6fa251b78cdd03a1b9"), looks := false }, kinds := [], alts := [], laidByText := true, laidKinds := [.data], laidTests := true, laidLooks := .later }
def CardWholeUptoCardSaid : Prop := Claim7.holds Tryd.pinned (.plain (OpenSpec.upto cardWholeSpec)) cardWholeUptoCard

/-- THE SECOND FORM's CARD OF 'gleaninglaw14.MarkReaches'. -/
def markReachesUptoCard : Claim7 := { stood := { row := markReachesUptoRow, standIns := [], harness := (true, "ac45d4c437fa1b4fc38010d3e04dffb739c7bcf467005a6fa251b78cdd03a1b9"), looks := false }, kinds := [], alts := [], laidByText := true, laidKinds := [.data], laidTests := true, laidLooks := .later }
def MarkReachesUptoCardSaid : Prop := Claim7.holds Tryd.pinned (.plain (OpenSpec.upto markReachesSpec)) markReachesUptoCard

/-- THE SECOND FORM's CARD OF 'gleaninglaw14.MarkOrder'. -/
def markOrderUptoCard : Claim7 := { stood := { row := markOrderUptoRow, standIns := [], harness := (true, "ac45d4c437fa1b4fc38010d3e04dffb739c7bcf467005a6fa251b78cdd03a1b9"), looks := false }, kinds := [], alts := [], laidByText := true, laidKinds := [.data], laidTests := true, laidLooks := .later }
def MarkOrderUptoCardSaid : Prop := Claim7.holds Tryd.pinned (.plain (OpenSpec.upto markOrderSpec)) markOrderUptoCard

/-- THE SECOND FORM's CARD OF 'gleaninglaw14.MarkGrows'. -/
def markGrowsUptoCard : Claim7 := { stood := { row := markGrowsUptoRow, standIns := [], harness := (true, "ac45d4c437fa1b4fc38010d3e04dffb739c7bcf467005a6fa251b78cdd03a1b9"), looks := false }, kinds := [], alts := [], laidByText := true, laidKinds := [.data], laidTests := true, laidLooks := .later }
def MarkGrowsUptoCardSaid : Prop := Claim7.holds Tryd.pinned (.plain (OpenSpec.upto markGrowsSpec)) markGrowsUptoCard

/-- THE SECOND FORM's CARD OF 'gleaninglaw14.MarkAsks'. -/
def markAsksUptoCard : Claim7 := { stood := { row := markAsksUptoRow, standIns := [], harness := (true, "ac45d4c437fa1b4fc38010d3e04dffb739c7bcf467005a6fa251b78cdd03a1b9"), looks := false }, kinds := [], alts := [], laidByText := true, laidKinds := [.data], laidTests := true, laidLooks := .later }
def MarkAsksUptoCardSaid : Prop := Claim7.holds Tryd.pinned (.plain (OpenSpec.upto markAsksSpec)) markAsksUptoCard

/-- THE SECOND FORM's CARD OF 'gleaninglaw14.MarkChain'. -/
def markChainUptoCard : Claim7 := { stood := { row := markChainUptoRow, standIns := [], harness := (true, "ac45d4c437fa1b4fc38010d3e04dffb739c7bcf467005a6fa251b78cdd03a1b9"), looks := false }, kinds := [], alts := [], laidByText := true, laidKinds := [.data], laidTests := true, laidLooks := .later }
def MarkChainUptoCardSaid : Prop := Claim7.holds Tryd.pinned (.plain (OpenSpec.upto markChainSpec)) markChainUptoCard

/-- THE SECOND FORM's CARD OF 'gleaninglaw14.MarkOdd'. -/
def markOddUptoCard : Claim7 := { stood := { row := markOddUptoRow, standIns := [], harness := (true, "ac45d4c437fa1b4fc38010d3e04dffb739c7bcf467005a6fa251b78cdd03a1b9"), looks := false }, kinds := [], alts := [], laidByText := true, laidKinds := [.data], laidTests := true, laidLooks := .later }
def MarkOddUptoCardSaid : Prop := Claim7.holds Tryd.pinned (.plain (OpenSpec.upto markOddSpec)) markOddUptoCard

/-- THE SECOND FORM's CARD OF 'gleaninglaw14.MarkRings'. -/
def markRingsUptoCard : Claim7 := { stood := { row := markRingsUptoRow, standIns := [], harness := (true, "ac45d4c437fa1b4fc38010d3e04dffb739c7bcf467005a6fa251b78cdd03a1b9"), looks := false }, kinds := [], alts := [], laidByText := true, laidKinds := [.data], laidTests := true, laidLooks := .later }
def MarkRingsUptoCardSaid : Prop := Claim7.holds Tryd.pinned (.plain (OpenSpec.upto markRingsSpec)) markRingsUptoCard

/-- THE SECOND FORM's CARD OF 'gleaninglaw07.CardPlays'. -/
def cardPlaysUptoCard : Claim7 := { stood := { row := cardPlaysUptoRow, standIns := [], harness := (true, "ac45d4c437fa1b4fc38010d3e04dffb739c7bcf467005a6fa251b78cdd03a1b9"), looks := false }, kinds := [], alts := [], laidByText := true, laidKinds := [.data], laidTests := true, laidLooks := .later }
def CardPlaysUptoCardSaid : Prop := Claim7.holds Tryd.pinned (.plain (OpenSpec.upto cardPlaysSpec)) cardPlaysUptoCard
end Rows
end Go.Proofs.YtdfpmgpdkajhkaaDoor
