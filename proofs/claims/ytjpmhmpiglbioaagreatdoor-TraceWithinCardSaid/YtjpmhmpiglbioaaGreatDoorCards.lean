/-
  DERIVED. GIVEN WITH THE SEED: THE CARDS: each row of YtjpmhmpiglbioaaGreatDoorRows.lean that lists a variable, with what it lists TIED to the program's text (the seventh form; the later family's looks); each row that meets fmt, with fmt's text TOLD by the authors' own Lean function (tested against real Go, not proved from fmt's source: count such statements apart). THE CARD IS WHAT COUNTS. Prove the row's statement (the work); the ties are given (YtjpmhmpiglbioaaGreatDoorTie.lean); close each card by the builder's one call (the guide's Derived/Test/ToyasCard.lean, 'card_holds'). Laid BY PROGRAM, IN A SANDBOX (cutbox-door.mjs). By AI agents, Wed Nov 11 2026. No macro, syntax, notation, axiom, sorry.
-/
import Derived.Test.YtjpmhmpiglbioaaGreatDoorRows
import GoSem.ClaimSeven
namespace Go.Proofs.YtjpmhmpiglbioaaGreatDoor
namespace Rows

/-- THE TIED CARD OF 'winnowerlaw12.LowerGoes'. -/
def lowerGoesCard : Claim7 := { stood := { row := lowerGoesRow, standIns := [], harness := (true, "003608e73737cfbb2398cb29511948d8977aeb09b85c17a0a0912bf49842128a"), looks := false }, kinds := [], alts := [], laidByText := true, laidKinds := [.data], laidTests := true, laidLooks := .later }
def LowerGoesCardSaid : Prop := Claim7.holds Tryz.pinned (.plain (OpenSpec.ofChange lowerGoesSpec)) lowerGoesCard

/-- THE TIED CARD OF 'winnowerlaw12.LowerPrinted'. -/
def lowerPrintedCard : Claim7 := { stood := { row := lowerPrintedRow, standIns := [], harness := (true, "003608e73737cfbb2398cb29511948d8977aeb09b85c17a0a0912bf49842128a"), looks := false }, kinds := [], alts := [], laidByText := true, laidKinds := [.data], laidTests := true, laidLooks := .later }
def LowerPrintedCardSaid : Prop := Claim7.holds Tryz.pinned (.plain (OpenSpec.ofChange lowerPrintedSpec)) lowerPrintedCard

/-- THE TIED CARD OF 'winnowerlaw12.LowerFinds'. -/
def lowerFindsCard : Claim7 := { stood := { row := lowerFindsRow, standIns := [], harness := (true, "003608e73737cfbb2398cb29511948d8977aeb09b85c17a0a0912bf49842128a"), looks := false }, kinds := [], alts := [], laidByText := true, laidKinds := [.data], laidTests := true, laidLooks := .later }
def LowerFindsCardSaid : Prop := Claim7.holds Tryz.pinned (.plain (OpenSpec.ofChange lowerFindsSpec)) lowerFindsCard

/-- THE TIED CARD OF 'winnowerlaw14.StepRuns'. -/
def stepRunsCard : Claim7 := { stood := { row := stepRunsRow, standIns := [], harness := (true, "003608e73737cfbb2398cb29511948d8977aeb09b85c17a0a0912bf49842128a"), looks := false }, kinds := [], alts := [], laidByText := true, laidKinds := [.data], laidTests := true, laidLooks := .later }
def StepRunsCardSaid : Prop := Claim7.holds Tryz.pinned (.plain (OpenSpec.ofChange stepRunsSpec)) stepRunsCard

/-- THE TIED CARD OF 'winnowerlaw14.StepTypes'. -/
def stepTypesCard : Claim7 := { stood := { row := stepTypesRow, standIns := [], harness := (true, "003608e73737cfbb2398cb29511948d8977aeb09b85c17a0a0912bf49842128a"), looks := false }, kinds := [], alts := [], laidByText := true, laidKinds := [.data], laidTests := true, laidLooks := .later }
def StepTypesCardSaid : Prop := Claim7.holds Tryz.pinned (.plain (OpenSpec.ofChange stepTypesSpec)) stepTypesCard

/-- THE TIED CARD OF 'winnowerlaw14.StepParts'. -/
def stepPartsCard : Claim7 := { stood := { row := stepPartsRow, standIns := [], harness := (true, "003608e73737cfbb2398cb29511948d8977aeb09b85c17a0a0912bf49842128a"), looks := false }, kinds := [], alts := [], laidByText := true, laidKinds := [.data], laidTests := true, laidLooks := .later }
def StepPartsCardSaid : Prop := Claim7.holds Tryz.pinned (.plain (OpenSpec.ofChange stepPartsSpec)) stepPartsCard

/-- THE TIED CARD OF 'winnowerlaw14.StepBlind'. -/
def stepBlindCard : Claim7 := { stood := { row := stepBlindRow, standIns := [], harness := (true, "003608e73737cfbb2398cb29511948d8977aeb09b85c17a0a0912bf49842128a"), looks := false }, kinds := [], alts := [], laidByText := true, laidKinds := [.data], laidTests := true, laidLooks := .later }
def StepBlindCardSaid : Prop := Claim7.holds Tryz.pinned (.plain (OpenSpec.ofChange stepBlindSpec)) stepBlindCard

/-- THE TIED CARD OF 'winnowerlaw14.StepDeep'. -/
def stepDeepCard : Claim7 := { stood := { row := stepDeepRow, standIns := [], harness := (true, "003608e73737cfbb2398cb29511948d8977aeb09b85c17a0a0912bf49842128a"), looks := false }, kinds := [], alts := [], laidByText := true, laidKinds := [.data], laidTests := true, laidLooks := .later }
def StepDeepCardSaid : Prop := Claim7.holds Tryz.pinned (.plain (OpenSpec.ofChange stepDeepSpec)) stepDeepCard

/-- THE TIED CARD OF 'winnowerlaw15.TraceLonger'. -/
def traceLongerCard : Claim7 := { stood := { row := traceLongerRow, standIns := [], harness := (true, "003608e73737cfbb2398cb29511948d8977aeb09b85c17a0a0912bf49842128a"), looks := false }, kinds := [], alts := [], laidByText := true, laidKinds := [.data], laidTests := true, laidLooks := .later }
def TraceLongerCardSaid : Prop := Claim7.holds Tryz.pinned (.plain (OpenSpec.ofChange traceLongerSpec)) traceLongerCard

/-- THE TIED CARD OF 'winnowerlaw15.TraceWithin'. -/
def traceWithinCard : Claim7 := { stood := { row := traceWithinRow, standIns := [], harness := (true, "003608e73737cfbb2398cb29511948d8977aeb09b85c17a0a0912bf49842128a"), looks := false }, kinds := [], alts := [], laidByText := true, laidKinds := [.data], laidTests := true, laidLooks := .later }
def TraceWithinCardSaid : Prop := Claim7.holds Tryz.pinned (.plain (OpenSpec.ofChange traceWithinSpec)) traceWithinCard

/-- THE TIED CARD OF 'winnowerlaw15.TraceAgain'. -/
def traceAgainCard : Claim7 := { stood := { row := traceAgainRow, standIns := [], harness := (true, "003608e73737cfbb2398cb29511948d8977aeb09b85c17a0a0912bf49842128a"), looks := false }, kinds := [], alts := [], laidByText := true, laidKinds := [.data], laidTests := true, laidLooks := .later }
def TraceAgainCardSaid : Prop := Claim7.holds Tryz.pinned (.plain (OpenSpec.ofChange traceAgainSpec)) traceAgainCard

/-- THE TIED CARD OF 'winnowerlaw15.TraceJoins'. -/
def traceJoinsCard : Claim7 := { stood := { row := traceJoinsRow, standIns := [], harness := (true, "003608e73737cfbb2398cb29511948d8977aeb09b85c17a0a0912bf49842128a"), looks := false }, kinds := [], alts := [], laidByText := true, laidKinds := [.data], laidTests := true, laidLooks := .later }
def TraceJoinsCardSaid : Prop := Claim7.holds Tryz.pinned (.plain (OpenSpec.ofChange traceJoinsSpec)) traceJoinsCard

/-- THE SECOND FORM's CARD OF 'winnowerlaw12.LowerGoes'. -/
def lowerGoesUptoCard : Claim7 := { stood := { row := lowerGoesUptoRow, standIns := [], harness := (true, "003608e73737cfbb2398cb29511948d8977aeb09b85c17a0a0912bf49842128a"), looks := false }, kinds := [], alts := [], laidByText := true, laidKinds := [.data], laidTests := true, laidLooks := .later }
def LowerGoesUptoCardSaid : Prop := Claim7.holds Tryz.pinned (.plain (OpenSpec.upto lowerGoesSpec)) lowerGoesUptoCard

/-- THE SECOND FORM's CARD OF 'winnowerlaw12.LowerPrinted'. -/
def lowerPrintedUptoCard : Claim7 := { stood := { row := lowerPrintedUptoRow, standIns := [], harness := (true, "003608e73737cfbb2398cb29511948d8977aeb09b85c17a0a0912bf49842128a"), looks := false }, kinds := [], alts := [], laidByText := true, laidKinds := [.data], laidTests := true, laidLooks := .later }
def LowerPrintedUptoCardSaid : Prop := Claim7.holds Tryz.pinned (.plain (OpenSpec.upto lowerPrintedSpec)) lowerPrintedUptoCard

/-- THE SECOND FORM's CARD OF 'winnowerlaw12.LowerFinds'. -/
def lowerFindsUptoCard : Claim7 := { stood := { row := lowerFindsUptoRow, standIns := [], harness := (true, "003608e73737cfbb2398cb29511948d8977aeb09b85c17a0a0912bf49842128a"), looks := false }, kinds := [], alts := [], laidByText := true, laidKinds := [.data], laidTests := true, laidLooks := .later }
def LowerFindsUptoCardSaid : Prop := Claim7.holds Tryz.pinned (.plain (OpenSpec.upto lowerFindsSpec)) lowerFindsUptoCard

/-- THE SECOND FORM's CARD OF 'winnowerlaw14.StepRuns'. -/
def stepRunsUptoCard : Claim7 := { stood := { row := stepRunsUptoRow, standIns := [], harness := (true, "003608e73737cfbb2398cb29511948d8977aeb09b85c17a0a0912bf49842128a"), looks := false }, kinds := [], alts := [], laidByText := true, laidKinds := [.data], laidTests := true, laidLooks := .later }
def StepRunsUptoCardSaid : Prop := Claim7.holds Tryz.pinned (.plain (OpenSpec.upto stepRunsSpec)) stepRunsUptoCard

/-- THE SECOND FORM's CARD OF 'winnowerlaw14.StepTypes'. -/
def stepTypesUptoCard : Claim7 := { stood := { row := stepTypesUptoRow, standIns := [], harness := (true, "003608e73737cfbb2398cb29511948d8977aeb09b85c17a0a0912bf49842128a"), looks := false }, kinds := [], alts := [], laidByText := true, laidKinds := [.data], laidTests := true, laidLooks := .later }
def StepTypesUptoCardSaid : Prop := Claim7.holds Tryz.pinned (.plain (OpenSpec.upto stepTypesSpec)) stepTypesUptoCard

/-- THE SECOND FORM's CARD OF 'winnowerlaw14.StepParts'. -/
def stepPartsUptoCard : Claim7 := { stood := { row := stepPartsUptoRow, standIns := [], harness := (true, "003608e73737cfbb2398cb29511948d8977aeb09b85c17a0a0912bf49842128a"), looks := false }, kinds := [], alts := [], laidByText := true, laidKinds := [.data], laidTests := true, laidLooks := .later }
def StepPartsUptoCardSaid : Prop := Claim7.holds Tryz.pinned (.plain (OpenSpec.upto stepPartsSpec)) stepPartsUptoCard

/-- THE SECOND FORM's CARD OF 'winnowerlaw14.StepBlind'. -/
def stepBlindUptoCard : Claim7 := { stood := { row := stepBlindUptoRow, standIns := [], harness := (true, "003608e73737cfbb2398cb29511948d8977aeb09b85c17a0a0912bf49842128a"), looks := false }, kinds := [], alts := [], laidByText := true, laidKinds := [.data], laidTests := true, laidLooks := .later }
def StepBlindUptoCardSaid : Prop := Claim7.holds Tryz.pinned (.plain (OpenSpec.upto stepBlindSpec)) stepBlindUptoCard

/-- THE SECOND FORM's CARD OF 'winnowerlaw14.StepDeep'. -/
def stepDeepUptoCard : Claim7 := { stood := { row := stepDeepUptoRow, standIns := [], harness := (true, "003608e73737cfbb2398cb29511948d8977aeb09b85c17a0a0912bf49842128a"), looks := false }, kinds := [], alts := [], laidByText := true, laidKinds := [.data], laidTests := true, laidLooks := .later }
def StepDeepUptoCardSaid : Prop := Claim7.holds Tryz.pinned (.plain (OpenSpec.upto stepDeepSpec)) stepDeepUptoCard

/-- THE SECOND FORM's CARD OF 'winnowerlaw15.TraceLonger'. -/
def traceLongerUptoCard : Claim7 := { stood := { row := traceLongerUptoRow, standIns := [], harness := (true, "003608e73737cfbb2398cb29511948d8977aeb09b85c17a0a0912bf49842128a"), looks := false }, kinds := [], alts := [], laidByText := true, laidKinds := [.data], laidTests := true, laidLooks := .later }
def TraceLongerUptoCardSaid : Prop := Claim7.holds Tryz.pinned (.plain (OpenSpec.upto traceLongerSpec)) traceLongerUptoCard

/-- THE SECOND FORM's CARD OF 'winnowerlaw15.TraceWithin'. -/
def traceWithinUptoCard : Claim7 := { stood := { row := traceWithinUptoRow, standIns := [], harness := (true, "003608e73737cfbb2398cb29511948d8977aeb09b85c17a0a0912bf49842128a"), looks := false }, kinds := [], alts := [], laidByText := true, laidKinds := [.data], laidTests := true, laidLooks := .later }
def TraceWithinUptoCardSaid : Prop := Claim7.holds Tryz.pinned (.plain (OpenSpec.upto traceWithinSpec)) traceWithinUptoCard

/-- THE SECOND FORM's CARD OF 'winnowerlaw15.TraceAgain'. -/
def traceAgainUptoCard : Claim7 := { stood := { row := traceAgainUptoRow, standIns := [], harness := (true, "003608e73737cfbb2398cb29511948d8977aeb09b85c17a0a0912bf49842128a"), looks := false }, kinds := [], alts := [], laidByText := true, laidKinds := [.data], laidTests := true, laidLooks := .later }
def TraceAgainUptoCardSaid : Prop := Claim7.holds Tryz.pinned (.plain (OpenSpec.upto traceAgainSpec)) traceAgainUptoCard

/-- THE SECOND FORM's CARD OF 'winnowerlaw15.TraceJoins'. -/
def traceJoinsUptoCard : Claim7 := { stood := { row := traceJoinsUptoRow, standIns := [], harness := (true, "003608e73737cfbb2398cb29511948d8977aeb09b85c17a0a0912bf49842128a"), looks := false }, kinds := [], alts := [], laidByText := true, laidKinds := [.data], laidTests := true, laidLooks := .later }
def TraceJoinsUptoCardSaid : Prop := Claim7.holds Tryz.pinned (.plain (OpenSpec.upto traceJoinsSpec)) traceJoinsUptoCard
end Rows
end Go.Proofs.YtjpmhmpiglbioaaGreatDoor
