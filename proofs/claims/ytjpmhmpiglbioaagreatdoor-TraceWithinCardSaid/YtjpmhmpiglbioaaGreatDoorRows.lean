/-
  NARROWER THAN 'FOR EVERY INPUT', by the rows' own cells (each row's printed sentence says how): LowerGoes: laid · LowerPrinted: laid · LowerFinds: laid · StepRuns: laid · StepTypes: laid · StepParts: laid · StepBlind: laid · StepDeep: laid · TraceLonger: laid · TraceWithin: laid · TraceAgain: laid · TraceJoins: laid.
  DERIVED. THE GIVEN ROWS OF THIS SEAT. 12 by the template 'for every input the law returns true; each argument reads behind the call as it read before'; 0 by the template 'total and deterministic' (their statements: YtjpmhmpiglbioaaGreatDoorTotals.lean).
  GIVEN WITH THE SEED: the statements are not yours to turn. If you find one false, say at which input.
  Laid BY PROGRAM, IN A SANDBOX (cutbox-rows.mjs): the forced cells as the released guide's own fill.sh prints them over the translation 32331a0301511ec4… (all of the seat's roots in one cut). By AI agents, Wed Nov 11 2026. No macro, syntax, notation, axiom, sorry.
-/
import Derived.Test.YtjpmhmpiglbioaaGreatDoorChecked
import GoSem.Claim
import GoSem.ClaimJoined
import GoSem.ClaimMapViews
import Derived.JoinedTies
import Derived.KernelRfl
namespace Go.Proofs.YtjpmhmpiglbioaaGreatDoor
/- THE CELL 'sum', in the pinned program and in every row, IS THE sha256 OF THE DUMP (.gsa) THAT YtjpmhmpiglbioaaGreatDoorProg.lean LOADS. Nothing in Lean hashes anything: it is a label: what it is worth is what the hold of that sum in a sandbox is worth. -/
noncomputable def Tryz.pinned : Pinned := { name := "ytjpmhmpiglbioaagreatdoor", sum := "32331a0301511ec4b0a57af05d6663c8377e1abfd8dba16d18fabb4fc62c9ef8", checked := Tryz.checked }
namespace Rows
def none {H : Type} : Left H := { results := [], args := [] }

/- WHAT THE LISTED PACKAGE-LEVEL VARIABLES READ AS WHEN THE CALL BEGINS. Each datum BY PROGRAM (the guide's laid-datum.mjs) off the statement by which the dump's own 'gosem.cut.vars' lays the variable. In a bare row this is a premise. The card (YtjpmhmpiglbioaaGreatDoorCards.lean) ties it to the program's text. -/
def laid_math_bits_deBruijn64tab {H : Type} : DataW H := .agg [.lit (.int .u8 0), .lit (.int .u8 1), .lit (.int .u8 56), .lit (.int .u8 2), .lit (.int .u8 57), .lit (.int .u8 49), .lit (.int .u8 28), .lit (.int .u8 3), .lit (.int .u8 61), .lit (.int .u8 58), .lit (.int .u8 42), .lit (.int .u8 50), .lit (.int .u8 38), .lit (.int .u8 29), .lit (.int .u8 17), .lit (.int .u8 4), .lit (.int .u8 62), .lit (.int .u8 47), .lit (.int .u8 59), .lit (.int .u8 36), .lit (.int .u8 45), .lit (.int .u8 43), .lit (.int .u8 51), .lit (.int .u8 22), .lit (.int .u8 53), .lit (.int .u8 39), .lit (.int .u8 33), .lit (.int .u8 30), .lit (.int .u8 24), .lit (.int .u8 18), .lit (.int .u8 12), .lit (.int .u8 5), .lit (.int .u8 63), .lit (.int .u8 55), .lit (.int .u8 48), .lit (.int .u8 27), .lit (.int .u8 60), .lit (.int .u8 41), .lit (.int .u8 37), .lit (.int .u8 16), .lit (.int .u8 46), .lit (.int .u8 35), .lit (.int .u8 44), .lit (.int .u8 21), .lit (.int .u8 52), .lit (.int .u8 32), .lit (.int .u8 23), .lit (.int .u8 11), .lit (.int .u8 54), .lit (.int .u8 26), .lit (.int .u8 40), .lit (.int .u8 15), .lit (.int .u8 34), .lit (.int .u8 20), .lit (.int .u8 31), .lit (.int .u8 10), .lit (.int .u8 25), .lit (.int .u8 14), .lit (.int .u8 19), .lit (.int .u8 9), .lit (.int .u8 13), .lit (.int .u8 8), .lit (.int .u8 7), .lit (.int .u8 6)]

/-- 'winnowerlaw12.LowerGoes': WHATEVER THE INPUT: true; the input reads as it did. -/
def lowerGoesSpec : ChangeSpec := { name := "lowerGoes", fn := fun _ => fun
  | [d] => { results := [.lit (.bool true)], args := [d] }
  | _ => none }
def lowerGoesRow : OpenClaim := { program := "ytjpmhmpiglbioaagreatdoor", sum := "32331a0301511ec4b0a57af05d6663c8377e1abfd8dba16d18fabb4fc62c9ef8", func := "winnower/winnowerlaw12.LowerGoes", spec := "lowerGoes", inPlace := ["slices.overlaps[int]"], unfollowed := true, recurses := true, named := ["math/bits.deBruijn64tab"], plainKeys := false, apart := false, laid := [("math/bits.deBruijn64tab", laid_math_bits_deBruijn64tab)] }
def LowerGoesSaid : Prop := lowerGoesRow.holds Tryz.pinned (OpenSpec.ofChange lowerGoesSpec)

/-- ITS FALSE NEIGHBOUR: 'it returns false'. Refute it at one input. -/
def lowerGoesWrong : ChangeSpec := { name := "lowerGoes", fn := fun _ => fun
  | [d] => { results := [.lit (.bool false)], args := [d] }
  | _ => none }
def LowerGoesWrongFalsely : Prop := lowerGoesRow.holds Tryz.pinned (OpenSpec.ofChange lowerGoesWrong)

/-- 'winnowerlaw12.LowerPrinted': WHATEVER THE INPUT: true; the input reads as it did. -/
def lowerPrintedSpec : ChangeSpec := { name := "lowerPrinted", fn := fun _ => fun
  | [d] => { results := [.lit (.bool true)], args := [d] }
  | _ => none }
def lowerPrintedRow : OpenClaim := { program := "ytjpmhmpiglbioaagreatdoor", sum := "32331a0301511ec4b0a57af05d6663c8377e1abfd8dba16d18fabb4fc62c9ef8", func := "winnower/winnowerlaw12.LowerPrinted", spec := "lowerPrinted", inPlace := ["slices.overlaps[int]"], unfollowed := true, recurses := true, named := ["math/bits.deBruijn64tab"], plainKeys := false, apart := false, laid := [("math/bits.deBruijn64tab", laid_math_bits_deBruijn64tab)] }
def LowerPrintedSaid : Prop := lowerPrintedRow.holds Tryz.pinned (OpenSpec.ofChange lowerPrintedSpec)

/-- ITS FALSE NEIGHBOUR: 'it returns false'. Refute it at one input. -/
def lowerPrintedWrong : ChangeSpec := { name := "lowerPrinted", fn := fun _ => fun
  | [d] => { results := [.lit (.bool false)], args := [d] }
  | _ => none }
def LowerPrintedWrongFalsely : Prop := lowerPrintedRow.holds Tryz.pinned (OpenSpec.ofChange lowerPrintedWrong)

/-- 'winnowerlaw12.LowerFinds': WHATEVER THE INPUT: true; the input reads as it did. -/
def lowerFindsSpec : ChangeSpec := { name := "lowerFinds", fn := fun _ => fun
  | [d1, d2, d3] => { results := [.lit (.bool true)], args := [d1, d2, d3] }
  | _ => none }
def lowerFindsRow : OpenClaim := { program := "ytjpmhmpiglbioaagreatdoor", sum := "32331a0301511ec4b0a57af05d6663c8377e1abfd8dba16d18fabb4fc62c9ef8", func := "winnower/winnowerlaw12.LowerFinds", spec := "lowerFinds", inPlace := ["slices.overlaps[int]"], unfollowed := true, recurses := true, named := ["math/bits.deBruijn64tab"], plainKeys := false, apart := false, laid := [("math/bits.deBruijn64tab", laid_math_bits_deBruijn64tab)] }
def LowerFindsSaid : Prop := lowerFindsRow.holds Tryz.pinned (OpenSpec.ofChange lowerFindsSpec)

/-- ITS FALSE NEIGHBOUR: 'it returns false'. Refute it at one input. -/
def lowerFindsWrong : ChangeSpec := { name := "lowerFinds", fn := fun _ => fun
  | [d1, d2, d3] => { results := [.lit (.bool false)], args := [d1, d2, d3] }
  | _ => none }
def LowerFindsWrongFalsely : Prop := lowerFindsRow.holds Tryz.pinned (OpenSpec.ofChange lowerFindsWrong)

/-- 'winnowerlaw14.StepRuns': WHATEVER THE INPUT: true; the input reads as it did. -/
def stepRunsSpec : ChangeSpec := { name := "stepRuns", fn := fun _ => fun
  | [d1, d2, d3] => { results := [.lit (.bool true)], args := [d1, d2, d3] }
  | _ => none }
def stepRunsRow : OpenClaim := { program := "ytjpmhmpiglbioaagreatdoor", sum := "32331a0301511ec4b0a57af05d6663c8377e1abfd8dba16d18fabb4fc62c9ef8", func := "winnower/winnowerlaw14.StepRuns", spec := "stepRuns", inPlace := ["slices.overlaps[int]"], unfollowed := true, recurses := true, named := ["math/bits.deBruijn64tab"], plainKeys := false, apart := false, laid := [("math/bits.deBruijn64tab", laid_math_bits_deBruijn64tab)] }
def StepRunsSaid : Prop := stepRunsRow.holds Tryz.pinned (OpenSpec.ofChange stepRunsSpec)

/-- ITS FALSE NEIGHBOUR: 'it returns false'. Refute it at one input. -/
def stepRunsWrong : ChangeSpec := { name := "stepRuns", fn := fun _ => fun
  | [d1, d2, d3] => { results := [.lit (.bool false)], args := [d1, d2, d3] }
  | _ => none }
def StepRunsWrongFalsely : Prop := stepRunsRow.holds Tryz.pinned (OpenSpec.ofChange stepRunsWrong)

/-- 'winnowerlaw14.StepTypes': WHATEVER THE INPUT: true; the input reads as it did. -/
def stepTypesSpec : ChangeSpec := { name := "stepTypes", fn := fun _ => fun
  | [d1, d2] => { results := [.lit (.bool true)], args := [d1, d2] }
  | _ => none }
def stepTypesRow : OpenClaim := { program := "ytjpmhmpiglbioaagreatdoor", sum := "32331a0301511ec4b0a57af05d6663c8377e1abfd8dba16d18fabb4fc62c9ef8", func := "winnower/winnowerlaw14.StepTypes", spec := "stepTypes", inPlace := ["slices.overlaps[int]"], unfollowed := true, recurses := true, named := ["math/bits.deBruijn64tab"], plainKeys := false, apart := false, laid := [("math/bits.deBruijn64tab", laid_math_bits_deBruijn64tab)] }
def StepTypesSaid : Prop := stepTypesRow.holds Tryz.pinned (OpenSpec.ofChange stepTypesSpec)

/-- ITS FALSE NEIGHBOUR: 'it returns false'. Refute it at one input. -/
def stepTypesWrong : ChangeSpec := { name := "stepTypes", fn := fun _ => fun
  | [d1, d2] => { results := [.lit (.bool false)], args := [d1, d2] }
  | _ => none }
def StepTypesWrongFalsely : Prop := stepTypesRow.holds Tryz.pinned (OpenSpec.ofChange stepTypesWrong)

/-- 'winnowerlaw14.StepParts': WHATEVER THE INPUT: true; the input reads as it did. -/
def stepPartsSpec : ChangeSpec := { name := "stepParts", fn := fun _ => fun
  | [d1, d2, d3] => { results := [.lit (.bool true)], args := [d1, d2, d3] }
  | _ => none }
def stepPartsRow : OpenClaim := { program := "ytjpmhmpiglbioaagreatdoor", sum := "32331a0301511ec4b0a57af05d6663c8377e1abfd8dba16d18fabb4fc62c9ef8", func := "winnower/winnowerlaw14.StepParts", spec := "stepParts", inPlace := ["slices.overlaps[int]"], unfollowed := true, recurses := true, named := ["math/bits.deBruijn64tab"], plainKeys := false, apart := false, laid := [("math/bits.deBruijn64tab", laid_math_bits_deBruijn64tab)] }
def StepPartsSaid : Prop := stepPartsRow.holds Tryz.pinned (OpenSpec.ofChange stepPartsSpec)

/-- ITS FALSE NEIGHBOUR: 'it returns false'. Refute it at one input. -/
def stepPartsWrong : ChangeSpec := { name := "stepParts", fn := fun _ => fun
  | [d1, d2, d3] => { results := [.lit (.bool false)], args := [d1, d2, d3] }
  | _ => none }
def StepPartsWrongFalsely : Prop := stepPartsRow.holds Tryz.pinned (OpenSpec.ofChange stepPartsWrong)

/-- 'winnowerlaw14.StepBlind': WHATEVER THE INPUT: true; the input reads as it did. -/
def stepBlindSpec : ChangeSpec := { name := "stepBlind", fn := fun _ => fun
  | [d1, d2, d3] => { results := [.lit (.bool true)], args := [d1, d2, d3] }
  | _ => none }
def stepBlindRow : OpenClaim := { program := "ytjpmhmpiglbioaagreatdoor", sum := "32331a0301511ec4b0a57af05d6663c8377e1abfd8dba16d18fabb4fc62c9ef8", func := "winnower/winnowerlaw14.StepBlind", spec := "stepBlind", inPlace := ["slices.overlaps[int]"], unfollowed := true, recurses := true, named := ["math/bits.deBruijn64tab"], plainKeys := false, apart := false, laid := [("math/bits.deBruijn64tab", laid_math_bits_deBruijn64tab)] }
def StepBlindSaid : Prop := stepBlindRow.holds Tryz.pinned (OpenSpec.ofChange stepBlindSpec)

/-- ITS FALSE NEIGHBOUR: 'it returns false'. Refute it at one input. -/
def stepBlindWrong : ChangeSpec := { name := "stepBlind", fn := fun _ => fun
  | [d1, d2, d3] => { results := [.lit (.bool false)], args := [d1, d2, d3] }
  | _ => none }
def StepBlindWrongFalsely : Prop := stepBlindRow.holds Tryz.pinned (OpenSpec.ofChange stepBlindWrong)

/-- 'winnowerlaw14.StepDeep': WHATEVER THE INPUT: true; the input reads as it did. -/
def stepDeepSpec : ChangeSpec := { name := "stepDeep", fn := fun _ => fun
  | [d] => { results := [.lit (.bool true)], args := [d] }
  | _ => none }
def stepDeepRow : OpenClaim := { program := "ytjpmhmpiglbioaagreatdoor", sum := "32331a0301511ec4b0a57af05d6663c8377e1abfd8dba16d18fabb4fc62c9ef8", func := "winnower/winnowerlaw14.StepDeep", spec := "stepDeep", inPlace := ["slices.overlaps[int]"], unfollowed := true, recurses := true, named := ["math/bits.deBruijn64tab"], plainKeys := false, apart := false, laid := [("math/bits.deBruijn64tab", laid_math_bits_deBruijn64tab)] }
def StepDeepSaid : Prop := stepDeepRow.holds Tryz.pinned (OpenSpec.ofChange stepDeepSpec)

/-- ITS FALSE NEIGHBOUR: 'it returns false'. Refute it at one input. -/
def stepDeepWrong : ChangeSpec := { name := "stepDeep", fn := fun _ => fun
  | [d] => { results := [.lit (.bool false)], args := [d] }
  | _ => none }
def StepDeepWrongFalsely : Prop := stepDeepRow.holds Tryz.pinned (OpenSpec.ofChange stepDeepWrong)

/-- 'winnowerlaw15.TraceLonger': WHATEVER THE INPUT: true; the input reads as it did. -/
def traceLongerSpec : ChangeSpec := { name := "traceLonger", fn := fun _ => fun
  | [d1, d2, d3] => { results := [.lit (.bool true)], args := [d1, d2, d3] }
  | _ => none }
def traceLongerRow : OpenClaim := { program := "ytjpmhmpiglbioaagreatdoor", sum := "32331a0301511ec4b0a57af05d6663c8377e1abfd8dba16d18fabb4fc62c9ef8", func := "winnower/winnowerlaw15.TraceLonger", spec := "traceLonger", inPlace := ["slices.overlaps[int]"], unfollowed := true, recurses := true, named := ["math/bits.deBruijn64tab"], plainKeys := false, apart := false, laid := [("math/bits.deBruijn64tab", laid_math_bits_deBruijn64tab)] }
def TraceLongerSaid : Prop := traceLongerRow.holds Tryz.pinned (OpenSpec.ofChange traceLongerSpec)

/-- ITS FALSE NEIGHBOUR: 'it returns false'. Refute it at one input. -/
def traceLongerWrong : ChangeSpec := { name := "traceLonger", fn := fun _ => fun
  | [d1, d2, d3] => { results := [.lit (.bool false)], args := [d1, d2, d3] }
  | _ => none }
def TraceLongerWrongFalsely : Prop := traceLongerRow.holds Tryz.pinned (OpenSpec.ofChange traceLongerWrong)

/-- 'winnowerlaw15.TraceWithin': WHATEVER THE INPUT: true; the input reads as it did. -/
def traceWithinSpec : ChangeSpec := { name := "traceWithin", fn := fun _ => fun
  | [d1, d2] => { results := [.lit (.bool true)], args := [d1, d2] }
  | _ => none }
def traceWithinRow : OpenClaim := { program := "ytjpmhmpiglbioaagreatdoor", sum := "32331a0301511ec4b0a57af05d6663c8377e1abfd8dba16d18fabb4fc62c9ef8", func := "winnower/winnowerlaw15.TraceWithin", spec := "traceWithin", inPlace := ["slices.overlaps[int]"], unfollowed := true, recurses := true, named := ["math/bits.deBruijn64tab"], plainKeys := false, apart := false, laid := [("math/bits.deBruijn64tab", laid_math_bits_deBruijn64tab)] }
def TraceWithinSaid : Prop := traceWithinRow.holds Tryz.pinned (OpenSpec.ofChange traceWithinSpec)

/-- ITS FALSE NEIGHBOUR: 'it returns false'. Refute it at one input. -/
def traceWithinWrong : ChangeSpec := { name := "traceWithin", fn := fun _ => fun
  | [d1, d2] => { results := [.lit (.bool false)], args := [d1, d2] }
  | _ => none }
def TraceWithinWrongFalsely : Prop := traceWithinRow.holds Tryz.pinned (OpenSpec.ofChange traceWithinWrong)

/-- 'winnowerlaw15.TraceAgain': WHATEVER THE INPUT: true; the input reads as it did. -/
def traceAgainSpec : ChangeSpec := { name := "traceAgain", fn := fun _ => fun
  | [d1, d2, d3] => { results := [.lit (.bool true)], args := [d1, d2, d3] }
  | _ => none }
def traceAgainRow : OpenClaim := { program := "ytjpmhmpiglbioaagreatdoor", sum := "32331a0301511ec4b0a57af05d6663c8377e1abfd8dba16d18fabb4fc62c9ef8", func := "winnower/winnowerlaw15.TraceAgain", spec := "traceAgain", inPlace := ["slices.overlaps[int]"], unfollowed := true, recurses := true, named := ["math/bits.deBruijn64tab"], plainKeys := false, apart := false, laid := [("math/bits.deBruijn64tab", laid_math_bits_deBruijn64tab)] }
def TraceAgainSaid : Prop := traceAgainRow.holds Tryz.pinned (OpenSpec.ofChange traceAgainSpec)

/-- ITS FALSE NEIGHBOUR: 'it returns false'. Refute it at one input. -/
def traceAgainWrong : ChangeSpec := { name := "traceAgain", fn := fun _ => fun
  | [d1, d2, d3] => { results := [.lit (.bool false)], args := [d1, d2, d3] }
  | _ => none }
def TraceAgainWrongFalsely : Prop := traceAgainRow.holds Tryz.pinned (OpenSpec.ofChange traceAgainWrong)

/-- 'winnowerlaw15.TraceJoins': WHATEVER THE INPUT: true; the input reads as it did. -/
def traceJoinsSpec : ChangeSpec := { name := "traceJoins", fn := fun _ => fun
  | [d1, d2, d3] => { results := [.lit (.bool true)], args := [d1, d2, d3] }
  | _ => none }
def traceJoinsRow : OpenClaim := { program := "ytjpmhmpiglbioaagreatdoor", sum := "32331a0301511ec4b0a57af05d6663c8377e1abfd8dba16d18fabb4fc62c9ef8", func := "winnower/winnowerlaw15.TraceJoins", spec := "traceJoins", inPlace := ["slices.overlaps[int]"], unfollowed := true, recurses := true, named := ["math/bits.deBruijn64tab"], plainKeys := false, apart := false, laid := [("math/bits.deBruijn64tab", laid_math_bits_deBruijn64tab)] }
def TraceJoinsSaid : Prop := traceJoinsRow.holds Tryz.pinned (OpenSpec.ofChange traceJoinsSpec)

/-- ITS FALSE NEIGHBOUR: 'it returns false'. Refute it at one input. -/
def traceJoinsWrong : ChangeSpec := { name := "traceJoins", fn := fun _ => fun
  | [d1, d2, d3] => { results := [.lit (.bool false)], args := [d1, d2, d3] }
  | _ => none }
def TraceJoinsWrongFalsely : Prop := traceJoinsRow.holds Tryz.pinned (OpenSpec.ofChange traceJoinsWrong)

/- THE SECOND FORM. 'bulk': how many values and letters a reading holds, each counted each time it is reached (what is shared counts as often as it is met; a slice's spare places count too). A statement '..UptoSaid' is the law's where the arguments, and the package variables that the reading takes, are together of bulk at most 1048576: NARROWER than '..Said'. Prove '..Said' where nothing that the law and all that it calls make is longer than what came in: it says more and counts as full. Else prove '..UptoSaid'. A law counts once. -/
mutual
def uptoBulk {H : Type} : DataW H → Nat
  | .lit (.string bytes) => bytes.length + 1
  | .lit _ => 1
  | .nil => 1
  | .ptr d => uptoBulk d + 1
  | .slice elems spare => uptoBulkAll elems + uptoBulkAll spare + 1
  | .agg parts => uptoBulkAll parts + 1
  | .iface _ d => uptoBulk d + 1
  | .map entries => uptoBulkEntries entries + 1
  | .held _ => 1
def uptoBulkAll {H : Type} : List (DataW H) → Nat
  | [] => 0
  | d :: r => uptoBulk d + uptoBulkAll r
def uptoBulkEntries {H : Type} : List (Lit × DataW H) → Nat
  | [] => 0
  | x :: r => uptoBulkEntry x + uptoBulkEntries r
def uptoBulkEntry {H : Type} : Lit × DataW H → Nat
  | (.string bytes, d) => bytes.length + uptoBulk d + 1
  | (_, d) => uptoBulk d + 1
 end
def uptoSmall : (H : Type) → List (DataW H) → Bool := fun _ ds => decide (uptoBulkAll ds ≤ 1048576)
def OpenSpec.upto (s : _root_.Go.ChangeSpec) : _root_.Go.OpenSpec := { _root_.Go.OpenSpec.ofChange s with cond := some uptoSmall }

/-- 'winnowerlaw12.LowerGoes', WHERE WHAT IT READS IS OF BULK AT MOST 1048576: true; the input reads as it did. -/
def lowerGoesUptoRow : OpenClaim := { program := "ytjpmhmpiglbioaagreatdoor", sum := "32331a0301511ec4b0a57af05d6663c8377e1abfd8dba16d18fabb4fc62c9ef8", func := "winnower/winnowerlaw12.LowerGoes", spec := "lowerGoes", inPlace := ["slices.overlaps[int]"], unfollowed := true, recurses := true, named := ["math/bits.deBruijn64tab"], plainKeys := false, apart := false, laid := [("math/bits.deBruijn64tab", laid_math_bits_deBruijn64tab)], narrowed := true }
def LowerGoesUptoSaid : Prop := lowerGoesUptoRow.holds Tryz.pinned (OpenSpec.upto lowerGoesSpec)

/-- 'winnowerlaw12.LowerPrinted', WHERE WHAT IT READS IS OF BULK AT MOST 1048576: true; the input reads as it did. -/
def lowerPrintedUptoRow : OpenClaim := { program := "ytjpmhmpiglbioaagreatdoor", sum := "32331a0301511ec4b0a57af05d6663c8377e1abfd8dba16d18fabb4fc62c9ef8", func := "winnower/winnowerlaw12.LowerPrinted", spec := "lowerPrinted", inPlace := ["slices.overlaps[int]"], unfollowed := true, recurses := true, named := ["math/bits.deBruijn64tab"], plainKeys := false, apart := false, laid := [("math/bits.deBruijn64tab", laid_math_bits_deBruijn64tab)], narrowed := true }
def LowerPrintedUptoSaid : Prop := lowerPrintedUptoRow.holds Tryz.pinned (OpenSpec.upto lowerPrintedSpec)

/-- 'winnowerlaw12.LowerFinds', WHERE WHAT IT READS IS OF BULK AT MOST 1048576: true; the input reads as it did. -/
def lowerFindsUptoRow : OpenClaim := { program := "ytjpmhmpiglbioaagreatdoor", sum := "32331a0301511ec4b0a57af05d6663c8377e1abfd8dba16d18fabb4fc62c9ef8", func := "winnower/winnowerlaw12.LowerFinds", spec := "lowerFinds", inPlace := ["slices.overlaps[int]"], unfollowed := true, recurses := true, named := ["math/bits.deBruijn64tab"], plainKeys := false, apart := false, laid := [("math/bits.deBruijn64tab", laid_math_bits_deBruijn64tab)], narrowed := true }
def LowerFindsUptoSaid : Prop := lowerFindsUptoRow.holds Tryz.pinned (OpenSpec.upto lowerFindsSpec)

/-- 'winnowerlaw14.StepRuns', WHERE WHAT IT READS IS OF BULK AT MOST 1048576: true; the input reads as it did. -/
def stepRunsUptoRow : OpenClaim := { program := "ytjpmhmpiglbioaagreatdoor", sum := "32331a0301511ec4b0a57af05d6663c8377e1abfd8dba16d18fabb4fc62c9ef8", func := "winnower/winnowerlaw14.StepRuns", spec := "stepRuns", inPlace := ["slices.overlaps[int]"], unfollowed := true, recurses := true, named := ["math/bits.deBruijn64tab"], plainKeys := false, apart := false, laid := [("math/bits.deBruijn64tab", laid_math_bits_deBruijn64tab)], narrowed := true }
def StepRunsUptoSaid : Prop := stepRunsUptoRow.holds Tryz.pinned (OpenSpec.upto stepRunsSpec)

/-- 'winnowerlaw14.StepTypes', WHERE WHAT IT READS IS OF BULK AT MOST 1048576: true; the input reads as it did. -/
def stepTypesUptoRow : OpenClaim := { program := "ytjpmhmpiglbioaagreatdoor", sum := "32331a0301511ec4b0a57af05d6663c8377e1abfd8dba16d18fabb4fc62c9ef8", func := "winnower/winnowerlaw14.StepTypes", spec := "stepTypes", inPlace := ["slices.overlaps[int]"], unfollowed := true, recurses := true, named := ["math/bits.deBruijn64tab"], plainKeys := false, apart := false, laid := [("math/bits.deBruijn64tab", laid_math_bits_deBruijn64tab)], narrowed := true }
def StepTypesUptoSaid : Prop := stepTypesUptoRow.holds Tryz.pinned (OpenSpec.upto stepTypesSpec)

/-- 'winnowerlaw14.StepParts', WHERE WHAT IT READS IS OF BULK AT MOST 1048576: true; the input reads as it did. -/
def stepPartsUptoRow : OpenClaim := { program := "ytjpmhmpiglbioaagreatdoor", sum := "32331a0301511ec4b0a57af05d6663c8377e1abfd8dba16d18fabb4fc62c9ef8", func := "winnower/winnowerlaw14.StepParts", spec := "stepParts", inPlace := ["slices.overlaps[int]"], unfollowed := true, recurses := true, named := ["math/bits.deBruijn64tab"], plainKeys := false, apart := false, laid := [("math/bits.deBruijn64tab", laid_math_bits_deBruijn64tab)], narrowed := true }
def StepPartsUptoSaid : Prop := stepPartsUptoRow.holds Tryz.pinned (OpenSpec.upto stepPartsSpec)

/-- 'winnowerlaw14.StepBlind', WHERE WHAT IT READS IS OF BULK AT MOST 1048576: true; the input reads as it did. -/
def stepBlindUptoRow : OpenClaim := { program := "ytjpmhmpiglbioaagreatdoor", sum := "32331a0301511ec4b0a57af05d6663c8377e1abfd8dba16d18fabb4fc62c9ef8", func := "winnower/winnowerlaw14.StepBlind", spec := "stepBlind", inPlace := ["slices.overlaps[int]"], unfollowed := true, recurses := true, named := ["math/bits.deBruijn64tab"], plainKeys := false, apart := false, laid := [("math/bits.deBruijn64tab", laid_math_bits_deBruijn64tab)], narrowed := true }
def StepBlindUptoSaid : Prop := stepBlindUptoRow.holds Tryz.pinned (OpenSpec.upto stepBlindSpec)

/-- 'winnowerlaw14.StepDeep', WHERE WHAT IT READS IS OF BULK AT MOST 1048576: true; the input reads as it did. -/
def stepDeepUptoRow : OpenClaim := { program := "ytjpmhmpiglbioaagreatdoor", sum := "32331a0301511ec4b0a57af05d6663c8377e1abfd8dba16d18fabb4fc62c9ef8", func := "winnower/winnowerlaw14.StepDeep", spec := "stepDeep", inPlace := ["slices.overlaps[int]"], unfollowed := true, recurses := true, named := ["math/bits.deBruijn64tab"], plainKeys := false, apart := false, laid := [("math/bits.deBruijn64tab", laid_math_bits_deBruijn64tab)], narrowed := true }
def StepDeepUptoSaid : Prop := stepDeepUptoRow.holds Tryz.pinned (OpenSpec.upto stepDeepSpec)

/-- 'winnowerlaw15.TraceLonger', WHERE WHAT IT READS IS OF BULK AT MOST 1048576: true; the input reads as it did. -/
def traceLongerUptoRow : OpenClaim := { program := "ytjpmhmpiglbioaagreatdoor", sum := "32331a0301511ec4b0a57af05d6663c8377e1abfd8dba16d18fabb4fc62c9ef8", func := "winnower/winnowerlaw15.TraceLonger", spec := "traceLonger", inPlace := ["slices.overlaps[int]"], unfollowed := true, recurses := true, named := ["math/bits.deBruijn64tab"], plainKeys := false, apart := false, laid := [("math/bits.deBruijn64tab", laid_math_bits_deBruijn64tab)], narrowed := true }
def TraceLongerUptoSaid : Prop := traceLongerUptoRow.holds Tryz.pinned (OpenSpec.upto traceLongerSpec)

/-- 'winnowerlaw15.TraceWithin', WHERE WHAT IT READS IS OF BULK AT MOST 1048576: true; the input reads as it did. -/
def traceWithinUptoRow : OpenClaim := { program := "ytjpmhmpiglbioaagreatdoor", sum := "32331a0301511ec4b0a57af05d6663c8377e1abfd8dba16d18fabb4fc62c9ef8", func := "winnower/winnowerlaw15.TraceWithin", spec := "traceWithin", inPlace := ["slices.overlaps[int]"], unfollowed := true, recurses := true, named := ["math/bits.deBruijn64tab"], plainKeys := false, apart := false, laid := [("math/bits.deBruijn64tab", laid_math_bits_deBruijn64tab)], narrowed := true }
def TraceWithinUptoSaid : Prop := traceWithinUptoRow.holds Tryz.pinned (OpenSpec.upto traceWithinSpec)

/-- 'winnowerlaw15.TraceAgain', WHERE WHAT IT READS IS OF BULK AT MOST 1048576: true; the input reads as it did. -/
def traceAgainUptoRow : OpenClaim := { program := "ytjpmhmpiglbioaagreatdoor", sum := "32331a0301511ec4b0a57af05d6663c8377e1abfd8dba16d18fabb4fc62c9ef8", func := "winnower/winnowerlaw15.TraceAgain", spec := "traceAgain", inPlace := ["slices.overlaps[int]"], unfollowed := true, recurses := true, named := ["math/bits.deBruijn64tab"], plainKeys := false, apart := false, laid := [("math/bits.deBruijn64tab", laid_math_bits_deBruijn64tab)], narrowed := true }
def TraceAgainUptoSaid : Prop := traceAgainUptoRow.holds Tryz.pinned (OpenSpec.upto traceAgainSpec)

/-- 'winnowerlaw15.TraceJoins', WHERE WHAT IT READS IS OF BULK AT MOST 1048576: true; the input reads as it did. -/
def traceJoinsUptoRow : OpenClaim := { program := "ytjpmhmpiglbioaagreatdoor", sum := "32331a0301511ec4b0a57af05d6663c8377e1abfd8dba16d18fabb4fc62c9ef8", func := "winnower/winnowerlaw15.TraceJoins", spec := "traceJoins", inPlace := ["slices.overlaps[int]"], unfollowed := true, recurses := true, named := ["math/bits.deBruijn64tab"], plainKeys := false, apart := false, laid := [("math/bits.deBruijn64tab", laid_math_bits_deBruijn64tab)], narrowed := true }
def TraceJoinsUptoSaid : Prop := traceJoinsUptoRow.holds Tryz.pinned (OpenSpec.upto traceJoinsSpec)

end Rows
end Go.Proofs.YtjpmhmpiglbioaaGreatDoor
