/-
  No cell of these rows narrows 'for every input' (looked for: loops, veiled, ifaces, maps, wideKeys, modest, calm, conditions, laid).
  DERIVED. THE GIVEN ROWS OF THIS SEAT. 33 by the template 'for every input the law returns true; each argument reads behind the call as it read before'; 0 by the template 'total and deterministic' (their statements: YtmkjplpnoohfnaaTotals.lean).
  GIVEN WITH THE SEED: the statements are not yours to turn. If you find one false, say at which input.
  Laid BY PROGRAM, IN A SANDBOX (cutbox-rows.mjs): the forced cells as the released guide's own fill.sh prints them over the translation bee2ec1653193345… (all of the seat's roots in one cut). By AI agents, Wed Nov 11 2026. No macro, syntax, notation, axiom, sorry.
-/
import Derived.Test.YtmkjplpnoohfnaaChecked
import GoSem.Claim
import GoSem.ClaimJoined
import GoSem.ClaimMapViews
import Derived.JoinedTies
import Derived.KernelRfl
namespace Go.Proofs.Ytmkjplpnoohfnaa
/- THE CELL 'sum', in the pinned program and in every row, IS THE sha256 OF THE DUMP (.gsa) THAT YtmkjplpnoohfnaaProg.lean LOADS. Nothing in Lean hashes anything: it is a label: what it is worth is what the hold of that sum in a sandbox is worth. -/
noncomputable def Try.pinned : Pinned := { name := "ytmkjplpnoohfnaa", sum := "bee2ec1653193345b8173398cc387c262a5811b2cbac615228494e228413495b", checked := Try.checked }
namespace Rows
def none {H : Type} : Left H := { results := [], args := [] }

/-- 'aumbrylaw05.CauchyNames': WHATEVER THE INPUT: true; the input reads as it did. -/
def cauchyNamesSpec : ChangeSpec := { name := "cauchyNames", fn := fun _ => fun
  | [] => { results := [.lit (.bool true)], args := [] }
  | _ => none }
def cauchyNamesRow : OpenClaim := { program := "ytmkjplpnoohfnaa", sum := "bee2ec1653193345b8173398cc387c262a5811b2cbac615228494e228413495b", func := "aumbry/aumbrylaw05.CauchyNames", spec := "cauchyNames", unfollowed := true, recurses := true, apart := false }
def CauchyNamesSaid : Prop := cauchyNamesRow.holds Try.pinned (OpenSpec.ofChange cauchyNamesSpec)

/-- ITS FALSE NEIGHBOUR: 'it returns false'. Refute it at one input. -/
def cauchyNamesWrong : ChangeSpec := { name := "cauchyNames", fn := fun _ => fun
  | [] => { results := [.lit (.bool false)], args := [] }
  | _ => none }
def CauchyNamesWrongFalsely : Prop := cauchyNamesRow.holds Try.pinned (OpenSpec.ofChange cauchyNamesWrong)

/-- 'aumbrylaw05.CauchyTells': WHATEVER THE INPUT: true; the input reads as it did. -/
def cauchyTellsSpec : ChangeSpec := { name := "cauchyTells", fn := fun _ => fun
  | [d1, d2] => { results := [.lit (.bool true)], args := [d1, d2] }
  | _ => none }
def cauchyTellsRow : OpenClaim := { program := "ytmkjplpnoohfnaa", sum := "bee2ec1653193345b8173398cc387c262a5811b2cbac615228494e228413495b", func := "aumbry/aumbrylaw05.CauchyTells", spec := "cauchyTells", unfollowed := true, recurses := true, apart := false }
def CauchyTellsSaid : Prop := cauchyTellsRow.holds Try.pinned (OpenSpec.ofChange cauchyTellsSpec)

/-- ITS FALSE NEIGHBOUR: 'it returns false'. Refute it at one input. -/
def cauchyTellsWrong : ChangeSpec := { name := "cauchyTells", fn := fun _ => fun
  | [d1, d2] => { results := [.lit (.bool false)], args := [d1, d2] }
  | _ => none }
def CauchyTellsWrongFalsely : Prop := cauchyTellsRow.holds Try.pinned (OpenSpec.ofChange cauchyTellsWrong)

/-- 'aumbrylaw05.CauchyMore': WHATEVER THE INPUT: true; the input reads as it did. -/
def cauchyMoreSpec : ChangeSpec := { name := "cauchyMore", fn := fun _ => fun
  | [d1, d2] => { results := [.lit (.bool true)], args := [d1, d2] }
  | _ => none }
def cauchyMoreRow : OpenClaim := { program := "ytmkjplpnoohfnaa", sum := "bee2ec1653193345b8173398cc387c262a5811b2cbac615228494e228413495b", func := "aumbry/aumbrylaw05.CauchyMore", spec := "cauchyMore", unfollowed := true, recurses := true, apart := false }
def CauchyMoreSaid : Prop := cauchyMoreRow.holds Try.pinned (OpenSpec.ofChange cauchyMoreSpec)

/-- ITS FALSE NEIGHBOUR: 'it returns false'. Refute it at one input. -/
def cauchyMoreWrong : ChangeSpec := { name := "cauchyMore", fn := fun _ => fun
  | [d1, d2] => { results := [.lit (.bool false)], args := [d1, d2] }
  | _ => none }
def CauchyMoreWrongFalsely : Prop := cauchyMoreRow.holds Try.pinned (OpenSpec.ofChange cauchyMoreWrong)

/-- 'aumbrylaw08.SyndromeTells': WHATEVER THE INPUT: true; the input reads as it did. -/
def syndromeTellsSpec : ChangeSpec := { name := "syndromeTells", fn := fun _ => fun
  | [d1, d2, d3] => { results := [.lit (.bool true)], args := [d1, d2, d3] }
  | _ => none }
def syndromeTellsRow : OpenClaim := { program := "ytmkjplpnoohfnaa", sum := "bee2ec1653193345b8173398cc387c262a5811b2cbac615228494e228413495b", func := "aumbry/aumbrylaw08.SyndromeTells", spec := "syndromeTells", unfollowed := true, recurses := true, apart := false }
def SyndromeTellsSaid : Prop := syndromeTellsRow.holds Try.pinned (OpenSpec.ofChange syndromeTellsSpec)

/-- ITS FALSE NEIGHBOUR: 'it returns false'. Refute it at one input. -/
def syndromeTellsWrong : ChangeSpec := { name := "syndromeTells", fn := fun _ => fun
  | [d1, d2, d3] => { results := [.lit (.bool false)], args := [d1, d2, d3] }
  | _ => none }
def SyndromeTellsWrongFalsely : Prop := syndromeTellsRow.holds Try.pinned (OpenSpec.ofChange syndromeTellsWrong)

/-- 'aumbrylaw08.SyndromeLinear': WHATEVER THE INPUT: true; the input reads as it did. -/
def syndromeLinearSpec : ChangeSpec := { name := "syndromeLinear", fn := fun _ => fun
  | [d1, d2, d3, d4] => { results := [.lit (.bool true)], args := [d1, d2, d3, d4] }
  | _ => none }
def syndromeLinearRow : OpenClaim := { program := "ytmkjplpnoohfnaa", sum := "bee2ec1653193345b8173398cc387c262a5811b2cbac615228494e228413495b", func := "aumbry/aumbrylaw08.SyndromeLinear", spec := "syndromeLinear", unfollowed := true, recurses := true, apart := false }
def SyndromeLinearSaid : Prop := syndromeLinearRow.holds Try.pinned (OpenSpec.ofChange syndromeLinearSpec)

/-- ITS FALSE NEIGHBOUR: 'it returns false'. Refute it at one input. -/
def syndromeLinearWrong : ChangeSpec := { name := "syndromeLinear", fn := fun _ => fun
  | [d1, d2, d3, d4] => { results := [.lit (.bool false)], args := [d1, d2, d3, d4] }
  | _ => none }
def SyndromeLinearWrongFalsely : Prop := syndromeLinearRow.holds Try.pinned (OpenSpec.ofChange syndromeLinearWrong)

/-- 'aumbrylaw08.SyndromeSingle': WHATEVER THE INPUT: true; the input reads as it did. -/
def syndromeSingleSpec : ChangeSpec := { name := "syndromeSingle", fn := fun _ => fun
  | [d1, d2, d3, d4] => { results := [.lit (.bool true)], args := [d1, d2, d3, d4] }
  | _ => none }
def syndromeSingleRow : OpenClaim := { program := "ytmkjplpnoohfnaa", sum := "bee2ec1653193345b8173398cc387c262a5811b2cbac615228494e228413495b", func := "aumbry/aumbrylaw08.SyndromeSingle", spec := "syndromeSingle", unfollowed := true, recurses := true, apart := false }
def SyndromeSingleSaid : Prop := syndromeSingleRow.holds Try.pinned (OpenSpec.ofChange syndromeSingleSpec)

/-- ITS FALSE NEIGHBOUR: 'it returns false'. Refute it at one input. -/
def syndromeSingleWrong : ChangeSpec := { name := "syndromeSingle", fn := fun _ => fun
  | [d1, d2, d3, d4] => { results := [.lit (.bool false)], args := [d1, d2, d3, d4] }
  | _ => none }
def SyndromeSingleWrongFalsely : Prop := syndromeSingleRow.holds Try.pinned (OpenSpec.ofChange syndromeSingleWrong)

/-- 'aumbrylaw08.SyndromeScales': WHATEVER THE INPUT: true; the input reads as it did. -/
def syndromeScalesSpec : ChangeSpec := { name := "syndromeScales", fn := fun _ => fun
  | [d1, d2, d3, d4] => { results := [.lit (.bool true)], args := [d1, d2, d3, d4] }
  | _ => none }
def syndromeScalesRow : OpenClaim := { program := "ytmkjplpnoohfnaa", sum := "bee2ec1653193345b8173398cc387c262a5811b2cbac615228494e228413495b", func := "aumbry/aumbrylaw08.SyndromeScales", spec := "syndromeScales", unfollowed := true, recurses := true, apart := false }
def SyndromeScalesSaid : Prop := syndromeScalesRow.holds Try.pinned (OpenSpec.ofChange syndromeScalesSpec)

/-- ITS FALSE NEIGHBOUR: 'it returns false'. Refute it at one input. -/
def syndromeScalesWrong : ChangeSpec := { name := "syndromeScales", fn := fun _ => fun
  | [d1, d2, d3, d4] => { results := [.lit (.bool false)], args := [d1, d2, d3, d4] }
  | _ => none }
def SyndromeScalesWrongFalsely : Prop := syndromeScalesRow.holds Try.pinned (OpenSpec.ofChange syndromeScalesWrong)

/-- 'aumbrylaw05.CauchyNumbers': WHATEVER THE INPUT: true; the input reads as it did. -/
def cauchyNumbersSpec : ChangeSpec := { name := "cauchyNumbers", fn := fun _ => fun
  | [d1, d2, d3, d4, d5] => { results := [.lit (.bool true)], args := [d1, d2, d3, d4, d5] }
  | _ => none }
def cauchyNumbersRow : OpenClaim := { program := "ytmkjplpnoohfnaa", sum := "bee2ec1653193345b8173398cc387c262a5811b2cbac615228494e228413495b", func := "aumbry/aumbrylaw05.CauchyNumbers", spec := "cauchyNumbers", unfollowed := true, recurses := true, apart := false }
def CauchyNumbersSaid : Prop := cauchyNumbersRow.holds Try.pinned (OpenSpec.ofChange cauchyNumbersSpec)

/-- ITS FALSE NEIGHBOUR: 'it returns false'. Refute it at one input. -/
def cauchyNumbersWrong : ChangeSpec := { name := "cauchyNumbers", fn := fun _ => fun
  | [d1, d2, d3, d4, d5] => { results := [.lit (.bool false)], args := [d1, d2, d3, d4, d5] }
  | _ => none }
def CauchyNumbersWrongFalsely : Prop := cauchyNumbersRow.holds Try.pinned (OpenSpec.ofChange cauchyNumbersWrong)

/-- 'aumbrylaw05.CauchyNought': WHATEVER THE INPUT: true; the input reads as it did. -/
def cauchyNoughtSpec : ChangeSpec := { name := "cauchyNought", fn := fun _ => fun
  | [d1, d2] => { results := [.lit (.bool true)], args := [d1, d2] }
  | _ => none }
def cauchyNoughtRow : OpenClaim := { program := "ytmkjplpnoohfnaa", sum := "bee2ec1653193345b8173398cc387c262a5811b2cbac615228494e228413495b", func := "aumbry/aumbrylaw05.CauchyNought", spec := "cauchyNought", unfollowed := true, recurses := true, apart := false }
def CauchyNoughtSaid : Prop := cauchyNoughtRow.holds Try.pinned (OpenSpec.ofChange cauchyNoughtSpec)

/-- ITS FALSE NEIGHBOUR: 'it returns false'. Refute it at one input. -/
def cauchyNoughtWrong : ChangeSpec := { name := "cauchyNought", fn := fun _ => fun
  | [d1, d2] => { results := [.lit (.bool false)], args := [d1, d2] }
  | _ => none }
def CauchyNoughtWrongFalsely : Prop := cauchyNoughtRow.holds Try.pinned (OpenSpec.ofChange cauchyNoughtWrong)

/-- 'aumbrylaw03.MatrixNames': WHATEVER THE INPUT: true; the input reads as it did. -/
def matrixNamesSpec : ChangeSpec := { name := "matrixNames", fn := fun _ => fun
  | [] => { results := [.lit (.bool true)], args := [] }
  | _ => none }
def matrixNamesRow : OpenClaim := { program := "ytmkjplpnoohfnaa", sum := "bee2ec1653193345b8173398cc387c262a5811b2cbac615228494e228413495b", func := "aumbry/aumbrylaw03.MatrixNames", spec := "matrixNames", unfollowed := true, recurses := true, apart := false }
def MatrixNamesSaid : Prop := matrixNamesRow.holds Try.pinned (OpenSpec.ofChange matrixNamesSpec)

/-- ITS FALSE NEIGHBOUR: 'it returns false'. Refute it at one input. -/
def matrixNamesWrong : ChangeSpec := { name := "matrixNames", fn := fun _ => fun
  | [] => { results := [.lit (.bool false)], args := [] }
  | _ => none }
def MatrixNamesWrongFalsely : Prop := matrixNamesRow.holds Try.pinned (OpenSpec.ofChange matrixNamesWrong)

/-- 'aumbrylaw03.MatrixTells': WHATEVER THE INPUT: true; the input reads as it did. -/
def matrixTellsSpec : ChangeSpec := { name := "matrixTells", fn := fun _ => fun
  | [d1, d2, d3, d4] => { results := [.lit (.bool true)], args := [d1, d2, d3, d4] }
  | _ => none }
def matrixTellsRow : OpenClaim := { program := "ytmkjplpnoohfnaa", sum := "bee2ec1653193345b8173398cc387c262a5811b2cbac615228494e228413495b", func := "aumbry/aumbrylaw03.MatrixTells", spec := "matrixTells", unfollowed := true, recurses := true, apart := false }
def MatrixTellsSaid : Prop := matrixTellsRow.holds Try.pinned (OpenSpec.ofChange matrixTellsSpec)

/-- ITS FALSE NEIGHBOUR: 'it returns false'. Refute it at one input. -/
def matrixTellsWrong : ChangeSpec := { name := "matrixTells", fn := fun _ => fun
  | [d1, d2, d3, d4] => { results := [.lit (.bool false)], args := [d1, d2, d3, d4] }
  | _ => none }
def MatrixTellsWrongFalsely : Prop := matrixTellsRow.holds Try.pinned (OpenSpec.ofChange matrixTellsWrong)

/-- 'aumbrylaw03.MatrixInverse': WHATEVER THE INPUT: true; the input reads as it did. -/
def matrixInverseSpec : ChangeSpec := { name := "matrixInverse", fn := fun _ => fun
  | [d] => { results := [.lit (.bool true)], args := [d] }
  | _ => none }
def matrixInverseRow : OpenClaim := { program := "ytmkjplpnoohfnaa", sum := "bee2ec1653193345b8173398cc387c262a5811b2cbac615228494e228413495b", func := "aumbry/aumbrylaw03.MatrixInverse", spec := "matrixInverse", unfollowed := true, recurses := true, apart := false }
def MatrixInverseSaid : Prop := matrixInverseRow.holds Try.pinned (OpenSpec.ofChange matrixInverseSpec)

/-- ITS FALSE NEIGHBOUR: 'it returns false'. Refute it at one input. -/
def matrixInverseWrong : ChangeSpec := { name := "matrixInverse", fn := fun _ => fun
  | [d] => { results := [.lit (.bool false)], args := [d] }
  | _ => none }
def MatrixInverseWrongFalsely : Prop := matrixInverseRow.holds Try.pinned (OpenSpec.ofChange matrixInverseWrong)

/-- 'aumbrylaw03.MatrixBrackets': WHATEVER THE INPUT: true; the input reads as it did. -/
def matrixBracketsSpec : ChangeSpec := { name := "matrixBrackets", fn := fun _ => fun
  | [d1, d2, d3] => { results := [.lit (.bool true)], args := [d1, d2, d3] }
  | _ => none }
def matrixBracketsRow : OpenClaim := { program := "ytmkjplpnoohfnaa", sum := "bee2ec1653193345b8173398cc387c262a5811b2cbac615228494e228413495b", func := "aumbry/aumbrylaw03.MatrixBrackets", spec := "matrixBrackets", unfollowed := true, recurses := true, apart := false }
def MatrixBracketsSaid : Prop := matrixBracketsRow.holds Try.pinned (OpenSpec.ofChange matrixBracketsSpec)

/-- ITS FALSE NEIGHBOUR: 'it returns false'. Refute it at one input. -/
def matrixBracketsWrong : ChangeSpec := { name := "matrixBrackets", fn := fun _ => fun
  | [d1, d2, d3] => { results := [.lit (.bool false)], args := [d1, d2, d3] }
  | _ => none }
def MatrixBracketsWrongFalsely : Prop := matrixBracketsRow.holds Try.pinned (OpenSpec.ofChange matrixBracketsWrong)

/-- 'aumbrylaw03.MatrixRows': WHATEVER THE INPUT: true; the input reads as it did. -/
def matrixRowsSpec : ChangeSpec := { name := "matrixRows", fn := fun _ => fun
  | [d1, d2] => { results := [.lit (.bool true)], args := [d1, d2] }
  | _ => none }
def matrixRowsRow : OpenClaim := { program := "ytmkjplpnoohfnaa", sum := "bee2ec1653193345b8173398cc387c262a5811b2cbac615228494e228413495b", func := "aumbry/aumbrylaw03.MatrixRows", spec := "matrixRows", unfollowed := true, recurses := true, apart := false }
def MatrixRowsSaid : Prop := matrixRowsRow.holds Try.pinned (OpenSpec.ofChange matrixRowsSpec)

/-- ITS FALSE NEIGHBOUR: 'it returns false'. Refute it at one input. -/
def matrixRowsWrong : ChangeSpec := { name := "matrixRows", fn := fun _ => fun
  | [d1, d2] => { results := [.lit (.bool false)], args := [d1, d2] }
  | _ => none }
def MatrixRowsWrongFalsely : Prop := matrixRowsRow.holds Try.pinned (OpenSpec.ofChange matrixRowsWrong)

/-- 'aumbrylaw03.MatrixNil': WHATEVER THE INPUT: true; the input reads as it did. -/
def matrixNilSpec : ChangeSpec := { name := "matrixNil", fn := fun _ => fun
  | [d1, d2] => { results := [.lit (.bool true)], args := [d1, d2] }
  | _ => none }
def matrixNilRow : OpenClaim := { program := "ytmkjplpnoohfnaa", sum := "bee2ec1653193345b8173398cc387c262a5811b2cbac615228494e228413495b", func := "aumbry/aumbrylaw03.MatrixNil", spec := "matrixNil", unfollowed := true, recurses := true, apart := false }
def MatrixNilSaid : Prop := matrixNilRow.holds Try.pinned (OpenSpec.ofChange matrixNilSpec)

/-- ITS FALSE NEIGHBOUR: 'it returns false'. Refute it at one input. -/
def matrixNilWrong : ChangeSpec := { name := "matrixNil", fn := fun _ => fun
  | [d1, d2] => { results := [.lit (.bool false)], args := [d1, d2] }
  | _ => none }
def MatrixNilWrongFalsely : Prop := matrixNilRow.holds Try.pinned (OpenSpec.ofChange matrixNilWrong)

/-- 'aumbrylaw03.MatrixOnes': WHATEVER THE INPUT: true; the input reads as it did. -/
def matrixOnesSpec : ChangeSpec := { name := "matrixOnes", fn := fun _ => fun
  | [d] => { results := [.lit (.bool true)], args := [d] }
  | _ => none }
def matrixOnesRow : OpenClaim := { program := "ytmkjplpnoohfnaa", sum := "bee2ec1653193345b8173398cc387c262a5811b2cbac615228494e228413495b", func := "aumbry/aumbrylaw03.MatrixOnes", spec := "matrixOnes", unfollowed := true, recurses := true, apart := false }
def MatrixOnesSaid : Prop := matrixOnesRow.holds Try.pinned (OpenSpec.ofChange matrixOnesSpec)

/-- ITS FALSE NEIGHBOUR: 'it returns false'. Refute it at one input. -/
def matrixOnesWrong : ChangeSpec := { name := "matrixOnes", fn := fun _ => fun
  | [d] => { results := [.lit (.bool false)], args := [d] }
  | _ => none }
def MatrixOnesWrongFalsely : Prop := matrixOnesRow.holds Try.pinned (OpenSpec.ofChange matrixOnesWrong)

/-- 'aumbrylaw03.MatrixSums': WHATEVER THE INPUT: true; the input reads as it did. -/
def matrixSumsSpec : ChangeSpec := { name := "matrixSums", fn := fun _ => fun
  | [d1, d2, d3] => { results := [.lit (.bool true)], args := [d1, d2, d3] }
  | _ => none }
def matrixSumsRow : OpenClaim := { program := "ytmkjplpnoohfnaa", sum := "bee2ec1653193345b8173398cc387c262a5811b2cbac615228494e228413495b", func := "aumbry/aumbrylaw03.MatrixSums", spec := "matrixSums", unfollowed := true, recurses := true, apart := false }
def MatrixSumsSaid : Prop := matrixSumsRow.holds Try.pinned (OpenSpec.ofChange matrixSumsSpec)

/-- ITS FALSE NEIGHBOUR: 'it returns false'. Refute it at one input. -/
def matrixSumsWrong : ChangeSpec := { name := "matrixSums", fn := fun _ => fun
  | [d1, d2, d3] => { results := [.lit (.bool false)], args := [d1, d2, d3] }
  | _ => none }
def MatrixSumsWrongFalsely : Prop := matrixSumsRow.holds Try.pinned (OpenSpec.ofChange matrixSumsWrong)

/-- 'aumbrylaw05.CauchyRows': WHATEVER THE INPUT: true; the input reads as it did. -/
def cauchyRowsSpec : ChangeSpec := { name := "cauchyRows", fn := fun _ => fun
  | [d1, d2, d3] => { results := [.lit (.bool true)], args := [d1, d2, d3] }
  | _ => none }
def cauchyRowsRow : OpenClaim := { program := "ytmkjplpnoohfnaa", sum := "bee2ec1653193345b8173398cc387c262a5811b2cbac615228494e228413495b", func := "aumbry/aumbrylaw05.CauchyRows", spec := "cauchyRows", unfollowed := true, recurses := true, apart := false }
def CauchyRowsSaid : Prop := cauchyRowsRow.holds Try.pinned (OpenSpec.ofChange cauchyRowsSpec)

/-- ITS FALSE NEIGHBOUR: 'it returns false'. Refute it at one input. -/
def cauchyRowsWrong : ChangeSpec := { name := "cauchyRows", fn := fun _ => fun
  | [d1, d2, d3] => { results := [.lit (.bool false)], args := [d1, d2, d3] }
  | _ => none }
def CauchyRowsWrongFalsely : Prop := cauchyRowsRow.holds Try.pinned (OpenSpec.ofChange cauchyRowsWrong)

/-- 'aumbrylaw06.BulkNames': WHATEVER THE INPUT: true; the input reads as it did. -/
def bulkNamesSpec : ChangeSpec := { name := "bulkNames", fn := fun _ => fun
  | [] => { results := [.lit (.bool true)], args := [] }
  | _ => none }
def bulkNamesRow : OpenClaim := { program := "ytmkjplpnoohfnaa", sum := "bee2ec1653193345b8173398cc387c262a5811b2cbac615228494e228413495b", func := "aumbry/aumbrylaw06.BulkNames", spec := "bulkNames", unfollowed := true, recurses := true, apart := false }
def BulkNamesSaid : Prop := bulkNamesRow.holds Try.pinned (OpenSpec.ofChange bulkNamesSpec)

/-- ITS FALSE NEIGHBOUR: 'it returns false'. Refute it at one input. -/
def bulkNamesWrong : ChangeSpec := { name := "bulkNames", fn := fun _ => fun
  | [] => { results := [.lit (.bool false)], args := [] }
  | _ => none }
def BulkNamesWrongFalsely : Prop := bulkNamesRow.holds Try.pinned (OpenSpec.ofChange bulkNamesWrong)

/-- 'aumbrylaw06.BulkEncodes': WHATEVER THE INPUT: true; the input reads as it did. -/
def bulkEncodesSpec : ChangeSpec := { name := "bulkEncodes", fn := fun _ => fun
  | [d1, d2, d3] => { results := [.lit (.bool true)], args := [d1, d2, d3] }
  | _ => none }
def bulkEncodesRow : OpenClaim := { program := "ytmkjplpnoohfnaa", sum := "bee2ec1653193345b8173398cc387c262a5811b2cbac615228494e228413495b", func := "aumbry/aumbrylaw06.BulkEncodes", spec := "bulkEncodes", unfollowed := true, recurses := true, apart := false }
def BulkEncodesSaid : Prop := bulkEncodesRow.holds Try.pinned (OpenSpec.ofChange bulkEncodesSpec)

/-- ITS FALSE NEIGHBOUR: 'it returns false'. Refute it at one input. -/
def bulkEncodesWrong : ChangeSpec := { name := "bulkEncodes", fn := fun _ => fun
  | [d1, d2, d3] => { results := [.lit (.bool false)], args := [d1, d2, d3] }
  | _ => none }
def BulkEncodesWrongFalsely : Prop := bulkEncodesRow.holds Try.pinned (OpenSpec.ofChange bulkEncodesWrong)

/-- 'aumbrylaw06.BulkUpdates': WHATEVER THE INPUT: true; the input reads as it did. -/
def bulkUpdatesSpec : ChangeSpec := { name := "bulkUpdates", fn := fun _ => fun
  | [d1, d2, d3, d4, d5, d6] => { results := [.lit (.bool true)], args := [d1, d2, d3, d4, d5, d6] }
  | _ => none }
def bulkUpdatesRow : OpenClaim := { program := "ytmkjplpnoohfnaa", sum := "bee2ec1653193345b8173398cc387c262a5811b2cbac615228494e228413495b", func := "aumbry/aumbrylaw06.BulkUpdates", spec := "bulkUpdates", unfollowed := true, recurses := true, apart := false }
def BulkUpdatesSaid : Prop := bulkUpdatesRow.holds Try.pinned (OpenSpec.ofChange bulkUpdatesSpec)

/-- ITS FALSE NEIGHBOUR: 'it returns false'. Refute it at one input. -/
def bulkUpdatesWrong : ChangeSpec := { name := "bulkUpdates", fn := fun _ => fun
  | [d1, d2, d3, d4, d5, d6] => { results := [.lit (.bool false)], args := [d1, d2, d3, d4, d5, d6] }
  | _ => none }
def BulkUpdatesWrongFalsely : Prop := bulkUpdatesRow.holds Try.pinned (OpenSpec.ofChange bulkUpdatesWrong)

/-- 'aumbrylaw06.BulkLinear': WHATEVER THE INPUT: true; the input reads as it did. -/
def bulkLinearSpec : ChangeSpec := { name := "bulkLinear", fn := fun _ => fun
  | [d1, d2, d3, d4] => { results := [.lit (.bool true)], args := [d1, d2, d3, d4] }
  | _ => none }
def bulkLinearRow : OpenClaim := { program := "ytmkjplpnoohfnaa", sum := "bee2ec1653193345b8173398cc387c262a5811b2cbac615228494e228413495b", func := "aumbry/aumbrylaw06.BulkLinear", spec := "bulkLinear", unfollowed := true, recurses := true, apart := false }
def BulkLinearSaid : Prop := bulkLinearRow.holds Try.pinned (OpenSpec.ofChange bulkLinearSpec)

/-- ITS FALSE NEIGHBOUR: 'it returns false'. Refute it at one input. -/
def bulkLinearWrong : ChangeSpec := { name := "bulkLinear", fn := fun _ => fun
  | [d1, d2, d3, d4] => { results := [.lit (.bool false)], args := [d1, d2, d3, d4] }
  | _ => none }
def BulkLinearWrongFalsely : Prop := bulkLinearRow.holds Try.pinned (OpenSpec.ofChange bulkLinearWrong)

/-- 'aumbrylaw06.BulkChanges': WHATEVER THE INPUT: true; the input reads as it did. -/
def bulkChangesSpec : ChangeSpec := { name := "bulkChanges", fn := fun _ => fun
  | [d1, d2, d3, d4, d5] => { results := [.lit (.bool true)], args := [d1, d2, d3, d4, d5] }
  | _ => none }
def bulkChangesRow : OpenClaim := { program := "ytmkjplpnoohfnaa", sum := "bee2ec1653193345b8173398cc387c262a5811b2cbac615228494e228413495b", func := "aumbry/aumbrylaw06.BulkChanges", spec := "bulkChanges", unfollowed := true, recurses := true, apart := false }
def BulkChangesSaid : Prop := bulkChangesRow.holds Try.pinned (OpenSpec.ofChange bulkChangesSpec)

/-- ITS FALSE NEIGHBOUR: 'it returns false'. Refute it at one input. -/
def bulkChangesWrong : ChangeSpec := { name := "bulkChanges", fn := fun _ => fun
  | [d1, d2, d3, d4, d5] => { results := [.lit (.bool false)], args := [d1, d2, d3, d4, d5] }
  | _ => none }
def BulkChangesWrongFalsely : Prop := bulkChangesRow.holds Try.pinned (OpenSpec.ofChange bulkChangesWrong)

/-- 'aumbrylaw06.BulkSingle': WHATEVER THE INPUT: true; the input reads as it did. -/
def bulkSingleSpec : ChangeSpec := { name := "bulkSingle", fn := fun _ => fun
  | [d1, d2, d3, d4, d5, d6] => { results := [.lit (.bool true)], args := [d1, d2, d3, d4, d5, d6] }
  | _ => none }
def bulkSingleRow : OpenClaim := { program := "ytmkjplpnoohfnaa", sum := "bee2ec1653193345b8173398cc387c262a5811b2cbac615228494e228413495b", func := "aumbry/aumbrylaw06.BulkSingle", spec := "bulkSingle", unfollowed := true, recurses := true, apart := false }
def BulkSingleSaid : Prop := bulkSingleRow.holds Try.pinned (OpenSpec.ofChange bulkSingleSpec)

/-- ITS FALSE NEIGHBOUR: 'it returns false'. Refute it at one input. -/
def bulkSingleWrong : ChangeSpec := { name := "bulkSingle", fn := fun _ => fun
  | [d1, d2, d3, d4, d5, d6] => { results := [.lit (.bool false)], args := [d1, d2, d3, d4, d5, d6] }
  | _ => none }
def BulkSingleWrongFalsely : Prop := bulkSingleRow.holds Try.pinned (OpenSpec.ofChange bulkSingleWrong)

/-- 'aumbrylaw06.BulkPlaces': WHATEVER THE INPUT: true; the input reads as it did. -/
def bulkPlacesSpec : ChangeSpec := { name := "bulkPlaces", fn := fun _ => fun
  | [d1, d2, d3, d4] => { results := [.lit (.bool true)], args := [d1, d2, d3, d4] }
  | _ => none }
def bulkPlacesRow : OpenClaim := { program := "ytmkjplpnoohfnaa", sum := "bee2ec1653193345b8173398cc387c262a5811b2cbac615228494e228413495b", func := "aumbry/aumbrylaw06.BulkPlaces", spec := "bulkPlaces", unfollowed := true, recurses := true, apart := false }
def BulkPlacesSaid : Prop := bulkPlacesRow.holds Try.pinned (OpenSpec.ofChange bulkPlacesSpec)

/-- ITS FALSE NEIGHBOUR: 'it returns false'. Refute it at one input. -/
def bulkPlacesWrong : ChangeSpec := { name := "bulkPlaces", fn := fun _ => fun
  | [d1, d2, d3, d4] => { results := [.lit (.bool false)], args := [d1, d2, d3, d4] }
  | _ => none }
def BulkPlacesWrongFalsely : Prop := bulkPlacesRow.holds Try.pinned (OpenSpec.ofChange bulkPlacesWrong)

/-- 'aumbrylaw06.BulkScales': WHATEVER THE INPUT: true; the input reads as it did. -/
def bulkScalesSpec : ChangeSpec := { name := "bulkScales", fn := fun _ => fun
  | [d1, d2, d3, d4] => { results := [.lit (.bool true)], args := [d1, d2, d3, d4] }
  | _ => none }
def bulkScalesRow : OpenClaim := { program := "ytmkjplpnoohfnaa", sum := "bee2ec1653193345b8173398cc387c262a5811b2cbac615228494e228413495b", func := "aumbry/aumbrylaw06.BulkScales", spec := "bulkScales", unfollowed := true, recurses := true, apart := false }
def BulkScalesSaid : Prop := bulkScalesRow.holds Try.pinned (OpenSpec.ofChange bulkScalesSpec)

/-- ITS FALSE NEIGHBOUR: 'it returns false'. Refute it at one input. -/
def bulkScalesWrong : ChangeSpec := { name := "bulkScales", fn := fun _ => fun
  | [d1, d2, d3, d4] => { results := [.lit (.bool false)], args := [d1, d2, d3, d4] }
  | _ => none }
def BulkScalesWrongFalsely : Prop := bulkScalesRow.holds Try.pinned (OpenSpec.ofChange bulkScalesWrong)

/-- 'aumbrylaw08.SyndromeCode': WHATEVER THE INPUT: true; the input reads as it did. -/
def syndromeCodeSpec : ChangeSpec := { name := "syndromeCode", fn := fun _ => fun
  | [d1, d2, d3] => { results := [.lit (.bool true)], args := [d1, d2, d3] }
  | _ => none }
def syndromeCodeRow : OpenClaim := { program := "ytmkjplpnoohfnaa", sum := "bee2ec1653193345b8173398cc387c262a5811b2cbac615228494e228413495b", func := "aumbry/aumbrylaw08.SyndromeCode", spec := "syndromeCode", unfollowed := true, recurses := true, apart := false }
def SyndromeCodeSaid : Prop := syndromeCodeRow.holds Try.pinned (OpenSpec.ofChange syndromeCodeSpec)

/-- ITS FALSE NEIGHBOUR: 'it returns false'. Refute it at one input. -/
def syndromeCodeWrong : ChangeSpec := { name := "syndromeCode", fn := fun _ => fun
  | [d1, d2, d3] => { results := [.lit (.bool false)], args := [d1, d2, d3] }
  | _ => none }
def SyndromeCodeWrongFalsely : Prop := syndromeCodeRow.holds Try.pinned (OpenSpec.ofChange syndromeCodeWrong)

/-- 'aumbrylaw07.EraseNames': WHATEVER THE INPUT: true; the input reads as it did. -/
def eraseNamesSpec : ChangeSpec := { name := "eraseNames", fn := fun _ => fun
  | [] => { results := [.lit (.bool true)], args := [] }
  | _ => none }
def eraseNamesRow : OpenClaim := { program := "ytmkjplpnoohfnaa", sum := "bee2ec1653193345b8173398cc387c262a5811b2cbac615228494e228413495b", func := "aumbry/aumbrylaw07.EraseNames", spec := "eraseNames", unfollowed := true, recurses := true, apart := false }
def EraseNamesSaid : Prop := eraseNamesRow.holds Try.pinned (OpenSpec.ofChange eraseNamesSpec)

/-- ITS FALSE NEIGHBOUR: 'it returns false'. Refute it at one input. -/
def eraseNamesWrong : ChangeSpec := { name := "eraseNames", fn := fun _ => fun
  | [] => { results := [.lit (.bool false)], args := [] }
  | _ => none }
def EraseNamesWrongFalsely : Prop := eraseNamesRow.holds Try.pinned (OpenSpec.ofChange eraseNamesWrong)

/-- 'aumbrylaw07.EraseDecodes': WHATEVER THE INPUT: true; the input reads as it did. -/
def eraseDecodesSpec : ChangeSpec := { name := "eraseDecodes", fn := fun _ => fun
  | [d1, d2, d3, d4] => { results := [.lit (.bool true)], args := [d1, d2, d3, d4] }
  | _ => none }
def eraseDecodesRow : OpenClaim := { program := "ytmkjplpnoohfnaa", sum := "bee2ec1653193345b8173398cc387c262a5811b2cbac615228494e228413495b", func := "aumbry/aumbrylaw07.EraseDecodes", spec := "eraseDecodes", unfollowed := true, recurses := true, apart := false }
def EraseDecodesSaid : Prop := eraseDecodesRow.holds Try.pinned (OpenSpec.ofChange eraseDecodesSpec)

/-- ITS FALSE NEIGHBOUR: 'it returns false'. Refute it at one input. -/
def eraseDecodesWrong : ChangeSpec := { name := "eraseDecodes", fn := fun _ => fun
  | [d1, d2, d3, d4] => { results := [.lit (.bool false)], args := [d1, d2, d3, d4] }
  | _ => none }
def EraseDecodesWrongFalsely : Prop := eraseDecodesRow.holds Try.pinned (OpenSpec.ofChange eraseDecodesWrong)

/-- 'aumbrylaw07.EraseBack': WHATEVER THE INPUT: true; the input reads as it did. -/
def eraseBackSpec : ChangeSpec := { name := "eraseBack", fn := fun _ => fun
  | [d1, d2, d3, d4, d5] => { results := [.lit (.bool true)], args := [d1, d2, d3, d4, d5] }
  | _ => none }
def eraseBackRow : OpenClaim := { program := "ytmkjplpnoohfnaa", sum := "bee2ec1653193345b8173398cc387c262a5811b2cbac615228494e228413495b", func := "aumbry/aumbrylaw07.EraseBack", spec := "eraseBack", unfollowed := true, recurses := true, apart := false }
def EraseBackSaid : Prop := eraseBackRow.holds Try.pinned (OpenSpec.ofChange eraseBackSpec)

/-- ITS FALSE NEIGHBOUR: 'it returns false'. Refute it at one input. -/
def eraseBackWrong : ChangeSpec := { name := "eraseBack", fn := fun _ => fun
  | [d1, d2, d3, d4, d5] => { results := [.lit (.bool false)], args := [d1, d2, d3, d4, d5] }
  | _ => none }
def EraseBackWrongFalsely : Prop := eraseBackRow.holds Try.pinned (OpenSpec.ofChange eraseBackWrong)

/-- 'aumbrylaw07.EraseLater': WHATEVER THE INPUT: true; the input reads as it did. -/
def eraseLaterSpec : ChangeSpec := { name := "eraseLater", fn := fun _ => fun
  | [d1, d2, d3, d4, d5] => { results := [.lit (.bool true)], args := [d1, d2, d3, d4, d5] }
  | _ => none }
def eraseLaterRow : OpenClaim := { program := "ytmkjplpnoohfnaa", sum := "bee2ec1653193345b8173398cc387c262a5811b2cbac615228494e228413495b", func := "aumbry/aumbrylaw07.EraseLater", spec := "eraseLater", unfollowed := true, recurses := true, apart := false }
def EraseLaterSaid : Prop := eraseLaterRow.holds Try.pinned (OpenSpec.ofChange eraseLaterSpec)

/-- ITS FALSE NEIGHBOUR: 'it returns false'. Refute it at one input. -/
def eraseLaterWrong : ChangeSpec := { name := "eraseLater", fn := fun _ => fun
  | [d1, d2, d3, d4, d5] => { results := [.lit (.bool false)], args := [d1, d2, d3, d4, d5] }
  | _ => none }
def EraseLaterWrongFalsely : Prop := eraseLaterRow.holds Try.pinned (OpenSpec.ofChange eraseLaterWrong)

/-- 'aumbrylaw07.EraseSums': WHATEVER THE INPUT: true; the input reads as it did. -/
def eraseSumsSpec : ChangeSpec := { name := "eraseSums", fn := fun _ => fun
  | [d1, d2, d3, d4, d5] => { results := [.lit (.bool true)], args := [d1, d2, d3, d4, d5] }
  | _ => none }
def eraseSumsRow : OpenClaim := { program := "ytmkjplpnoohfnaa", sum := "bee2ec1653193345b8173398cc387c262a5811b2cbac615228494e228413495b", func := "aumbry/aumbrylaw07.EraseSums", spec := "eraseSums", unfollowed := true, recurses := true, apart := false }
def EraseSumsSaid : Prop := eraseSumsRow.holds Try.pinned (OpenSpec.ofChange eraseSumsSpec)

/-- ITS FALSE NEIGHBOUR: 'it returns false'. Refute it at one input. -/
def eraseSumsWrong : ChangeSpec := { name := "eraseSums", fn := fun _ => fun
  | [d1, d2, d3, d4, d5] => { results := [.lit (.bool false)], args := [d1, d2, d3, d4, d5] }
  | _ => none }
def EraseSumsWrongFalsely : Prop := eraseSumsRow.holds Try.pinned (OpenSpec.ofChange eraseSumsWrong)

/-- 'aumbrylaw07.EraseFits': WHATEVER THE INPUT: true; the input reads as it did. -/
def eraseFitsSpec : ChangeSpec := { name := "eraseFits", fn := fun _ => fun
  | [d1, d2, d3, d4, d5] => { results := [.lit (.bool true)], args := [d1, d2, d3, d4, d5] }
  | _ => none }
def eraseFitsRow : OpenClaim := { program := "ytmkjplpnoohfnaa", sum := "bee2ec1653193345b8173398cc387c262a5811b2cbac615228494e228413495b", func := "aumbry/aumbrylaw07.EraseFits", spec := "eraseFits", unfollowed := true, recurses := true, apart := false }
def EraseFitsSaid : Prop := eraseFitsRow.holds Try.pinned (OpenSpec.ofChange eraseFitsSpec)

/-- ITS FALSE NEIGHBOUR: 'it returns false'. Refute it at one input. -/
def eraseFitsWrong : ChangeSpec := { name := "eraseFits", fn := fun _ => fun
  | [d1, d2, d3, d4, d5] => { results := [.lit (.bool false)], args := [d1, d2, d3, d4, d5] }
  | _ => none }
def EraseFitsWrongFalsely : Prop := eraseFitsRow.holds Try.pinned (OpenSpec.ofChange eraseFitsWrong)

/- THE SECOND FORM. 'bulk': how many values and letters a reading holds, each counted each time it is reached (what is shared counts as often as it is met; a slice's spare places count too). A statement '..UptoSaid' is the law's where the arguments, and the package variables that the reading takes, are together of bulk at most 1048576: NARROWER than '..Said'. Prove '..Said' where nothing that the law and all that it calls make is longer than what came in: it says more and counts as full. Else prove '..UptoSaid'. A law counts once. -/
mutual
def uptoBulk {H : Type} : DataW H → Nat
  | .lit (.string bytes) => bytes.length + 1
  | .lit _ => 1
  | .nil => 1
  | .ptr d => uptoBulk d + 1
  | .slice elems spare => uptoBulkAll elems + uptoBulkAll spare + 1
  | .agg parts => uptoBulkAll parts + 1
  | .iface _ d => uptoBulk d + 1
  | .map entries => uptoBulkEntries entries + 1
  | .held _ => 1
def uptoBulkAll {H : Type} : List (DataW H) → Nat
  | [] => 0
  | d :: r => uptoBulk d + uptoBulkAll r
def uptoBulkEntries {H : Type} : List (Lit × DataW H) → Nat
  | [] => 0
  | x :: r => uptoBulkEntry x + uptoBulkEntries r
def uptoBulkEntry {H : Type} : Lit × DataW H → Nat
  | (.string bytes, d) => bytes.length + uptoBulk d + 1
  | (_, d) => uptoBulk d + 1
 end
def uptoSmall : (H : Type) → List (DataW H) → Bool := fun _ ds => decide (uptoBulkAll ds ≤ 1048576)
def OpenSpec.upto (s : _root_.Go.ChangeSpec) : _root_.Go.OpenSpec := { _root_.Go.OpenSpec.ofChange s with cond := some uptoSmall }

/-- 'aumbrylaw05.CauchyNames', WHERE WHAT IT READS IS OF BULK AT MOST 1048576: true; the input reads as it did. -/
def cauchyNamesUptoRow : OpenClaim := { program := "ytmkjplpnoohfnaa", sum := "bee2ec1653193345b8173398cc387c262a5811b2cbac615228494e228413495b", func := "aumbry/aumbrylaw05.CauchyNames", spec := "cauchyNames", unfollowed := true, recurses := true, apart := false, narrowed := true }
def CauchyNamesUptoSaid : Prop := cauchyNamesUptoRow.holds Try.pinned (OpenSpec.upto cauchyNamesSpec)

/-- 'aumbrylaw05.CauchyTells', WHERE WHAT IT READS IS OF BULK AT MOST 1048576: true; the input reads as it did. -/
def cauchyTellsUptoRow : OpenClaim := { program := "ytmkjplpnoohfnaa", sum := "bee2ec1653193345b8173398cc387c262a5811b2cbac615228494e228413495b", func := "aumbry/aumbrylaw05.CauchyTells", spec := "cauchyTells", unfollowed := true, recurses := true, apart := false, narrowed := true }
def CauchyTellsUptoSaid : Prop := cauchyTellsUptoRow.holds Try.pinned (OpenSpec.upto cauchyTellsSpec)

/-- 'aumbrylaw05.CauchyMore', WHERE WHAT IT READS IS OF BULK AT MOST 1048576: true; the input reads as it did. -/
def cauchyMoreUptoRow : OpenClaim := { program := "ytmkjplpnoohfnaa", sum := "bee2ec1653193345b8173398cc387c262a5811b2cbac615228494e228413495b", func := "aumbry/aumbrylaw05.CauchyMore", spec := "cauchyMore", unfollowed := true, recurses := true, apart := false, narrowed := true }
def CauchyMoreUptoSaid : Prop := cauchyMoreUptoRow.holds Try.pinned (OpenSpec.upto cauchyMoreSpec)

/-- 'aumbrylaw08.SyndromeTells', WHERE WHAT IT READS IS OF BULK AT MOST 1048576: true; the input reads as it did. -/
def syndromeTellsUptoRow : OpenClaim := { program := "ytmkjplpnoohfnaa", sum := "bee2ec1653193345b8173398cc387c262a5811b2cbac615228494e228413495b", func := "aumbry/aumbrylaw08.SyndromeTells", spec := "syndromeTells", unfollowed := true, recurses := true, apart := false, narrowed := true }
def SyndromeTellsUptoSaid : Prop := syndromeTellsUptoRow.holds Try.pinned (OpenSpec.upto syndromeTellsSpec)

/-- 'aumbrylaw08.SyndromeLinear', WHERE WHAT IT READS IS OF BULK AT MOST 1048576: true; the input reads as it did. -/
def syndromeLinearUptoRow : OpenClaim := { program := "ytmkjplpnoohfnaa", sum := "bee2ec1653193345b8173398cc387c262a5811b2cbac615228494e228413495b", func := "aumbry/aumbrylaw08.SyndromeLinear", spec := "syndromeLinear", unfollowed := true, recurses := true, apart := false, narrowed := true }
def SyndromeLinearUptoSaid : Prop := syndromeLinearUptoRow.holds Try.pinned (OpenSpec.upto syndromeLinearSpec)

/-- 'aumbrylaw08.SyndromeSingle', WHERE WHAT IT READS IS OF BULK AT MOST 1048576: true; the input reads as it did. -/
def syndromeSingleUptoRow : OpenClaim := { program := "ytmkjplpnoohfnaa", sum := "bee2ec1653193345b8173398cc387c262a5811b2cbac615228494e228413495b", func := "aumbry/aumbrylaw08.SyndromeSingle", spec := "syndromeSingle", unfollowed := true, recurses := true, apart := false, narrowed := true }
def SyndromeSingleUptoSaid : Prop := syndromeSingleUptoRow.holds Try.pinned (OpenSpec.upto syndromeSingleSpec)

/-- 'aumbrylaw08.SyndromeScales', WHERE WHAT IT READS IS OF BULK AT MOST 1048576: true; the input reads as it did. -/
def syndromeScalesUptoRow : OpenClaim := { program := "ytmkjplpnoohfnaa", sum := "bee2ec1653193345b8173398cc387c262a5811b2cbac615228494e228413495b", func := "aumbry/aumbrylaw08.SyndromeScales", spec := "syndromeScales", unfollowed := true, recurses := true, apart := false, narrowed := true }
def SyndromeScalesUptoSaid : Prop := syndromeScalesUptoRow.holds Try.pinned (OpenSpec.upto syndromeScalesSpec)

/-- 'aumbrylaw05.CauchyNumbers', WHERE WHAT IT READS IS OF BULK AT MOST 1048576: true; the input reads as it did. -/
def cauchyNumbersUptoRow : OpenClaim := { program := "ytmkjplpnoohfnaa", sum := "bee2ec1653193345b8173398cc387c262a5811b2cbac615228494e228413495b", func := "aumbry/aumbrylaw05.CauchyNumbers", spec := "cauchyNumbers", unfollowed := true, recurses := true, apart := false, narrowed := true }
def CauchyNumbersUptoSaid : Prop := cauchyNumbersUptoRow.holds Try.pinned (OpenSpec.upto cauchyNumbersSpec)

/-- 'aumbrylaw05.CauchyNought', WHERE WHAT IT READS IS OF BULK AT MOST 1048576: true; the input reads as it did. -/
def cauchyNoughtUptoRow : OpenClaim := { program := "ytmkjplpnoohfnaa", sum := "bee2ec1653193345b8173398cc387c262a5811b2cbac615228494e228413495b", func := "aumbry/aumbrylaw05.CauchyNought", spec := "cauchyNought", unfollowed := true, recurses := true, apart := false, narrowed := true }
def CauchyNoughtUptoSaid : Prop := cauchyNoughtUptoRow.holds Try.pinned (OpenSpec.upto cauchyNoughtSpec)

/-- 'aumbrylaw03.MatrixNames', WHERE WHAT IT READS IS OF BULK AT MOST 1048576: true; the input reads as it did. -/
def matrixNamesUptoRow : OpenClaim := { program := "ytmkjplpnoohfnaa", sum := "bee2ec1653193345b8173398cc387c262a5811b2cbac615228494e228413495b", func := "aumbry/aumbrylaw03.MatrixNames", spec := "matrixNames", unfollowed := true, recurses := true, apart := false, narrowed := true }
def MatrixNamesUptoSaid : Prop := matrixNamesUptoRow.holds Try.pinned (OpenSpec.upto matrixNamesSpec)

/-- 'aumbrylaw03.MatrixTells', WHERE WHAT IT READS IS OF BULK AT MOST 1048576: true; the input reads as it did. -/
def matrixTellsUptoRow : OpenClaim := { program := "ytmkjplpnoohfnaa", sum := "bee2ec1653193345b8173398cc387c262a5811b2cbac615228494e228413495b", func := "aumbry/aumbrylaw03.MatrixTells", spec := "matrixTells", unfollowed := true, recurses := true, apart := false, narrowed := true }
def MatrixTellsUptoSaid : Prop := matrixTellsUptoRow.holds Try.pinned (OpenSpec.upto matrixTellsSpec)

/-- 'aumbrylaw03.MatrixInverse', WHERE WHAT IT READS IS OF BULK AT MOST 1048576: true; the input reads as it did. -/
def matrixInverseUptoRow : OpenClaim := { program := "ytmkjplpnoohfnaa", sum := "bee2ec1653193345b8173398cc387c262a5811b2cbac615228494e228413495b", func := "aumbry/aumbrylaw03.MatrixInverse", spec := "matrixInverse", unfollowed := true, recurses := true, apart := false, narrowed := true }
def MatrixInverseUptoSaid : Prop := matrixInverseUptoRow.holds Try.pinned (OpenSpec.upto matrixInverseSpec)

/-- 'aumbrylaw03.MatrixBrackets', WHERE WHAT IT READS IS OF BULK AT MOST 1048576: true; the input reads as it did. -/
def matrixBracketsUptoRow : OpenClaim := { program := "ytmkjplpnoohfnaa", sum := "bee2ec1653193345b8173398cc387c262a5811b2cbac615228494e228413495b", func := "aumbry/aumbrylaw03.MatrixBrackets", spec := "matrixBrackets", unfollowed := true, recurses := true, apart := false, narrowed := true }
def MatrixBracketsUptoSaid : Prop := matrixBracketsUptoRow.holds Try.pinned (OpenSpec.upto matrixBracketsSpec)

/-- 'aumbrylaw03.MatrixRows', WHERE WHAT IT READS IS OF BULK AT MOST 1048576: true; the input reads as it did. -/
def matrixRowsUptoRow : OpenClaim := { program := "ytmkjplpnoohfnaa", sum := "bee2ec1653193345b8173398cc387c262a5811b2cbac615228494e228413495b", func := "aumbry/aumbrylaw03.MatrixRows", spec := "matrixRows", unfollowed := true, recurses := true, apart := false, narrowed := true }
def MatrixRowsUptoSaid : Prop := matrixRowsUptoRow.holds Try.pinned (OpenSpec.upto matrixRowsSpec)

/-- 'aumbrylaw03.MatrixNil', WHERE WHAT IT READS IS OF BULK AT MOST 1048576: true; the input reads as it did. -/
def matrixNilUptoRow : OpenClaim := { program := "ytmkjplpnoohfnaa", sum := "bee2ec1653193345b8173398cc387c262a5811b2cbac615228494e228413495b", func := "aumbry/aumbrylaw03.MatrixNil", spec := "matrixNil", unfollowed := true, recurses := true, apart := false, narrowed := true }
def MatrixNilUptoSaid : Prop := matrixNilUptoRow.holds Try.pinned (OpenSpec.upto matrixNilSpec)

/-- 'aumbrylaw03.MatrixOnes', WHERE WHAT IT READS IS OF BULK AT MOST 1048576: true; the input reads as it did. -/
def matrixOnesUptoRow : OpenClaim := { program := "ytmkjplpnoohfnaa", sum := "bee2ec1653193345b8173398cc387c262a5811b2cbac615228494e228413495b", func := "aumbry/aumbrylaw03.MatrixOnes", spec := "matrixOnes", unfollowed := true, recurses := true, apart := false, narrowed := true }
def MatrixOnesUptoSaid : Prop := matrixOnesUptoRow.holds Try.pinned (OpenSpec.upto matrixOnesSpec)

/-- 'aumbrylaw03.MatrixSums', WHERE WHAT IT READS IS OF BULK AT MOST 1048576: true; the input reads as it did. -/
def matrixSumsUptoRow : OpenClaim := { program := "ytmkjplpnoohfnaa", sum := "bee2ec1653193345b8173398cc387c262a5811b2cbac615228494e228413495b", func := "aumbry/aumbrylaw03.MatrixSums", spec := "matrixSums", unfollowed := true, recurses := true, apart := false, narrowed := true }
def MatrixSumsUptoSaid : Prop := matrixSumsUptoRow.holds Try.pinned (OpenSpec.upto matrixSumsSpec)

/-- 'aumbrylaw05.CauchyRows', WHERE WHAT IT READS IS OF BULK AT MOST 1048576: true; the input reads as it did. -/
def cauchyRowsUptoRow : OpenClaim := { program := "ytmkjplpnoohfnaa", sum := "bee2ec1653193345b8173398cc387c262a5811b2cbac615228494e228413495b", func := "aumbry/aumbrylaw05.CauchyRows", spec := "cauchyRows", unfollowed := true, recurses := true, apart := false, narrowed := true }
def CauchyRowsUptoSaid : Prop := cauchyRowsUptoRow.holds Try.pinned (OpenSpec.upto cauchyRowsSpec)

/-- 'aumbrylaw06.BulkNames', WHERE WHAT IT READS IS OF BULK AT MOST 1048576: true; the input reads as it did. -/
def bulkNamesUptoRow : OpenClaim := { program := "ytmkjplpnoohfnaa", sum := "bee2ec1653193345b8173398cc387c262a5811b2cbac615228494e228413495b", func := "aumbry/aumbrylaw06.BulkNames", spec := "bulkNames", unfollowed := true, recurses := true, apart := false, narrowed := true }
def BulkNamesUptoSaid : Prop := bulkNamesUptoRow.holds Try.pinned (OpenSpec.upto bulkNamesSpec)

/-- 'aumbrylaw06.BulkEncodes', WHERE WHAT IT READS IS OF BULK AT MOST 1048576: true; the input reads as it did. -/
def bulkEncodesUptoRow : OpenClaim := { program := "ytmkjplpnoohfnaa", sum := "bee2ec1653193345b8173398cc387c262a5811b2cbac615228494e228413495b", func := "aumbry/aumbrylaw06.BulkEncodes", spec := "bulkEncodes", unfollowed := true, recurses := true, apart := false, narrowed := true }
def BulkEncodesUptoSaid : Prop := bulkEncodesUptoRow.holds Try.pinned (OpenSpec.upto bulkEncodesSpec)

/-- 'aumbrylaw06.BulkUpdates', WHERE WHAT IT READS IS OF BULK AT MOST 1048576: true; the input reads as it did. -/
def bulkUpdatesUptoRow : OpenClaim := { program := "ytmkjplpnoohfnaa", sum := "bee2ec1653193345b8173398cc387c262a5811b2cbac615228494e228413495b", func := "aumbry/aumbrylaw06.BulkUpdates", spec := "bulkUpdates", unfollowed := true, recurses := true, apart := false, narrowed := true }
def BulkUpdatesUptoSaid : Prop := bulkUpdatesUptoRow.holds Try.pinned (OpenSpec.upto bulkUpdatesSpec)

/-- 'aumbrylaw06.BulkLinear', WHERE WHAT IT READS IS OF BULK AT MOST 1048576: true; the input reads as it did. -/
def bulkLinearUptoRow : OpenClaim := { program := "ytmkjplpnoohfnaa", sum := "bee2ec1653193345b8173398cc387c262a5811b2cbac615228494e228413495b", func := "aumbry/aumbrylaw06.BulkLinear", spec := "bulkLinear", unfollowed := true, recurses := true, apart := false, narrowed := true }
def BulkLinearUptoSaid : Prop := bulkLinearUptoRow.holds Try.pinned (OpenSpec.upto bulkLinearSpec)

/-- 'aumbrylaw06.BulkChanges', WHERE WHAT IT READS IS OF BULK AT MOST 1048576: true; the input reads as it did. -/
def bulkChangesUptoRow : OpenClaim := { program := "ytmkjplpnoohfnaa", sum := "bee2ec1653193345b8173398cc387c262a5811b2cbac615228494e228413495b", func := "aumbry/aumbrylaw06.BulkChanges", spec := "bulkChanges", unfollowed := true, recurses := true, apart := false, narrowed := true }
def BulkChangesUptoSaid : Prop := bulkChangesUptoRow.holds Try.pinned (OpenSpec.upto bulkChangesSpec)

/-- 'aumbrylaw06.BulkSingle', WHERE WHAT IT READS IS OF BULK AT MOST 1048576: true; the input reads as it did. -/
def bulkSingleUptoRow : OpenClaim := { program := "ytmkjplpnoohfnaa", sum := "bee2ec1653193345b8173398cc387c262a5811b2cbac615228494e228413495b", func := "aumbry/aumbrylaw06.BulkSingle", spec := "bulkSingle", unfollowed := true, recurses := true, apart := false, narrowed := true }
def BulkSingleUptoSaid : Prop := bulkSingleUptoRow.holds Try.pinned (OpenSpec.upto bulkSingleSpec)

/-- 'aumbrylaw06.BulkPlaces', WHERE WHAT IT READS IS OF BULK AT MOST 1048576: true; the input reads as it did. -/
def bulkPlacesUptoRow : OpenClaim := { program := "ytmkjplpnoohfnaa", sum := "bee2ec1653193345b8173398cc387c262a5811b2cbac615228494e228413495b", func := "aumbry/aumbrylaw06.BulkPlaces", spec := "bulkPlaces", unfollowed := true, recurses := true, apart := false, narrowed := true }
def BulkPlacesUptoSaid : Prop := bulkPlacesUptoRow.holds Try.pinned (OpenSpec.upto bulkPlacesSpec)

/-- 'aumbrylaw06.BulkScales', WHERE WHAT IT READS IS OF BULK AT MOST 1048576: true; the input reads as it did. -/
def bulkScalesUptoRow : OpenClaim := { program := "ytmkjplpnoohfnaa", sum := "bee2ec1653193345b8173398cc387c262a5811b2cbac615228494e228413495b", func := "aumbry/aumbrylaw06.BulkScales", spec := "bulkScales", unfollowed := true, recurses := true, apart := false, narrowed := true }
def BulkScalesUptoSaid : Prop := bulkScalesUptoRow.holds Try.pinned (OpenSpec.upto bulkScalesSpec)

/-- 'aumbrylaw08.SyndromeCode', WHERE WHAT IT READS IS OF BULK AT MOST 1048576: true; the input reads as it did. -/
def syndromeCodeUptoRow : OpenClaim := { program := "ytmkjplpnoohfnaa", sum := "bee2ec1653193345b8173398cc387c262a5811b2cbac615228494e228413495b", func := "aumbry/aumbrylaw08.SyndromeCode", spec := "syndromeCode", unfollowed := true, recurses := true, apart := false, narrowed := true }
def SyndromeCodeUptoSaid : Prop := syndromeCodeUptoRow.holds Try.pinned (OpenSpec.upto syndromeCodeSpec)

/-- 'aumbrylaw07.EraseNames', WHERE WHAT IT READS IS OF BULK AT MOST 1048576: true; the input reads as it did. -/
def eraseNamesUptoRow : OpenClaim := { program := "ytmkjplpnoohfnaa", sum := "bee2ec1653193345b8173398cc387c262a5811b2cbac615228494e228413495b", func := "aumbry/aumbrylaw07.EraseNames", spec := "eraseNames", unfollowed := true, recurses := true, apart := false, narrowed := true }
def EraseNamesUptoSaid : Prop := eraseNamesUptoRow.holds Try.pinned (OpenSpec.upto eraseNamesSpec)

/-- 'aumbrylaw07.EraseDecodes', WHERE WHAT IT READS IS OF BULK AT MOST 1048576: true; the input reads as it did. -/
def eraseDecodesUptoRow : OpenClaim := { program := "ytmkjplpnoohfnaa", sum := "bee2ec1653193345b8173398cc387c262a5811b2cbac615228494e228413495b", func := "aumbry/aumbrylaw07.EraseDecodes", spec := "eraseDecodes", unfollowed := true, recurses := true, apart := false, narrowed := true }
def EraseDecodesUptoSaid : Prop := eraseDecodesUptoRow.holds Try.pinned (OpenSpec.upto eraseDecodesSpec)

/-- 'aumbrylaw07.EraseBack', WHERE WHAT IT READS IS OF BULK AT MOST 1048576: true; the input reads as it did. -/
def eraseBackUptoRow : OpenClaim := { program := "ytmkjplpnoohfnaa", sum := "bee2ec1653193345b8173398cc387c262a5811b2cbac615228494e228413495b", func := "aumbry/aumbrylaw07.EraseBack", spec := "eraseBack", unfollowed := true, recurses := true, apart := false, narrowed := true }
def EraseBackUptoSaid : Prop := eraseBackUptoRow.holds Try.pinned (OpenSpec.upto eraseBackSpec)

/-- 'aumbrylaw07.EraseLater', WHERE WHAT IT READS IS OF BULK AT MOST 1048576: true; the input reads as it did. -/
def eraseLaterUptoRow : OpenClaim := { program := "ytmkjplpnoohfnaa", sum := "bee2ec1653193345b8173398cc387c262a5811b2cbac615228494e228413495b", func := "aumbry/aumbrylaw07.EraseLater", spec := "eraseLater", unfollowed := true, recurses := true, apart := false, narrowed := true }
def EraseLaterUptoSaid : Prop := eraseLaterUptoRow.holds Try.pinned (OpenSpec.upto eraseLaterSpec)

/-- 'aumbrylaw07.EraseSums', WHERE WHAT IT READS IS OF BULK AT MOST 1048576: true; the input reads as it did. -/
def eraseSumsUptoRow : OpenClaim := { program := "ytmkjplpnoohfnaa", sum := "bee2ec1653193345b8173398cc387c262a5811b2cbac615228494e228413495b", func := "aumbry/aumbrylaw07.EraseSums", spec := "eraseSums", unfollowed := true, recurses := true, apart := false, narrowed := true }
def EraseSumsUptoSaid : Prop := eraseSumsUptoRow.holds Try.pinned (OpenSpec.upto eraseSumsSpec)

/-- 'aumbrylaw07.EraseFits', WHERE WHAT IT READS IS OF BULK AT MOST 1048576: true; the input reads as it did. -/
def eraseFitsUptoRow : OpenClaim := { program := "ytmkjplpnoohfnaa", sum := "bee2ec1653193345b8173398cc387c262a5811b2cbac615228494e228413495b", func := "aumbry/aumbrylaw07.EraseFits", spec := "eraseFits", unfollowed := true, recurses := true, apart := false, narrowed := true }
def EraseFitsUptoSaid : Prop := eraseFitsUptoRow.holds Try.pinned (OpenSpec.upto eraseFitsSpec)

end Rows
end Go.Proofs.Ytmkjplpnoohfnaa
