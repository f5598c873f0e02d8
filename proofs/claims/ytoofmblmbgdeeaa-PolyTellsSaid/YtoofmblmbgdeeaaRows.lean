/-
  No cell of these rows narrows 'for every input' (looked for: loops, veiled, ifaces, maps, wideKeys, modest, calm, conditions, laid).
  DERIVED. THE GIVEN ROWS OF THIS SEAT. 26 by the template 'for every input the law returns true; each argument reads behind the call as it read before'; 0 by the template 'total and deterministic' (their statements: YtoofmblmbgdeeaaTotals.lean).
  GIVEN WITH THE SEED: the statements are not yours to turn. If you find one false, say at which input.
  Laid BY PROGRAM, IN A SANDBOX (cutbox-rows.mjs): the forced cells as the released guide's own fill.sh prints them over the translation 0fe48c4bc16be25d… (all of the seat's roots in one cut). By AI agents, Wed Nov 11 2026. No macro, syntax, notation, axiom, sorry.
-/
import Derived.Test.YtoofmblmbgdeeaaChecked
import GoSem.Claim
import GoSem.ClaimJoined
import GoSem.ClaimMapViews
import Derived.JoinedTies
import Derived.KernelRfl
namespace Go.Proofs.Ytoofmblmbgdeeaa
/- THE CELL 'sum', in the pinned program and in every row, IS THE sha256 OF THE DUMP (.gsa) THAT YtoofmblmbgdeeaaProg.lean LOADS. Nothing in Lean hashes anything: it is a label: what it is worth is what the hold of that sum in a sandbox is worth. -/
noncomputable def Try.pinned : Pinned := { name := "ytoofmblmbgdeeaa", sum := "0fe48c4bc16be25da9bc3fdb2bd9a516b5f8f53ac7707b4ffdb752f3097127c6", checked := Try.checked }
namespace Rows
def none {H : Type} : Left H := { results := [], args := [] }

/-- 'aumbrylaw01.GfNames': WHATEVER THE INPUT: true; the input reads as it did. -/
def gfNamesSpec : ChangeSpec := { name := "gfNames", fn := fun _ => fun
  | [] => { results := [.lit (.bool true)], args := [] }
  | _ => none }
def gfNamesRow : OpenClaim := { program := "ytoofmblmbgdeeaa", sum := "0fe48c4bc16be25da9bc3fdb2bd9a516b5f8f53ac7707b4ffdb752f3097127c6", func := "aumbry/aumbrylaw01.GfNames", spec := "gfNames", unfollowed := true, recurses := true, apart := false }
def GfNamesSaid : Prop := gfNamesRow.holds Try.pinned (OpenSpec.ofChange gfNamesSpec)

/-- ITS FALSE NEIGHBOUR: 'it returns false'. Refute it at one input. -/
def gfNamesWrong : ChangeSpec := { name := "gfNames", fn := fun _ => fun
  | [] => { results := [.lit (.bool false)], args := [] }
  | _ => none }
def GfNamesWrongFalsely : Prop := gfNamesRow.holds Try.pinned (OpenSpec.ofChange gfNamesWrong)

/-- 'aumbrylaw01.GfField': WHATEVER THE INPUT: true; the input reads as it did. -/
def gfFieldSpec : ChangeSpec := { name := "gfField", fn := fun _ => fun
  | [d1, d2, d3] => { results := [.lit (.bool true)], args := [d1, d2, d3] }
  | _ => none }
def gfFieldRow : OpenClaim := { program := "ytoofmblmbgdeeaa", sum := "0fe48c4bc16be25da9bc3fdb2bd9a516b5f8f53ac7707b4ffdb752f3097127c6", func := "aumbry/aumbrylaw01.GfField", spec := "gfField", unfollowed := true, recurses := true, apart := false }
def GfFieldSaid : Prop := gfFieldRow.holds Try.pinned (OpenSpec.ofChange gfFieldSpec)

/-- ITS FALSE NEIGHBOUR: 'it returns false'. Refute it at one input. -/
def gfFieldWrong : ChangeSpec := { name := "gfField", fn := fun _ => fun
  | [d1, d2, d3] => { results := [.lit (.bool false)], args := [d1, d2, d3] }
  | _ => none }
def GfFieldWrongFalsely : Prop := gfFieldRow.holds Try.pinned (OpenSpec.ofChange gfFieldWrong)

/-- 'aumbrylaw01.GfPowers': WHATEVER THE INPUT: true; the input reads as it did. -/
def gfPowersSpec : ChangeSpec := { name := "gfPowers", fn := fun _ => fun
  | [d1, d2, d3] => { results := [.lit (.bool true)], args := [d1, d2, d3] }
  | _ => none }
def gfPowersRow : OpenClaim := { program := "ytoofmblmbgdeeaa", sum := "0fe48c4bc16be25da9bc3fdb2bd9a516b5f8f53ac7707b4ffdb752f3097127c6", func := "aumbry/aumbrylaw01.GfPowers", spec := "gfPowers", unfollowed := true, recurses := true, apart := false }
def GfPowersSaid : Prop := gfPowersRow.holds Try.pinned (OpenSpec.ofChange gfPowersSpec)

/-- ITS FALSE NEIGHBOUR: 'it returns false'. Refute it at one input. -/
def gfPowersWrong : ChangeSpec := { name := "gfPowers", fn := fun _ => fun
  | [d1, d2, d3] => { results := [.lit (.bool false)], args := [d1, d2, d3] }
  | _ => none }
def GfPowersWrongFalsely : Prop := gfPowersRow.holds Try.pinned (OpenSpec.ofChange gfPowersWrong)

/-- 'aumbrylaw01.GfDoubles': WHATEVER THE INPUT: true; the input reads as it did. -/
def gfDoublesSpec : ChangeSpec := { name := "gfDoubles", fn := fun _ => fun
  | [d] => { results := [.lit (.bool true)], args := [d] }
  | _ => none }
def gfDoublesRow : OpenClaim := { program := "ytoofmblmbgdeeaa", sum := "0fe48c4bc16be25da9bc3fdb2bd9a516b5f8f53ac7707b4ffdb752f3097127c6", func := "aumbry/aumbrylaw01.GfDoubles", spec := "gfDoubles", unfollowed := true, recurses := true, apart := false }
def GfDoublesSaid : Prop := gfDoublesRow.holds Try.pinned (OpenSpec.ofChange gfDoublesSpec)

/-- ITS FALSE NEIGHBOUR: 'it returns false'. Refute it at one input. -/
def gfDoublesWrong : ChangeSpec := { name := "gfDoubles", fn := fun _ => fun
  | [d] => { results := [.lit (.bool false)], args := [d] }
  | _ => none }
def GfDoublesWrongFalsely : Prop := gfDoublesRow.holds Try.pinned (OpenSpec.ofChange gfDoublesWrong)

/-- 'aumbrylaw01.GfSquares': WHATEVER THE INPUT: true; the input reads as it did. -/
def gfSquaresSpec : ChangeSpec := { name := "gfSquares", fn := fun _ => fun
  | [d1, d2] => { results := [.lit (.bool true)], args := [d1, d2] }
  | _ => none }
def gfSquaresRow : OpenClaim := { program := "ytoofmblmbgdeeaa", sum := "0fe48c4bc16be25da9bc3fdb2bd9a516b5f8f53ac7707b4ffdb752f3097127c6", func := "aumbry/aumbrylaw01.GfSquares", spec := "gfSquares", unfollowed := true, recurses := true, apart := false }
def GfSquaresSaid : Prop := gfSquaresRow.holds Try.pinned (OpenSpec.ofChange gfSquaresSpec)

/-- ITS FALSE NEIGHBOUR: 'it returns false'. Refute it at one input. -/
def gfSquaresWrong : ChangeSpec := { name := "gfSquares", fn := fun _ => fun
  | [d1, d2] => { results := [.lit (.bool false)], args := [d1, d2] }
  | _ => none }
def GfSquaresWrongFalsely : Prop := gfSquaresRow.holds Try.pinned (OpenSpec.ofChange gfSquaresWrong)

/-- 'aumbrylaw01.GfTells': WHATEVER THE INPUT: true; the input reads as it did. -/
def gfTellsSpec : ChangeSpec := { name := "gfTells", fn := fun _ => fun
  | [d1, d2, d3] => { results := [.lit (.bool true)], args := [d1, d2, d3] }
  | _ => none }
def gfTellsRow : OpenClaim := { program := "ytoofmblmbgdeeaa", sum := "0fe48c4bc16be25da9bc3fdb2bd9a516b5f8f53ac7707b4ffdb752f3097127c6", func := "aumbry/aumbrylaw01.GfTells", spec := "gfTells", unfollowed := true, recurses := true, apart := false }
def GfTellsSaid : Prop := gfTellsRow.holds Try.pinned (OpenSpec.ofChange gfTellsSpec)

/-- ITS FALSE NEIGHBOUR: 'it returns false'. Refute it at one input. -/
def gfTellsWrong : ChangeSpec := { name := "gfTells", fn := fun _ => fun
  | [d1, d2, d3] => { results := [.lit (.bool false)], args := [d1, d2, d3] }
  | _ => none }
def GfTellsWrongFalsely : Prop := gfTellsRow.holds Try.pinned (OpenSpec.ofChange gfTellsWrong)

/-- 'aumbrylaw01.GfInverse': WHATEVER THE INPUT: true; the input reads as it did. -/
def gfInverseSpec : ChangeSpec := { name := "gfInverse", fn := fun _ => fun
  | [d1, d2] => { results := [.lit (.bool true)], args := [d1, d2] }
  | _ => none }
def gfInverseRow : OpenClaim := { program := "ytoofmblmbgdeeaa", sum := "0fe48c4bc16be25da9bc3fdb2bd9a516b5f8f53ac7707b4ffdb752f3097127c6", func := "aumbry/aumbrylaw01.GfInverse", spec := "gfInverse", unfollowed := true, recurses := true, apart := false }
def GfInverseSaid : Prop := gfInverseRow.holds Try.pinned (OpenSpec.ofChange gfInverseSpec)

/-- ITS FALSE NEIGHBOUR: 'it returns false'. Refute it at one input. -/
def gfInverseWrong : ChangeSpec := { name := "gfInverse", fn := fun _ => fun
  | [d1, d2] => { results := [.lit (.bool false)], args := [d1, d2] }
  | _ => none }
def GfInverseWrongFalsely : Prop := gfInverseRow.holds Try.pinned (OpenSpec.ofChange gfInverseWrong)

/-- 'aumbrylaw01.GfNil': WHATEVER THE INPUT: true; the input reads as it did. -/
def gfNilSpec : ChangeSpec := { name := "gfNil", fn := fun _ => fun
  | [d1, d2] => { results := [.lit (.bool true)], args := [d1, d2] }
  | _ => none }
def gfNilRow : OpenClaim := { program := "ytoofmblmbgdeeaa", sum := "0fe48c4bc16be25da9bc3fdb2bd9a516b5f8f53ac7707b4ffdb752f3097127c6", func := "aumbry/aumbrylaw01.GfNil", spec := "gfNil", unfollowed := true, recurses := true, apart := false }
def GfNilSaid : Prop := gfNilRow.holds Try.pinned (OpenSpec.ofChange gfNilSpec)

/-- ITS FALSE NEIGHBOUR: 'it returns false'. Refute it at one input. -/
def gfNilWrong : ChangeSpec := { name := "gfNil", fn := fun _ => fun
  | [d1, d2] => { results := [.lit (.bool false)], args := [d1, d2] }
  | _ => none }
def GfNilWrongFalsely : Prop := gfNilRow.holds Try.pinned (OpenSpec.ofChange gfNilWrong)

/-- 'aumbrylaw01.GfLogs': WHATEVER THE INPUT: true; the input reads as it did. -/
def gfLogsSpec : ChangeSpec := { name := "gfLogs", fn := fun _ => fun
  | [d1, d2] => { results := [.lit (.bool true)], args := [d1, d2] }
  | _ => none }
def gfLogsRow : OpenClaim := { program := "ytoofmblmbgdeeaa", sum := "0fe48c4bc16be25da9bc3fdb2bd9a516b5f8f53ac7707b4ffdb752f3097127c6", func := "aumbry/aumbrylaw01.GfLogs", spec := "gfLogs", unfollowed := true, recurses := true, apart := false }
def GfLogsSaid : Prop := gfLogsRow.holds Try.pinned (OpenSpec.ofChange gfLogsSpec)

/-- ITS FALSE NEIGHBOUR: 'it returns false'. Refute it at one input. -/
def gfLogsWrong : ChangeSpec := { name := "gfLogs", fn := fun _ => fun
  | [d1, d2] => { results := [.lit (.bool false)], args := [d1, d2] }
  | _ => none }
def GfLogsWrongFalsely : Prop := gfLogsRow.holds Try.pinned (OpenSpec.ofChange gfLogsWrong)

/-- 'aumbrylaw02.PolyNames': WHATEVER THE INPUT: true; the input reads as it did. -/
def polyNamesSpec : ChangeSpec := { name := "polyNames", fn := fun _ => fun
  | [] => { results := [.lit (.bool true)], args := [] }
  | _ => none }
def polyNamesRow : OpenClaim := { program := "ytoofmblmbgdeeaa", sum := "0fe48c4bc16be25da9bc3fdb2bd9a516b5f8f53ac7707b4ffdb752f3097127c6", func := "aumbry/aumbrylaw02.PolyNames", spec := "polyNames", unfollowed := true, recurses := true, apart := false }
def PolyNamesSaid : Prop := polyNamesRow.holds Try.pinned (OpenSpec.ofChange polyNamesSpec)

/-- ITS FALSE NEIGHBOUR: 'it returns false'. Refute it at one input. -/
def polyNamesWrong : ChangeSpec := { name := "polyNames", fn := fun _ => fun
  | [] => { results := [.lit (.bool false)], args := [] }
  | _ => none }
def PolyNamesWrongFalsely : Prop := polyNamesRow.holds Try.pinned (OpenSpec.ofChange polyNamesWrong)

/-- 'aumbrylaw02.PolyTells': WHATEVER THE INPUT: true; the input reads as it did. -/
def polyTellsSpec : ChangeSpec := { name := "polyTells", fn := fun _ => fun
  | [d1, d2, d3] => { results := [.lit (.bool true)], args := [d1, d2, d3] }
  | _ => none }
def polyTellsRow : OpenClaim := { program := "ytoofmblmbgdeeaa", sum := "0fe48c4bc16be25da9bc3fdb2bd9a516b5f8f53ac7707b4ffdb752f3097127c6", func := "aumbry/aumbrylaw02.PolyTells", spec := "polyTells", unfollowed := true, recurses := true, apart := false }
def PolyTellsSaid : Prop := polyTellsRow.holds Try.pinned (OpenSpec.ofChange polyTellsSpec)

/-- ITS FALSE NEIGHBOUR: 'it returns false'. Refute it at one input. -/
def polyTellsWrong : ChangeSpec := { name := "polyTells", fn := fun _ => fun
  | [d1, d2, d3] => { results := [.lit (.bool false)], args := [d1, d2, d3] }
  | _ => none }
def PolyTellsWrongFalsely : Prop := polyTellsRow.holds Try.pinned (OpenSpec.ofChange polyTellsWrong)

/-- 'aumbrylaw02.PolyBack': WHATEVER THE INPUT: true; the input reads as it did. -/
def polyBackSpec : ChangeSpec := { name := "polyBack", fn := fun _ => fun
  | [d1, d2] => { results := [.lit (.bool true)], args := [d1, d2] }
  | _ => none }
def polyBackRow : OpenClaim := { program := "ytoofmblmbgdeeaa", sum := "0fe48c4bc16be25da9bc3fdb2bd9a516b5f8f53ac7707b4ffdb752f3097127c6", func := "aumbry/aumbrylaw02.PolyBack", spec := "polyBack", unfollowed := true, recurses := true, apart := false }
def PolyBackSaid : Prop := polyBackRow.holds Try.pinned (OpenSpec.ofChange polyBackSpec)

/-- ITS FALSE NEIGHBOUR: 'it returns false'. Refute it at one input. -/
def polyBackWrong : ChangeSpec := { name := "polyBack", fn := fun _ => fun
  | [d1, d2] => { results := [.lit (.bool false)], args := [d1, d2] }
  | _ => none }
def PolyBackWrongFalsely : Prop := polyBackRow.holds Try.pinned (OpenSpec.ofChange polyBackWrong)

/-- 'aumbrylaw02.PolyValues': WHATEVER THE INPUT: true; the input reads as it did. -/
def polyValuesSpec : ChangeSpec := { name := "polyValues", fn := fun _ => fun
  | [d1, d2, d3] => { results := [.lit (.bool true)], args := [d1, d2, d3] }
  | _ => none }
def polyValuesRow : OpenClaim := { program := "ytoofmblmbgdeeaa", sum := "0fe48c4bc16be25da9bc3fdb2bd9a516b5f8f53ac7707b4ffdb752f3097127c6", func := "aumbry/aumbrylaw02.PolyValues", spec := "polyValues", unfollowed := true, recurses := true, apart := false }
def PolyValuesSaid : Prop := polyValuesRow.holds Try.pinned (OpenSpec.ofChange polyValuesSpec)

/-- ITS FALSE NEIGHBOUR: 'it returns false'. Refute it at one input. -/
def polyValuesWrong : ChangeSpec := { name := "polyValues", fn := fun _ => fun
  | [d1, d2, d3] => { results := [.lit (.bool false)], args := [d1, d2, d3] }
  | _ => none }
def PolyValuesWrongFalsely : Prop := polyValuesRow.holds Try.pinned (OpenSpec.ofChange polyValuesWrong)

/-- 'aumbrylaw02.PolyDerives': WHATEVER THE INPUT: true; the input reads as it did. -/
def polyDerivesSpec : ChangeSpec := { name := "polyDerives", fn := fun _ => fun
  | [d1, d2] => { results := [.lit (.bool true)], args := [d1, d2] }
  | _ => none }
def polyDerivesRow : OpenClaim := { program := "ytoofmblmbgdeeaa", sum := "0fe48c4bc16be25da9bc3fdb2bd9a516b5f8f53ac7707b4ffdb752f3097127c6", func := "aumbry/aumbrylaw02.PolyDerives", spec := "polyDerives", unfollowed := true, recurses := true, apart := false }
def PolyDerivesSaid : Prop := polyDerivesRow.holds Try.pinned (OpenSpec.ofChange polyDerivesSpec)

/-- ITS FALSE NEIGHBOUR: 'it returns false'. Refute it at one input. -/
def polyDerivesWrong : ChangeSpec := { name := "polyDerives", fn := fun _ => fun
  | [d1, d2] => { results := [.lit (.bool false)], args := [d1, d2] }
  | _ => none }
def PolyDerivesWrongFalsely : Prop := polyDerivesRow.holds Try.pinned (OpenSpec.ofChange polyDerivesWrong)

/-- 'aumbrylaw02.PolyOrder': WHATEVER THE INPUT: true; the input reads as it did. -/
def polyOrderSpec : ChangeSpec := { name := "polyOrder", fn := fun _ => fun
  | [d1, d2, d3] => { results := [.lit (.bool true)], args := [d1, d2, d3] }
  | _ => none }
def polyOrderRow : OpenClaim := { program := "ytoofmblmbgdeeaa", sum := "0fe48c4bc16be25da9bc3fdb2bd9a516b5f8f53ac7707b4ffdb752f3097127c6", func := "aumbry/aumbrylaw02.PolyOrder", spec := "polyOrder", unfollowed := true, recurses := true, apart := false }
def PolyOrderSaid : Prop := polyOrderRow.holds Try.pinned (OpenSpec.ofChange polyOrderSpec)

/-- ITS FALSE NEIGHBOUR: 'it returns false'. Refute it at one input. -/
def polyOrderWrong : ChangeSpec := { name := "polyOrder", fn := fun _ => fun
  | [d1, d2, d3] => { results := [.lit (.bool false)], args := [d1, d2, d3] }
  | _ => none }
def PolyOrderWrongFalsely : Prop := polyOrderRow.holds Try.pinned (OpenSpec.ofChange polyOrderWrong)

/-- 'aumbrylaw02.PolyNil': WHATEVER THE INPUT: true; the input reads as it did. -/
def polyNilSpec : ChangeSpec := { name := "polyNil", fn := fun _ => fun
  | [d1, d2, d3] => { results := [.lit (.bool true)], args := [d1, d2, d3] }
  | _ => none }
def polyNilRow : OpenClaim := { program := "ytoofmblmbgdeeaa", sum := "0fe48c4bc16be25da9bc3fdb2bd9a516b5f8f53ac7707b4ffdb752f3097127c6", func := "aumbry/aumbrylaw02.PolyNil", spec := "polyNil", unfollowed := true, recurses := true, apart := false }
def PolyNilSaid : Prop := polyNilRow.holds Try.pinned (OpenSpec.ofChange polyNilSpec)

/-- ITS FALSE NEIGHBOUR: 'it returns false'. Refute it at one input. -/
def polyNilWrong : ChangeSpec := { name := "polyNil", fn := fun _ => fun
  | [d1, d2, d3] => { results := [.lit (.bool false)], args := [d1, d2, d3] }
  | _ => none }
def PolyNilWrongFalsely : Prop := polyNilRow.holds Try.pinned (OpenSpec.ofChange polyNilWrong)

/-- 'aumbrylaw02.PolyUndoes': WHATEVER THE INPUT: true; the input reads as it did. -/
def polyUndoesSpec : ChangeSpec := { name := "polyUndoes", fn := fun _ => fun
  | [d1, d2] => { results := [.lit (.bool true)], args := [d1, d2] }
  | _ => none }
def polyUndoesRow : OpenClaim := { program := "ytoofmblmbgdeeaa", sum := "0fe48c4bc16be25da9bc3fdb2bd9a516b5f8f53ac7707b4ffdb752f3097127c6", func := "aumbry/aumbrylaw02.PolyUndoes", spec := "polyUndoes", unfollowed := true, recurses := true, apart := false }
def PolyUndoesSaid : Prop := polyUndoesRow.holds Try.pinned (OpenSpec.ofChange polyUndoesSpec)

/-- ITS FALSE NEIGHBOUR: 'it returns false'. Refute it at one input. -/
def polyUndoesWrong : ChangeSpec := { name := "polyUndoes", fn := fun _ => fun
  | [d1, d2] => { results := [.lit (.bool false)], args := [d1, d2] }
  | _ => none }
def PolyUndoesWrongFalsely : Prop := polyUndoesRow.holds Try.pinned (OpenSpec.ofChange polyUndoesWrong)

/-- 'aumbrylaw02.PolyShifts': WHATEVER THE INPUT: true; the input reads as it did. -/
def polyShiftsSpec : ChangeSpec := { name := "polyShifts", fn := fun _ => fun
  | [d1, d2, d3] => { results := [.lit (.bool true)], args := [d1, d2, d3] }
  | _ => none }
def polyShiftsRow : OpenClaim := { program := "ytoofmblmbgdeeaa", sum := "0fe48c4bc16be25da9bc3fdb2bd9a516b5f8f53ac7707b4ffdb752f3097127c6", func := "aumbry/aumbrylaw02.PolyShifts", spec := "polyShifts", unfollowed := true, recurses := true, apart := false }
def PolyShiftsSaid : Prop := polyShiftsRow.holds Try.pinned (OpenSpec.ofChange polyShiftsSpec)

/-- ITS FALSE NEIGHBOUR: 'it returns false'. Refute it at one input. -/
def polyShiftsWrong : ChangeSpec := { name := "polyShifts", fn := fun _ => fun
  | [d1, d2, d3] => { results := [.lit (.bool false)], args := [d1, d2, d3] }
  | _ => none }
def PolyShiftsWrongFalsely : Prop := polyShiftsRow.holds Try.pinned (OpenSpec.ofChange polyShiftsWrong)

/-- 'aumbrylaw02.PolyBrackets': WHATEVER THE INPUT: true; the input reads as it did. -/
def polyBracketsSpec : ChangeSpec := { name := "polyBrackets", fn := fun _ => fun
  | [d1, d2, d3] => { results := [.lit (.bool true)], args := [d1, d2, d3] }
  | _ => none }
def polyBracketsRow : OpenClaim := { program := "ytoofmblmbgdeeaa", sum := "0fe48c4bc16be25da9bc3fdb2bd9a516b5f8f53ac7707b4ffdb752f3097127c6", func := "aumbry/aumbrylaw02.PolyBrackets", spec := "polyBrackets", unfollowed := true, recurses := true, apart := false }
def PolyBracketsSaid : Prop := polyBracketsRow.holds Try.pinned (OpenSpec.ofChange polyBracketsSpec)

/-- ITS FALSE NEIGHBOUR: 'it returns false'. Refute it at one input. -/
def polyBracketsWrong : ChangeSpec := { name := "polyBrackets", fn := fun _ => fun
  | [d1, d2, d3] => { results := [.lit (.bool false)], args := [d1, d2, d3] }
  | _ => none }
def PolyBracketsWrongFalsely : Prop := polyBracketsRow.holds Try.pinned (OpenSpec.ofChange polyBracketsWrong)

/-- 'aumbrylaw09.KeyeqNames': WHATEVER THE INPUT: true; the input reads as it did. -/
def keyeqNamesSpec : ChangeSpec := { name := "keyeqNames", fn := fun _ => fun
  | [] => { results := [.lit (.bool true)], args := [] }
  | _ => none }
def keyeqNamesRow : OpenClaim := { program := "ytoofmblmbgdeeaa", sum := "0fe48c4bc16be25da9bc3fdb2bd9a516b5f8f53ac7707b4ffdb752f3097127c6", func := "aumbry/aumbrylaw09.KeyeqNames", spec := "keyeqNames", unfollowed := true, recurses := true, apart := false }
def KeyeqNamesSaid : Prop := keyeqNamesRow.holds Try.pinned (OpenSpec.ofChange keyeqNamesSpec)

/-- ITS FALSE NEIGHBOUR: 'it returns false'. Refute it at one input. -/
def keyeqNamesWrong : ChangeSpec := { name := "keyeqNames", fn := fun _ => fun
  | [] => { results := [.lit (.bool false)], args := [] }
  | _ => none }
def KeyeqNamesWrongFalsely : Prop := keyeqNamesRow.holds Try.pinned (OpenSpec.ofChange keyeqNamesWrong)

/-- 'aumbrylaw09.KeyeqSolves': WHATEVER THE INPUT: true; the input reads as it did. -/
def keyeqSolvesSpec : ChangeSpec := { name := "keyeqSolves", fn := fun _ => fun
  | [d1, d2, d3] => { results := [.lit (.bool true)], args := [d1, d2, d3] }
  | _ => none }
def keyeqSolvesRow : OpenClaim := { program := "ytoofmblmbgdeeaa", sum := "0fe48c4bc16be25da9bc3fdb2bd9a516b5f8f53ac7707b4ffdb752f3097127c6", func := "aumbry/aumbrylaw09.KeyeqSolves", spec := "keyeqSolves", unfollowed := true, recurses := true, apart := false }
def KeyeqSolvesSaid : Prop := keyeqSolvesRow.holds Try.pinned (OpenSpec.ofChange keyeqSolvesSpec)

/-- ITS FALSE NEIGHBOUR: 'it returns false'. Refute it at one input. -/
def keyeqSolvesWrong : ChangeSpec := { name := "keyeqSolves", fn := fun _ => fun
  | [d1, d2, d3] => { results := [.lit (.bool false)], args := [d1, d2, d3] }
  | _ => none }
def KeyeqSolvesWrongFalsely : Prop := keyeqSolvesRow.holds Try.pinned (OpenSpec.ofChange keyeqSolvesWrong)

/-- 'aumbrylaw09.KeyeqFits': WHATEVER THE INPUT: true; the input reads as it did. -/
def keyeqFitsSpec : ChangeSpec := { name := "keyeqFits", fn := fun _ => fun
  | [d1, d2] => { results := [.lit (.bool true)], args := [d1, d2] }
  | _ => none }
def keyeqFitsRow : OpenClaim := { program := "ytoofmblmbgdeeaa", sum := "0fe48c4bc16be25da9bc3fdb2bd9a516b5f8f53ac7707b4ffdb752f3097127c6", func := "aumbry/aumbrylaw09.KeyeqFits", spec := "keyeqFits", unfollowed := true, recurses := true, apart := false }
def KeyeqFitsSaid : Prop := keyeqFitsRow.holds Try.pinned (OpenSpec.ofChange keyeqFitsSpec)

/-- ITS FALSE NEIGHBOUR: 'it returns false'. Refute it at one input. -/
def keyeqFitsWrong : ChangeSpec := { name := "keyeqFits", fn := fun _ => fun
  | [d1, d2] => { results := [.lit (.bool false)], args := [d1, d2] }
  | _ => none }
def KeyeqFitsWrongFalsely : Prop := keyeqFitsRow.holds Try.pinned (OpenSpec.ofChange keyeqFitsWrong)

/-- 'aumbrylaw09.KeyeqNil': WHATEVER THE INPUT: true; the input reads as it did. -/
def keyeqNilSpec : ChangeSpec := { name := "keyeqNil", fn := fun _ => fun
  | [d1, d2] => { results := [.lit (.bool true)], args := [d1, d2] }
  | _ => none }
def keyeqNilRow : OpenClaim := { program := "ytoofmblmbgdeeaa", sum := "0fe48c4bc16be25da9bc3fdb2bd9a516b5f8f53ac7707b4ffdb752f3097127c6", func := "aumbry/aumbrylaw09.KeyeqNil", spec := "keyeqNil", unfollowed := true, recurses := true, apart := false }
def KeyeqNilSaid : Prop := keyeqNilRow.holds Try.pinned (OpenSpec.ofChange keyeqNilSpec)

/-- ITS FALSE NEIGHBOUR: 'it returns false'. Refute it at one input. -/
def keyeqNilWrong : ChangeSpec := { name := "keyeqNil", fn := fun _ => fun
  | [d1, d2] => { results := [.lit (.bool false)], args := [d1, d2] }
  | _ => none }
def KeyeqNilWrongFalsely : Prop := keyeqNilRow.holds Try.pinned (OpenSpec.ofChange keyeqNilWrong)

/-- 'aumbrylaw09.KeyeqScales': WHATEVER THE INPUT: true; the input reads as it did. -/
def keyeqScalesSpec : ChangeSpec := { name := "keyeqScales", fn := fun _ => fun
  | [d1, d2, d3] => { results := [.lit (.bool true)], args := [d1, d2, d3] }
  | _ => none }
def keyeqScalesRow : OpenClaim := { program := "ytoofmblmbgdeeaa", sum := "0fe48c4bc16be25da9bc3fdb2bd9a516b5f8f53ac7707b4ffdb752f3097127c6", func := "aumbry/aumbrylaw09.KeyeqScales", spec := "keyeqScales", unfollowed := true, recurses := true, apart := false }
def KeyeqScalesSaid : Prop := keyeqScalesRow.holds Try.pinned (OpenSpec.ofChange keyeqScalesSpec)

/-- ITS FALSE NEIGHBOUR: 'it returns false'. Refute it at one input. -/
def keyeqScalesWrong : ChangeSpec := { name := "keyeqScales", fn := fun _ => fun
  | [d1, d2, d3] => { results := [.lit (.bool false)], args := [d1, d2, d3] }
  | _ => none }
def KeyeqScalesWrongFalsely : Prop := keyeqScalesRow.holds Try.pinned (OpenSpec.ofChange keyeqScalesWrong)

/-- 'aumbrylaw09.KeyeqRoots': WHATEVER THE INPUT: true; the input reads as it did. -/
def keyeqRootsSpec : ChangeSpec := { name := "keyeqRoots", fn := fun _ => fun
  | [d1, d2] => { results := [.lit (.bool true)], args := [d1, d2] }
  | _ => none }
def keyeqRootsRow : OpenClaim := { program := "ytoofmblmbgdeeaa", sum := "0fe48c4bc16be25da9bc3fdb2bd9a516b5f8f53ac7707b4ffdb752f3097127c6", func := "aumbry/aumbrylaw09.KeyeqRoots", spec := "keyeqRoots", unfollowed := true, recurses := true, apart := false }
def KeyeqRootsSaid : Prop := keyeqRootsRow.holds Try.pinned (OpenSpec.ofChange keyeqRootsSpec)

/-- ITS FALSE NEIGHBOUR: 'it returns false'. Refute it at one input. -/
def keyeqRootsWrong : ChangeSpec := { name := "keyeqRoots", fn := fun _ => fun
  | [d1, d2] => { results := [.lit (.bool false)], args := [d1, d2] }
  | _ => none }
def KeyeqRootsWrongFalsely : Prop := keyeqRootsRow.holds Try.pinned (OpenSpec.ofChange keyeqRootsWrong)

/-- 'aumbrylaw09.KeyeqFinds': WHATEVER THE INPUT: true; the input reads as it did. -/
def keyeqFindsSpec : ChangeSpec := { name := "keyeqFinds", fn := fun _ => fun
  | [d1, d2, d3, d4, d5] => { results := [.lit (.bool true)], args := [d1, d2, d3, d4, d5] }
  | _ => none }
def keyeqFindsRow : OpenClaim := { program := "ytoofmblmbgdeeaa", sum := "0fe48c4bc16be25da9bc3fdb2bd9a516b5f8f53ac7707b4ffdb752f3097127c6", func := "aumbry/aumbrylaw09.KeyeqFinds", spec := "keyeqFinds", unfollowed := true, recurses := true, apart := false }
def KeyeqFindsSaid : Prop := keyeqFindsRow.holds Try.pinned (OpenSpec.ofChange keyeqFindsSpec)

/-- ITS FALSE NEIGHBOUR: 'it returns false'. Refute it at one input. -/
def keyeqFindsWrong : ChangeSpec := { name := "keyeqFinds", fn := fun _ => fun
  | [d1, d2, d3, d4, d5] => { results := [.lit (.bool false)], args := [d1, d2, d3, d4, d5] }
  | _ => none }
def KeyeqFindsWrongFalsely : Prop := keyeqFindsRow.holds Try.pinned (OpenSpec.ofChange keyeqFindsWrong)

/- THE SECOND FORM. 'bulk': how many values and letters a reading holds, each counted each time it is reached (what is shared counts as often as it is met; a slice's spare places count too). A statement '..UptoSaid' is the law's where the arguments, and the package variables that the reading takes, are together of bulk at most 1048576: NARROWER than '..Said'. Prove '..Said' where nothing that the law and all that it calls make is longer than what came in: it says more and counts as full. Else prove '..UptoSaid'. A law counts once. -/
mutual
def uptoBulk {H : Type} : DataW H → Nat
  | .lit (.string bytes) => bytes.length + 1
  | .lit _ => 1
  | .nil => 1
  | .ptr d => uptoBulk d + 1
  | .slice elems spare => uptoBulkAll elems + uptoBulkAll spare + 1
  | .agg parts => uptoBulkAll parts + 1
  | .iface _ d => uptoBulk d + 1
  | .map entries => uptoBulkEntries entries + 1
  | .held _ => 1
def uptoBulkAll {H : Type} : List (DataW H) → Nat
  | [] => 0
  | d :: r => uptoBulk d + uptoBulkAll r
def uptoBulkEntries {H : Type} : List (Lit × DataW H) → Nat
  | [] => 0
  | x :: r => uptoBulkEntry x + uptoBulkEntries r
def uptoBulkEntry {H : Type} : Lit × DataW H → Nat
  | (.string bytes, d) => bytes.length + uptoBulk d + 1
  | (_, d) => uptoBulk d + 1
 end
def uptoSmall : (H : Type) → List (DataW H) → Bool := fun _ ds => decide (uptoBulkAll ds ≤ 1048576)
def OpenSpec.upto (s : _root_.Go.ChangeSpec) : _root_.Go.OpenSpec := { _root_.Go.OpenSpec.ofChange s with cond := some uptoSmall }

/-- 'aumbrylaw01.GfNames', WHERE WHAT IT READS IS OF BULK AT MOST 1048576: true; the input reads as it did. -/
def gfNamesUptoRow : OpenClaim := { program := "ytoofmblmbgdeeaa", sum := "0fe48c4bc16be25da9bc3fdb2bd9a516b5f8f53ac7707b4ffdb752f3097127c6", func := "aumbry/aumbrylaw01.GfNames", spec := "gfNames", unfollowed := true, recurses := true, apart := false, narrowed := true }
def GfNamesUptoSaid : Prop := gfNamesUptoRow.holds Try.pinned (OpenSpec.upto gfNamesSpec)

/-- 'aumbrylaw01.GfField', WHERE WHAT IT READS IS OF BULK AT MOST 1048576: true; the input reads as it did. -/
def gfFieldUptoRow : OpenClaim := { program := "ytoofmblmbgdeeaa", sum := "0fe48c4bc16be25da9bc3fdb2bd9a516b5f8f53ac7707b4ffdb752f3097127c6", func := "aumbry/aumbrylaw01.GfField", spec := "gfField", unfollowed := true, recurses := true, apart := false, narrowed := true }
def GfFieldUptoSaid : Prop := gfFieldUptoRow.holds Try.pinned (OpenSpec.upto gfFieldSpec)

/-- 'aumbrylaw01.GfPowers', WHERE WHAT IT READS IS OF BULK AT MOST 1048576: true; the input reads as it did. -/
def gfPowersUptoRow : OpenClaim := { program := "ytoofmblmbgdeeaa", sum := "0fe48c4bc16be25da9bc3fdb2bd9a516b5f8f53ac7707b4ffdb752f3097127c6", func := "aumbry/aumbrylaw01.GfPowers", spec := "gfPowers", unfollowed := true, recurses := true, apart := false, narrowed := true }
def GfPowersUptoSaid : Prop := gfPowersUptoRow.holds Try.pinned (OpenSpec.upto gfPowersSpec)

/-- 'aumbrylaw01.GfDoubles', WHERE WHAT IT READS IS OF BULK AT MOST 1048576: true; the input reads as it did. -/
def gfDoublesUptoRow : OpenClaim := { program := "ytoofmblmbgdeeaa", sum := "0fe48c4bc16be25da9bc3fdb2bd9a516b5f8f53ac7707b4ffdb752f3097127c6", func := "aumbry/aumbrylaw01.GfDoubles", spec := "gfDoubles", unfollowed := true, recurses := true, apart := false, narrowed := true }
def GfDoublesUptoSaid : Prop := gfDoublesUptoRow.holds Try.pinned (OpenSpec.upto gfDoublesSpec)

/-- 'aumbrylaw01.GfSquares', WHERE WHAT IT READS IS OF BULK AT MOST 1048576: true; the input reads as it did. -/
def gfSquaresUptoRow : OpenClaim := { program := "ytoofmblmbgdeeaa", sum := "0fe48c4bc16be25da9bc3fdb2bd9a516b5f8f53ac7707b4ffdb752f3097127c6", func := "aumbry/aumbrylaw01.GfSquares", spec := "gfSquares", unfollowed := true, recurses := true, apart := false, narrowed := true }
def GfSquaresUptoSaid : Prop := gfSquaresUptoRow.holds Try.pinned (OpenSpec.upto gfSquaresSpec)

/-- 'aumbrylaw01.GfTells', WHERE WHAT IT READS IS OF BULK AT MOST 1048576: true; the input reads as it did. -/
def gfTellsUptoRow : OpenClaim := { program := "ytoofmblmbgdeeaa", sum := "0fe48c4bc16be25da9bc3fdb2bd9a516b5f8f53ac7707b4ffdb752f3097127c6", func := "aumbry/aumbrylaw01.GfTells", spec := "gfTells", unfollowed := true, recurses := true, apart := false, narrowed := true }
def GfTellsUptoSaid : Prop := gfTellsUptoRow.holds Try.pinned (OpenSpec.upto gfTellsSpec)

/-- 'aumbrylaw01.GfInverse', WHERE WHAT IT READS IS OF BULK AT MOST 1048576: true; the input reads as it did. -/
def gfInverseUptoRow : OpenClaim := { program := "ytoofmblmbgdeeaa", sum := "0fe48c4bc16be25da9bc3fdb2bd9a516b5f8f53ac7707b4ffdb752f3097127c6", func := "aumbry/aumbrylaw01.GfInverse", spec := "gfInverse", unfollowed := true, recurses := true, apart := false, narrowed := true }
def GfInverseUptoSaid : Prop := gfInverseUptoRow.holds Try.pinned (OpenSpec.upto gfInverseSpec)

/-- 'aumbrylaw01.GfNil', WHERE WHAT IT READS IS OF BULK AT MOST 1048576: true; the input reads as it did. -/
def gfNilUptoRow : OpenClaim := { program := "ytoofmblmbgdeeaa", sum := "0fe48c4bc16be25da9bc3fdb2bd9a516b5f8f53ac7707b4ffdb752f3097127c6", func := "aumbry/aumbrylaw01.GfNil", spec := "gfNil", unfollowed := true, recurses := true, apart := false, narrowed := true }
def GfNilUptoSaid : Prop := gfNilUptoRow.holds Try.pinned (OpenSpec.upto gfNilSpec)

/-- 'aumbrylaw01.GfLogs', WHERE WHAT IT READS IS OF BULK AT MOST 1048576: true; the input reads as it did. -/
def gfLogsUptoRow : OpenClaim := { program := "ytoofmblmbgdeeaa", sum := "0fe48c4bc16be25da9bc3fdb2bd9a516b5f8f53ac7707b4ffdb752f3097127c6", func := "aumbry/aumbrylaw01.GfLogs", spec := "gfLogs", unfollowed := true, recurses := true, apart := false, narrowed := true }
def GfLogsUptoSaid : Prop := gfLogsUptoRow.holds Try.pinned (OpenSpec.upto gfLogsSpec)

/-- 'aumbrylaw02.PolyNames', WHERE WHAT IT READS IS OF BULK AT MOST 1048576: true; the input reads as it did. -/
def polyNamesUptoRow : OpenClaim := { program := "ytoofmblmbgdeeaa", sum := "0fe48c4bc16be25da9bc3fdb2bd9a516b5f8f53ac7707b4ffdb752f3097127c6", func := "aumbry/aumbrylaw02.PolyNames", spec := "polyNames", unfollowed := true, recurses := true, apart := false, narrowed := true }
def PolyNamesUptoSaid : Prop := polyNamesUptoRow.holds Try.pinned (OpenSpec.upto polyNamesSpec)

/-- 'aumbrylaw02.PolyTells', WHERE WHAT IT READS IS OF BULK AT MOST 1048576: true; the input reads as it did. -/
def polyTellsUptoRow : OpenClaim := { program := "ytoofmblmbgdeeaa", sum := "0fe48c4bc16be25da9bc3fdb2bd9a516b5f8f53ac7707b4ffdb752f3097127c6", func := "aumbry/aumbrylaw02.PolyTells", spec := "polyTells", unfollowed := true, recurses := true, apart := false, narrowed := true }
def PolyTellsUptoSaid : Prop := polyTellsUptoRow.holds Try.pinned (OpenSpec.upto polyTellsSpec)

/-- 'aumbrylaw02.PolyBack', WHERE WHAT IT READS IS OF BULK AT MOST 1048576: true; the input reads as it did. -/
def polyBackUptoRow : OpenClaim := { program := "ytoofmblmbgdeeaa", sum := "0fe48c4bc16be25da9bc3fdb2bd9a516b5f8f53ac7707b4ffdb752f3097127c6", func := "aumbry/aumbrylaw02.PolyBack", spec := "polyBack", unfollowed := true, recurses := true, apart := false, narrowed := true }
def PolyBackUptoSaid : Prop := polyBackUptoRow.holds Try.pinned (OpenSpec.upto polyBackSpec)

/-- 'aumbrylaw02.PolyValues', WHERE WHAT IT READS IS OF BULK AT MOST 1048576: true; the input reads as it did. -/
def polyValuesUptoRow : OpenClaim := { program := "ytoofmblmbgdeeaa", sum := "0fe48c4bc16be25da9bc3fdb2bd9a516b5f8f53ac7707b4ffdb752f3097127c6", func := "aumbry/aumbrylaw02.PolyValues", spec := "polyValues", unfollowed := true, recurses := true, apart := false, narrowed := true }
def PolyValuesUptoSaid : Prop := polyValuesUptoRow.holds Try.pinned (OpenSpec.upto polyValuesSpec)

/-- 'aumbrylaw02.PolyDerives', WHERE WHAT IT READS IS OF BULK AT MOST 1048576: true; the input reads as it did. -/
def polyDerivesUptoRow : OpenClaim := { program := "ytoofmblmbgdeeaa", sum := "0fe48c4bc16be25da9bc3fdb2bd9a516b5f8f53ac7707b4ffdb752f3097127c6", func := "aumbry/aumbrylaw02.PolyDerives", spec := "polyDerives", unfollowed := true, recurses := true, apart := false, narrowed := true }
def PolyDerivesUptoSaid : Prop := polyDerivesUptoRow.holds Try.pinned (OpenSpec.upto polyDerivesSpec)

/-- 'aumbrylaw02.PolyOrder', WHERE WHAT IT READS IS OF BULK AT MOST 1048576: true; the input reads as it did. -/
def polyOrderUptoRow : OpenClaim := { program := "ytoofmblmbgdeeaa", sum := "0fe48c4bc16be25da9bc3fdb2bd9a516b5f8f53ac7707b4ffdb752f3097127c6", func := "aumbry/aumbrylaw02.PolyOrder", spec := "polyOrder", unfollowed := true, recurses := true, apart := false, narrowed := true }
def PolyOrderUptoSaid : Prop := polyOrderUptoRow.holds Try.pinned (OpenSpec.upto polyOrderSpec)

/-- 'aumbrylaw02.PolyNil', WHERE WHAT IT READS IS OF BULK AT MOST 1048576: true; the input reads as it did. -/
def polyNilUptoRow : OpenClaim := { program := "ytoofmblmbgdeeaa", sum := "0fe48c4bc16be25da9bc3fdb2bd9a516b5f8f53ac7707b4ffdb752f3097127c6", func := "aumbry/aumbrylaw02.PolyNil", spec := "polyNil", unfollowed := true, recurses := true, apart := false, narrowed := true }
def PolyNilUptoSaid : Prop := polyNilUptoRow.holds Try.pinned (OpenSpec.upto polyNilSpec)

/-- 'aumbrylaw02.PolyUndoes', WHERE WHAT IT READS IS OF BULK AT MOST 1048576: true; the input reads as it did. -/
def polyUndoesUptoRow : OpenClaim := { program := "ytoofmblmbgdeeaa", sum := "0fe48c4bc16be25da9bc3fdb2bd9a516b5f8f53ac7707b4ffdb752f3097127c6", func := "aumbry/aumbrylaw02.PolyUndoes", spec := "polyUndoes", unfollowed := true, recurses := true, apart := false, narrowed := true }
def PolyUndoesUptoSaid : Prop := polyUndoesUptoRow.holds Try.pinned (OpenSpec.upto polyUndoesSpec)

/-- 'aumbrylaw02.PolyShifts', WHERE WHAT IT READS IS OF BULK AT MOST 1048576: true; the input reads as it did. -/
def polyShiftsUptoRow : OpenClaim := { program := "ytoofmblmbgdeeaa", sum := "0fe48c4bc16be25da9bc3fdb2bd9a516b5f8f53ac7707b4ffdb752f3097127c6", func := "aumbry/aumbrylaw02.PolyShifts", spec := "polyShifts", unfollowed := true, recurses := true, apart := false, narrowed := true }
def PolyShiftsUptoSaid : Prop := polyShiftsUptoRow.holds Try.pinned (OpenSpec.upto polyShiftsSpec)

/-- 'aumbrylaw02.PolyBrackets', WHERE WHAT IT READS IS OF BULK AT MOST 1048576: true; the input reads as it did. -/
def polyBracketsUptoRow : OpenClaim := { program := "ytoofmblmbgdeeaa", sum := "0fe48c4bc16be25da9bc3fdb2bd9a516b5f8f53ac7707b4ffdb752f3097127c6", func := "aumbry/aumbrylaw02.PolyBrackets", spec := "polyBrackets", unfollowed := true, recurses := true, apart := false, narrowed := true }
def PolyBracketsUptoSaid : Prop := polyBracketsUptoRow.holds Try.pinned (OpenSpec.upto polyBracketsSpec)

/-- 'aumbrylaw09.KeyeqNames', WHERE WHAT IT READS IS OF BULK AT MOST 1048576: true; the input reads as it did. -/
def keyeqNamesUptoRow : OpenClaim := { program := "ytoofmblmbgdeeaa", sum := "0fe48c4bc16be25da9bc3fdb2bd9a516b5f8f53ac7707b4ffdb752f3097127c6", func := "aumbry/aumbrylaw09.KeyeqNames", spec := "keyeqNames", unfollowed := true, recurses := true, apart := false, narrowed := true }
def KeyeqNamesUptoSaid : Prop := keyeqNamesUptoRow.holds Try.pinned (OpenSpec.upto keyeqNamesSpec)

/-- 'aumbrylaw09.KeyeqSolves', WHERE WHAT IT READS IS OF BULK AT MOST 1048576: true; the input reads as it did. -/
def keyeqSolvesUptoRow : OpenClaim := { program := "ytoofmblmbgdeeaa", sum := "0fe48c4bc16be25da9bc3fdb2bd9a516b5f8f53ac7707b4ffdb752f3097127c6", func := "aumbry/aumbrylaw09.KeyeqSolves", spec := "keyeqSolves", unfollowed := true, recurses := true, apart := false, narrowed := true }
def KeyeqSolvesUptoSaid : Prop := keyeqSolvesUptoRow.holds Try.pinned (OpenSpec.upto keyeqSolvesSpec)

/-- 'aumbrylaw09.KeyeqFits', WHERE WHAT IT READS IS OF BULK AT MOST 1048576: true; the input reads as it did. -/
def keyeqFitsUptoRow : OpenClaim := { program := "ytoofmblmbgdeeaa", sum := "0fe48c4bc16be25da9bc3fdb2bd9a516b5f8f53ac7707b4ffdb752f3097127c6", func := "aumbry/aumbrylaw09.KeyeqFits", spec := "keyeqFits", unfollowed := true, recurses := true, apart := false, narrowed := true }
def KeyeqFitsUptoSaid : Prop := keyeqFitsUptoRow.holds Try.pinned (OpenSpec.upto keyeqFitsSpec)

/-- 'aumbrylaw09.KeyeqNil', WHERE WHAT IT READS IS OF BULK AT MOST 1048576: true; the input reads as it did. -/
def keyeqNilUptoRow : OpenClaim := { program := "ytoofmblmbgdeeaa", sum := "0fe48c4bc16be25da9bc3fdb2bd9a516b5f8f53ac7707b4ffdb752f3097127c6", func := "aumbry/aumbrylaw09.KeyeqNil", spec := "keyeqNil", unfollowed := true, recurses := true, apart := false, narrowed := true }
def KeyeqNilUptoSaid : Prop := keyeqNilUptoRow.holds Try.pinned (OpenSpec.upto keyeqNilSpec)

/-- 'aumbrylaw09.KeyeqScales', WHERE WHAT IT READS IS OF BULK AT MOST 1048576: true; the input reads as it did. -/
def keyeqScalesUptoRow : OpenClaim := { program := "ytoofmblmbgdeeaa", sum := "0fe48c4bc16be25da9bc3fdb2bd9a516b5f8f53ac7707b4ffdb752f3097127c6", func := "aumbry/aumbrylaw09.KeyeqScales", spec := "keyeqScales", unfollowed := true, recurses := true, apart := false, narrowed := true }
def KeyeqScalesUptoSaid : Prop := keyeqScalesUptoRow.holds Try.pinned (OpenSpec.upto keyeqScalesSpec)

/-- 'aumbrylaw09.KeyeqRoots', WHERE WHAT IT READS IS OF BULK AT MOST 1048576: true; the input reads as it did. -/
def keyeqRootsUptoRow : OpenClaim := { program := "ytoofmblmbgdeeaa", sum := "0fe48c4bc16be25da9bc3fdb2bd9a516b5f8f53ac7707b4ffdb752f3097127c6", func := "aumbry/aumbrylaw09.KeyeqRoots", spec := "keyeqRoots", unfollowed := true, recurses := true, apart := false, narrowed := true }
def KeyeqRootsUptoSaid : Prop := keyeqRootsUptoRow.holds Try.pinned (OpenSpec.upto keyeqRootsSpec)

/-- 'aumbrylaw09.KeyeqFinds', WHERE WHAT IT READS IS OF BULK AT MOST 1048576: true; the input reads as it did. -/
def keyeqFindsUptoRow : OpenClaim := { program := "ytoofmblmbgdeeaa", sum := "0fe48c4bc16be25da9bc3fdb2bd9a516b5f8f53ac7707b4ffdb752f3097127c6", func := "aumbry/aumbrylaw09.KeyeqFinds", spec := "keyeqFinds", unfollowed := true, recurses := true, apart := false, narrowed := true }
def KeyeqFindsUptoSaid : Prop := keyeqFindsUptoRow.holds Try.pinned (OpenSpec.upto keyeqFindsSpec)

end Rows
end Go.Proofs.Ytoofmblmbgdeeaa
