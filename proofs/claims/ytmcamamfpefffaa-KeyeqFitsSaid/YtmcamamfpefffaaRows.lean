/-
  No cell of these rows narrows 'for every input' (looked for: loops, veiled, ifaces, maps, wideKeys, modest, calm, conditions, laid).
  DERIVED. THE GIVEN ROWS OF THIS SEAT. 7 by the template 'for every input the law returns true; each argument reads behind the call as it read before'; 0 by the template 'total and deterministic' (their statements: YtmcamamfpefffaaTotals.lean).
  GIVEN WITH THE SEED: the statements are not yours to turn. If you find one false, say at which input.
  Laid BY PROGRAM, IN A SANDBOX (cutbox-rows.mjs): the forced cells as the released guide's own fill.sh prints them over the translation cc702093ff395cf7… (all of the seat's roots in one cut). By AI agents, Wed Nov 11 2026. No macro, syntax, notation, axiom, sorry.
-/
import Derived.Test.YtmcamamfpefffaaChecked
import GoSem.Claim
import GoSem.ClaimJoined
import GoSem.ClaimMapViews
import Derived.JoinedTies
import Derived.KernelRfl
namespace Go.Proofs.Ytmcamamfpefffaa
/- THE CELL 'sum', in the pinned program and in every row, IS THE sha256 OF THE DUMP (.gsa) THAT YtmcamamfpefffaaProg.lean LOADS. Nothing in Lean hashes anything: it is a label: what it is worth is what the hold of that sum in a sandbox is worth. -/
noncomputable def Try.pinned : Pinned := { name := "ytmcamamfpefffaa", sum := "cc702093ff395cf71f1ccdc67a596ff83f96f8927d948fc4c7cda7534bdc2c2c", checked := Try.checked }
namespace Rows
def none {H : Type} : Left H := { results := [], args := [] }

/-- 'aumbrylaw09.KeyeqNames': WHATEVER THE INPUT: true; the input reads as it did. -/
def keyeqNamesSpec : ChangeSpec := { name := "keyeqNames", fn := fun _ => fun
  | [] => { results := [.lit (.bool true)], args := [] }
  | _ => none }
def keyeqNamesRow : OpenClaim := { program := "ytmcamamfpefffaa", sum := "cc702093ff395cf71f1ccdc67a596ff83f96f8927d948fc4c7cda7534bdc2c2c", func := "aumbry/aumbrylaw09.KeyeqNames", spec := "keyeqNames", unfollowed := true, recurses := true, apart := false }
def KeyeqNamesSaid : Prop := keyeqNamesRow.holds Try.pinned (OpenSpec.ofChange keyeqNamesSpec)

/-- ITS FALSE NEIGHBOUR: 'it returns false'. Refute it at one input. -/
def keyeqNamesWrong : ChangeSpec := { name := "keyeqNames", fn := fun _ => fun
  | [] => { results := [.lit (.bool false)], args := [] }
  | _ => none }
def KeyeqNamesWrongFalsely : Prop := keyeqNamesRow.holds Try.pinned (OpenSpec.ofChange keyeqNamesWrong)

/-- 'aumbrylaw09.KeyeqSolves': WHATEVER THE INPUT: true; the input reads as it did. -/
def keyeqSolvesSpec : ChangeSpec := { name := "keyeqSolves", fn := fun _ => fun
  | [d1, d2, d3] => { results := [.lit (.bool true)], args := [d1, d2, d3] }
  | _ => none }
def keyeqSolvesRow : OpenClaim := { program := "ytmcamamfpefffaa", sum := "cc702093ff395cf71f1ccdc67a596ff83f96f8927d948fc4c7cda7534bdc2c2c", func := "aumbry/aumbrylaw09.KeyeqSolves", spec := "keyeqSolves", unfollowed := true, recurses := true, apart := false }
def KeyeqSolvesSaid : Prop := keyeqSolvesRow.holds Try.pinned (OpenSpec.ofChange keyeqSolvesSpec)

/-- ITS FALSE NEIGHBOUR: 'it returns false'. Refute it at one input. -/
def keyeqSolvesWrong : ChangeSpec := { name := "keyeqSolves", fn := fun _ => fun
  | [d1, d2, d3] => { results := [.lit (.bool false)], args := [d1, d2, d3] }
  | _ => none }
def KeyeqSolvesWrongFalsely : Prop := keyeqSolvesRow.holds Try.pinned (OpenSpec.ofChange keyeqSolvesWrong)

/-- 'aumbrylaw09.KeyeqFits': WHATEVER THE INPUT: true; the input reads as it did. -/
def keyeqFitsSpec : ChangeSpec := { name := "keyeqFits", fn := fun _ => fun
  | [d1, d2] => { results := [.lit (.bool true)], args := [d1, d2] }
  | _ => none }
def keyeqFitsRow : OpenClaim := { program := "ytmcamamfpefffaa", sum := "cc702093ff395cf71f1ccdc67a596ff83f96f8927d948fc4c7cda7534bdc2c2c", func := "aumbry/aumbrylaw09.KeyeqFits", spec := "keyeqFits", unfollowed := true, recurses := true, apart := false }
def KeyeqFitsSaid : Prop := keyeqFitsRow.holds Try.pinned (OpenSpec.ofChange keyeqFitsSpec)

/-- ITS FALSE NEIGHBOUR: 'it returns false'. Refute it at one input. -/
def keyeqFitsWrong : ChangeSpec := { name := "keyeqFits", fn := fun _ => fun
  | [d1, d2] => { results := [.lit (.bool false)], args := [d1, d2] }
  | _ => none }
def KeyeqFitsWrongFalsely : Prop := keyeqFitsRow.holds Try.pinned (OpenSpec.ofChange keyeqFitsWrong)

/-- 'aumbrylaw09.KeyeqNil': WHATEVER THE INPUT: true; the input reads as it did. -/
def keyeqNilSpec : ChangeSpec := { name := "keyeqNil", fn := fun _ => fun
  | [d1, d2] => { results := [.lit (.bool true)], args := [d1, d2] }
  | _ => none }
def keyeqNilRow : OpenClaim := { program := "ytmcamamfpefffaa", sum := "cc702093ff395cf71f1ccdc67a596ff83f96f8927d948fc4c7cda7534bdc2c2c", func := "aumbry/aumbrylaw09.KeyeqNil", spec := "keyeqNil", unfollowed := true, recurses := true, apart := false }
def KeyeqNilSaid : Prop := keyeqNilRow.holds Try.pinned (OpenSpec.ofChange keyeqNilSpec)

/-- ITS FALSE NEIGHBOUR: 'it returns false'. Refute it at one input. -/
def keyeqNilWrong : ChangeSpec := { name := "keyeqNil", fn := fun _ => fun
  | [d1, d2] => { results := [.lit (.bool false)], args := [d1, d2] }
  | _ => none }
def KeyeqNilWrongFalsely : Prop := keyeqNilRow.holds Try.pinned (OpenSpec.ofChange keyeqNilWrong)

/-- 'aumbrylaw09.KeyeqScales': WHATEVER THE INPUT: true; the input reads as it did. -/
def keyeqScalesSpec : ChangeSpec := { name := "keyeqScales", fn := fun _ => fun
  | [d1, d2, d3] => { results := [.lit (.bool true)], args := [d1, d2, d3] }
  | _ => none }
def keyeqScalesRow : OpenClaim := { program := "ytmcamamfpefffaa", sum := "cc702093ff395cf71f1ccdc67a596ff83f96f8927d948fc4c7cda7534bdc2c2c", func := "aumbry/aumbrylaw09.KeyeqScales", spec := "keyeqScales", unfollowed := true, recurses := true, apart := false }
def KeyeqScalesSaid : Prop := keyeqScalesRow.holds Try.pinned (OpenSpec.ofChange keyeqScalesSpec)

/-- ITS FALSE NEIGHBOUR: 'it returns false'. Refute it at one input. -/
def keyeqScalesWrong : ChangeSpec := { name := "keyeqScales", fn := fun _ => fun
  | [d1, d2, d3] => { results := [.lit (.bool false)], args := [d1, d2, d3] }
  | _ => none }
def KeyeqScalesWrongFalsely : Prop := keyeqScalesRow.holds Try.pinned (OpenSpec.ofChange keyeqScalesWrong)

/-- 'aumbrylaw09.KeyeqRoots': WHATEVER THE INPUT: true; the input reads as it did. -/
def keyeqRootsSpec : ChangeSpec := { name := "keyeqRoots", fn := fun _ => fun
  | [d1, d2] => { results := [.lit (.bool true)], args := [d1, d2] }
  | _ => none }
def keyeqRootsRow : OpenClaim := { program := "ytmcamamfpefffaa", sum := "cc702093ff395cf71f1ccdc67a596ff83f96f8927d948fc4c7cda7534bdc2c2c", func := "aumbry/aumbrylaw09.KeyeqRoots", spec := "keyeqRoots", unfollowed := true, recurses := true, apart := false }
def KeyeqRootsSaid : Prop := keyeqRootsRow.holds Try.pinned (OpenSpec.ofChange keyeqRootsSpec)

/-- ITS FALSE NEIGHBOUR: 'it returns false'. Refute it at one input. -/
def keyeqRootsWrong : ChangeSpec := { name := "keyeqRoots", fn := fun _ => fun
  | [d1, d2] => { results := [.lit (.bool false)], args := [d1, d2] }
  | _ => none }
def KeyeqRootsWrongFalsely : Prop := keyeqRootsRow.holds Try.pinned (OpenSpec.ofChange keyeqRootsWrong)

/-- 'aumbrylaw09.KeyeqFinds': WHATEVER THE INPUT: true; the input reads as it did. -/
def keyeqFindsSpec : ChangeSpec := { name := "keyeqFinds", fn := fun _ => fun
  | [d1, d2, d3, d4, d5] => { results := [.lit (.bool true)], args := [d1, d2, d3, d4, d5] }
  | _ => none }
def keyeqFindsRow : OpenClaim := { program := "ytmcamamfpefffaa", sum := "cc702093ff395cf71f1ccdc67a596ff83f96f8927d948fc4c7cda7534bdc2c2c", func := "aumbry/aumbrylaw09.KeyeqFinds", spec := "keyeqFinds", unfollowed := true, recurses := true, apart := false }
def KeyeqFindsSaid : Prop := keyeqFindsRow.holds Try.pinned (OpenSpec.ofChange keyeqFindsSpec)

/-- ITS FALSE NEIGHBOUR: 'it returns false'. Refute it at one input. -/
def keyeqFindsWrong : ChangeSpec := { name := "keyeqFinds", fn := fun _ => fun
  | [d1, d2, d3, d4, d5] => { results := [.lit (.bool false)], args := [d1, d2, d3, d4, d5] }
  | _ => none }
def KeyeqFindsWrongFalsely : Prop := keyeqFindsRow.holds Try.pinned (OpenSpec.ofChange keyeqFindsWrong)

/- THE SECOND FORM. 'bulk': how many values and letters a reading holds, each counted each time it is reached (what is shared counts as often as it is met; a slice's spare places count too). A statement '..UptoSaid' is the law's where the arguments, and the package variables that the reading takes, are together of bulk at most 1048576: NARROWER than '..Said'. Prove '..Said' where nothing that the law and all that it calls make is longer than what came in: it says more and counts as full. Else prove '..UptoSaid'. A law counts once. -/
mutual
def uptoBulk {H : Type} : DataW H → Nat
  | .lit (.string bytes) => bytes.length + 1
  | .lit _ => 1
  | .nil => 1
  | .ptr d => uptoBulk d + 1
  | .slice elems spare => uptoBulkAll elems + uptoBulkAll spare + 1
  | .agg parts => uptoBulkAll parts + 1
  | .iface _ d => uptoBulk d + 1
  | .map entries => uptoBulkEntries entries + 1
  | .held _ => 1
def uptoBulkAll {H : Type} : List (DataW H) → Nat
  | [] => 0
  | d :: r => uptoBulk d + uptoBulkAll r
def uptoBulkEntries {H : Type} : List (Lit × DataW H) → Nat
  | [] => 0
  | x :: r => uptoBulkEntry x + uptoBulkEntries r
def uptoBulkEntry {H : Type} : Lit × DataW H → Nat
  | (.string bytes, d) => bytes.length + uptoBulk d + 1
  | (_, d) => uptoBulk d + 1
 end
def uptoSmall : (H : Type) → List (DataW H) → Bool := fun _ ds => decide (uptoBulkAll ds ≤ 1048576)
def OpenSpec.upto (s : _root_.Go.ChangeSpec) : _root_.Go.OpenSpec := { _root_.Go.OpenSpec.ofChange s with cond := some uptoSmall }

/-- 'aumbrylaw09.KeyeqNames', WHERE WHAT IT READS IS OF BULK AT MOST 1048576: true; the input reads as it did. -/
def keyeqNamesUptoRow : OpenClaim := { program := "ytmcamamfpefffaa", sum := "cc702093ff395cf71f1ccdc67a596ff83f96f8927d948fc4c7cda7534bdc2c2c", func := "aumbry/aumbrylaw09.KeyeqNames", spec := "keyeqNames", unfollowed := true, recurses := true, apart := false, narrowed := true }
def KeyeqNamesUptoSaid : Prop := keyeqNamesUptoRow.holds Try.pinned (OpenSpec.upto keyeqNamesSpec)

/-- 'aumbrylaw09.KeyeqSolves', WHERE WHAT IT READS IS OF BULK AT MOST 1048576: true; the input reads as it did. -/
def keyeqSolvesUptoRow : OpenClaim := { program := "ytmcamamfpefffaa", sum := "cc702093ff395cf71f1ccdc67a596ff83f96f8927d948fc4c7cda7534bdc2c2c", func := "aumbry/aumbrylaw09.KeyeqSolves", spec := "keyeqSolves", unfollowed := true, recurses := true, apart := false, narrowed := true }
def KeyeqSolvesUptoSaid : Prop := keyeqSolvesUptoRow.holds Try.pinned (OpenSpec.upto keyeqSolvesSpec)

/-- 'aumbrylaw09.KeyeqFits', WHERE WHAT IT READS IS OF BULK AT MOST 1048576: true; the input reads as it did. -/
def keyeqFitsUptoRow : OpenClaim := { program := "ytmcamamfpefffaa", sum := "cc702093ff395cf71f1ccdc67a596ff83f96f8927d948fc4c7cda7534bdc2c2c", func := "aumbry/aumbrylaw09.KeyeqFits", spec := "keyeqFits", unfollowed := true, recurses := true, apart := false, narrowed := true }
def KeyeqFitsUptoSaid : Prop := keyeqFitsUptoRow.holds Try.pinned (OpenSpec.upto keyeqFitsSpec)

/-- 'aumbrylaw09.KeyeqNil', WHERE WHAT IT READS IS OF BULK AT MOST 1048576: true; the input reads as it did. -/
def keyeqNilUptoRow : OpenClaim := { program := "ytmcamamfpefffaa", sum := "cc702093ff395cf71f1ccdc67a596ff83f96f8927d948fc4c7cda7534bdc2c2c", func := "aumbry/aumbrylaw09.KeyeqNil", spec := "keyeqNil", unfollowed := true, recurses := true, apart := false, narrowed := true }
def KeyeqNilUptoSaid : Prop := keyeqNilUptoRow.holds Try.pinned (OpenSpec.upto keyeqNilSpec)

/-- 'aumbrylaw09.KeyeqScales', WHERE WHAT IT READS IS OF BULK AT MOST 1048576: true; the input reads as it did. -/
def keyeqScalesUptoRow : OpenClaim := { program := "ytmcamamfpefffaa", sum := "cc702093ff395cf71f1ccdc67a596ff83f96f8927d948fc4c7cda7534bdc2c2c", func := "aumbry/aumbrylaw09.KeyeqScales", spec := "keyeqScales", unfollowed := true, recurses := true, apart := false, narrowed := true }
def KeyeqScalesUptoSaid : Prop := keyeqScalesUptoRow.holds Try.pinned (OpenSpec.upto keyeqScalesSpec)

/-- 'aumbrylaw09.KeyeqRoots', WHERE WHAT IT READS IS OF BULK AT MOST 1048576: true; the input reads as it did. -/
def keyeqRootsUptoRow : OpenClaim := { program := "ytmcamamfpefffaa", sum := "cc702093ff395cf71f1ccdc67a596ff83f96f8927d948fc4c7cda7534bdc2c2c", func := "aumbry/aumbrylaw09.KeyeqRoots", spec := "keyeqRoots", unfollowed := true, recurses := true, apart := false, narrowed := true }
def KeyeqRootsUptoSaid : Prop := keyeqRootsUptoRow.holds Try.pinned (OpenSpec.upto keyeqRootsSpec)

/-- 'aumbrylaw09.KeyeqFinds', WHERE WHAT IT READS IS OF BULK AT MOST 1048576: true; the input reads as it did. -/
def keyeqFindsUptoRow : OpenClaim := { program := "ytmcamamfpefffaa", sum := "cc702093ff395cf71f1ccdc67a596ff83f96f8927d948fc4c7cda7534bdc2c2c", func := "aumbry/aumbrylaw09.KeyeqFinds", spec := "keyeqFinds", unfollowed := true, recurses := true, apart := false, narrowed := true }
def KeyeqFindsUptoSaid : Prop := keyeqFindsUptoRow.holds Try.pinned (OpenSpec.upto keyeqFindsSpec)

end Rows
end Go.Proofs.Ytmcamamfpefffaa
