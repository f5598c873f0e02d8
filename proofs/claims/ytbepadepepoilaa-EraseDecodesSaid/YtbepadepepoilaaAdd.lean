/- aumbrylaw06.added and times, walked. -/
import Derived.Test.YtbepadepepoilaaLaw06
namespace Go.Proofs.Ytbepadepepoilaa
open Go.RowKit
set_option linter.unusedVariables false
set_option linter.unusedSimpArgs false
def addE (lb : List (List F)) : Nat → Nat → F → F := fun i x v => v + (lb.getD i []).getD x 0
/-- sums, place by place -/
def addL (la lb : List (List F)) : List (List F) := mapR (addE lb) la
def mulE (y : F) : Nat → Nat → F → F := fun _ _ v => v * y
/-- multiples -/
def mulL (la : List (List F)) (y : F) : List (List F) := mapR (mulE y) la
theorem getD_over {l : List F} {x : Nat} (h : l.length ≤ x) : l.getD x 0 = 0 := by rw [List.getD_eq_getElem?_getD, List.getElem?_eq_none h]; rfl
theorem getD_over' {ls : List (List F)} {x : Nat} (h : ls.length ≤ x) : ls.getD x [] = [] := by rw [List.getD_eq_getElem?_getD, List.getElem?_eq_none h]; rfl
theorem Rr.unpack {w : World} {A : Option Addr} {c : Nat} {ls : List (List F)} (h : Rr w A c ls) : ∃ vs, Sl w A c vs ∧ Bss w vs ls := h.ex
end Go.Proofs.Ytbepadepepoilaa
