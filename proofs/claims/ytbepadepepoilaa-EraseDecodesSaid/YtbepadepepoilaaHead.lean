/- Closed facts on the translation's head (which way it was made), reckoned from the head as a list of signs. -/
import Derived.Test.YtbepadepepoilaaRows
import Derived.KernelRfl
import Derived.JoinedOf
namespace Go.Proofs.Ytbepadepepoilaa
def headSigns : List Char := [Char.ofNat 104, Char.ofNat 97, Char.ofNat 114, Char.ofNat 110, Char.ofNat 101, Char.ofNat 115, Char.ofNat 115, Char.ofNat 32, Char.ofNat 99, Char.ofNat 102, Char.ofNat 51, Char.ofNat 56, Char.ofNat 48, Char.ofNat 52, Char.ofNat 97, Char.ofNat 55, Char.ofNat 55, Char.ofNat 102, Char.ofNat 52, Char.ofNat 56, Char.ofNat 53, Char.ofNat 98, Char.ofNat 49, Char.ofNat 52, Char.ofNat 53, Char.ofNat 54, Char.ofNat 53, Char.ofNat 102, Char.ofNat 100, Char.ofNat 102, Char.ofNat 53, Char.ofNat 55, Char.ofNat 55, Char.ofNat 102, Char.ofNat 49, Char.ofNat 48, Char.ofNat 56, Char.ofNat 56, Char.ofNat 51, Char.ofNat 52, Char.ofNat 53, Char.ofNat 49, Char.ofNat 54, Char.ofNat 48, Char.ofNat 51, Char.ofNat 101, Char.ofNat 54, Char.ofNat 49, Char.ofNat 54, Char.ofNat 100, Char.ofNat 52, Char.ofNat 99, Char.ofNat 53, Char.ofNat 100, Char.ofNat 54, Char.ofNat 56, Char.ofNat 50, Char.ofNat 100, Char.ofNat 97, Char.ofNat 49, Char.ofNat 53, Char.ofNat 54, Char.ofNat 55, Char.ofNat 102, Char.ofNat 102, Char.ofNat 56, Char.ofNat 54, Char.ofNat 98, Char.ofNat 55, Char.ofNat 99, Char.ofNat 101, Char.ofNat 98, Char.ofNat 32, Char.ofNat 99, Char.ofNat 117, Char.ofNat 116, Char.ofNat 32, Char.ofNat 97, Char.ofNat 116, Char.ofNat 32, Char.ofNat 97, Char.ofNat 117, Char.ofNat 109, Char.ofNat 98, Char.ofNat 114, Char.ofNat 121, Char.ofNat 47, Char.ofNat 97, Char.ofNat 117, Char.ofNat 109, Char.ofNat 98, Char.ofNat 114, Char.ofNat 121, Char.ofNat 108, Char.ofNat 97, Char.ofNat 119, Char.ofNat 48, Char.ofNat 51, Char.ofNat 46, Char.ofNat 77, Char.ofNat 97, Char.ofNat 116, Char.ofNat 114, Char.ofNat 105, Char.ofNat 120, Char.ofNat 84, Char.ofNat 101, Char.ofNat 108, Char.ofNat 108, Char.ofNat 115, Char.ofNat 32, Char.ofNat 97, Char.ofNat 117, Char.ofNat 109, Char.ofNat 98, Char.ofNat 114, Char.ofNat 121, Char.ofNat 47, Char.ofNat 97, Char.ofNat 117, Char.ofNat 109, Char.ofNat 98, Char.ofNat 114, Char.ofNat 121, Char.ofNat 108, Char.ofNat 97, Char.ofNat 119, Char.ofNat 48, Char.ofNat 55, Char.ofNat 46, Char.ofNat 69, Char.ofNat 114, Char.ofNat 97, Char.ofNat 115, Char.ofNat 101, Char.ofNat 68, Char.ofNat 101, Char.ofNat 99, Char.ofNat 111, Char.ofNat 100, Char.ofNat 101, Char.ofNat 115]
theorem head_is : Try.prog.initOrder = String.ofList headSigns := by kernel_rfl
theorem head_list : Try.prog.initOrder.toList = headSigns := by rw [head_is, String.toList_ofList]
def headWords : List (List Char) := behindMainWord (wordsSigns headSigns)
theorem head_words : headWords = "cut".toList :: headWords.tail := by kernel_rfl
theorem head_strip : stripLifts liftWords ("cut".toList :: headWords.tail) = ([], "cut".toList :: headWords.tail) := by kernel_rfl
/- over any program with this head: so that nothing reckons the head itself again -/
theorem may_enter_of (P : Program) (h : P.initOrder.toList = headSigns) (h1 : P.laysLater = false) (h2 : P.bearsReflect = false) (h3 : P.doorFits [] = true) : P.mayEnter = true := by
  unfold Program.mayEnter
  rw [h]
  have e : behindMainWord (wordsSigns headSigns) = "cut".toList :: headWords.tail := head_words
  rw [e]
  dsimp only
  rw [head_strip, h1, h2]
  dsimp only
  rw [h3]
  generalize headWords.tail = t
  simp
theorem head_lifts_of (P : Program) (h : P.initOrder.toList = headSigns) : P.headLifts = [] := by
  unfold Program.headLifts
  rw [h]
  have e : behindMainWord (wordsSigns headSigns) = "cut".toList :: headWords.tail := head_words
  rw [e, head_strip]
  simp
theorem lifts_final_of (P : Program) (h : P.initOrder.toList = headSigns) : P.liftsFinal = false := by
  unfold Program.liftsFinal
  rw [h, head_lifts_of P h]
  have e : behindMainWord (wordsSigns headSigns) = "cut".toList :: headWords.tail := head_words
  rw [e]
  simp
theorem made_of (P : Program) (h : P.initOrder.toList = headSigns) : P.make = some .cut := by
  unfold Program.make
  rw [h]
  have e : behindMainWord (wordsSigns headSigns) = "cut".toList :: headWords.tail := head_words
  rw [e]
  simp
theorem may_enter : Try.prog.mayEnter = true := may_enter_of _ head_list (by kernel_rfl) (by kernel_rfl) (by kernel_rfl)
theorem lifts_final : Try.prog.liftsFinal = false := lifts_final_of _ head_list
theorem made : Try.prog.make = some .cut := made_of _ head_list
end Go.Proofs.Ytbepadepepoilaa
