/- bytes.Equal, slices.EqualFunc of lists of shards. -/
import Derived.Test.YtmkjplpnoohfnaaRowM
import Derived.Laws.BytesArg
import Derived.Lib.Bytes
namespace Go.Proofs.Ytmkjplpnoohfnaa
open Go.RowKit
set_option linter.unusedVariables false
set_option linter.unusedSimpArgs false
/-- bytes as a string -/
def strb (l : List F) : ByteArray := strOfNums (l.map fun x => (x.n : Int))
def byt (l : List F) : List UInt8 := l.map fun x => UInt8.ofNat x.n
theorem strb_toList (l : List F) : (strb l).toList = byt l := by
  unfold strb byt
  rw [Lib.strOfNums_toList]
  unfold Lib.bytesOf
  rw [List.map_map]
  rfl
theorem byt_inj : ∀ {l l' : List F}, byt l = byt l' → l = l'
  | [], [], _ => rfl
  | [], _ :: _, h => by simp [byt] at h
  | _ :: _, [], h => by simp [byt] at h
  | a :: l, a' :: l', h => by
    simp only [byt, List.map_cons, List.cons.injEq] at h
    have e : a.n = a'.n := by
      have := congrArg UInt8.toNat h.1
      have h1 := a.lt
      have h2 := a'.lt
      simp only [UInt8.toNat_ofNat'] at this
      omega
    rw [F.ext e, byt_inj h.2]
theorem convert_bs {w : World} {A : Option Addr} {n c : Nat} {l : List F} (h : Bs w A c l) (hn : l.length = n) : (convert 28 9 (.slice A n c)).run Try.prog w = .ok (.string (strb l)) w := by
  rcases Nat.eq_zero_or_pos n with h0 | h0
  · subst h0
    obtain rfl := List.eq_nil_of_length_eq_zero hn
    rw [run_convert_bytes_string w 28 9 5 A 0 c Try.underlying28 Try.underlying5 Try.underlying9]
    cases A <;> simp [Conv.bytesToString, loadCells]
    all_goals (try rfl)
  · obtain ⟨b, o, rfl, _, hc⟩ := Bs.at' h (by omega)
    refine run_convert_bytes_arg w 28 5 Try.underlying28 Try.underlying5 b o n c _ (by rw [List.length_map]; exact hn) (fun i hi => ?_) 9 Try.underlying9
    rw [hc i (by omega), List.getD_eq_getElem?_getD, List.getD_eq_getElem?_getD, List.getElem?_map, List.getElem?_eq_getElem (by omega)]
    rfl
set_option maxRecDepth 1000000 in
theorem bytes_equal_true (A : Option Addr) (n c : Nat) (A' : Option Addr) (c' : Nat) (l : List F) (w : World) (h : Bs w A c l) (h' : Bs w A' c' l) (hn : l.length = n) :
    Calls Try.prog 115 #[.slice A n c, .slice A' n c'] w fun e w' => e = .returned (.bool true) ∧ w = w' := by
  have e1 := convert_bs h hn
  have e2 := convert_bs h' hn
  clear h h' hn
  have e3 : ((strb l).toList == (strb l).toList) = true := by simp
  generalize strb l = s at *
  go_enter Try.func115, Try.ntmps115
  go_wp2
  go_ret
  exact ⟨rfl, rfl⟩
set_option maxRecDepth 1000000 in
theorem bytes_equal_false (A : Option Addr) (n c : Nat) (A' : Option Addr) (n' c' : Nat) (l l' : List F) (w : World) (h : Bs w A c l) (h' : Bs w A' c' l') (hn : l.length = n) (hn' : l'.length = n') (hne : l ≠ l') :
    Calls Try.prog 115 #[.slice A n c, .slice A' n' c'] w fun e w' => e = .returned (.bool false) ∧ w = w' := by
  have e1 := convert_bs h hn
  have e2 := convert_bs h' hn'
  have e3 : ((strb l).toList == (strb l').toList) = false := by
    rw [beq_eq_false_iff_ne, strb_toList, strb_toList]
    exact fun e => hne (byt_inj e)
  clear h h' hn hn' hne
  generalize strb l = s at *
  generalize strb l' = s' at *
  go_enter Try.func115, Try.ntmps115
  go_wp2
  go_ret
  exact ⟨rfl, rfl⟩
end Go.Proofs.Ytmkjplpnoohfnaa
