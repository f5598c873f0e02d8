/- Where shards may not be, or a word does not fit: syndrome and aumbryref08. -/
import Derived.Test.YtmkjplpnoohfnaaSynR
namespace Go.Proofs.Ytmkjplpnoohfnaa
open Go.RowKit
set_option linter.unusedVariables false
abbrev i64ok' (x : Int) : Prop := -9223372036854775808 ≤ x ∧ x ≤ 9223372036854775807
theorem syn_weights_bad (b : Nat) (k m : Int) (hk : i64ok' k) (hm : i64ok' m) (h : ¬ okkm k m) (w : World) :
    Calls Try.prog 50 #[fp b, .int .i64 k, .int .i64 m] w fun e w' => e = .returned (.tuple #[.slice none 0 0, .int .i64 50]) ∧ Below w.heap.size w w' := by
  have CK : Hid (∀ w, Calls Try.prog 38 #[.int .i64 k, .int .i64 m] w fun e w' => e = .returned (.int .i64 50) ∧ w = w') := fun w => cauchy_check_bad k m hk hm h w
  have HW := Lib.hid (below3 w (.cells #[fp b] 23) (.cells #[.int .i64 k] 3) (.cells #[.int .i64 m] 3))
  clear h
  go_enter Try.func50, Try.ntmps50
  go_wp2_with (go_at_call 38; (with_reducible refine (CK.out _).mono ?_); rintro e w1 ⟨rfl, rfl⟩)
  go_ret2
  exact ⟨rfl, HW.out⟩
theorem syn_of_bad (b : Nat) (k m : Int) (A : Option Addr) (n c : Nat) (hk : i64ok' k) (hm : i64ok' m) (h : ¬ okkm k m) (w : World) :
    Calls Try.prog 52 #[fp b, .int .i64 k, .int .i64 m, .slice A n c] w fun e w' => e = .returned (.tuple #[.slice none 0 0, .int .i64 50]) ∧ Below w.heap.size w w' := by
  have WE := Lib.hid (syn_weights_bad b k m hk hm h w)
  clear h
  go_enter Try.func52, Try.ntmps52
  go_wp2_with (go_at_call 50; (with_reducible refine WE.out.mono ?_); rintro e w1 ⟨rfl, hb⟩; have HB := Lib.hid hb; clear hb)
  go_ret2
  exact ⟨rfl, HB.out⟩
theorem syn_of_len (b k m : Nat) (A : Option Addr) (n c : Nat) (hkm : okkm k m) (hn : n ≤ maxLen) (h : n ≠ k + m) (w : World) (hg : GfAt w b) :
    Calls Try.prog 52 #[fp b, .int .i64 k, .int .i64 m, .slice A n c] w fun e w' => e = .returned (.tuple #[.slice none 0 0, .int .i64 60]) ∧ Below w.heap.size w w' := by
  have WE := Lib.hid (syn_weights b k m hkm w hg)
  unfold maxLen at hn
  obtain ⟨k1, k2, k3⟩ := hkm
  have e1 : ((n : Int) == (k : Int) + (m : Int)) = false := by rw [beq_eq_false_iff_ne]; omega
  have e2 : ((n : Int) != (k : Int) + (m : Int)) = true := by rw [bne_iff_ne]; omega
  clear h hg
  go_enter Try.func52, Try.ntmps52
  go_wp2_with (go_at_call 50; (with_reducible refine WE.out.mono ?_); rintro e w1 ⟨A1, c1, rfl, ho, hb⟩; have HB := Lib.hid hb; clear hb ho)
  go_ret2
  exact ⟨rfl, HB.out⟩
theorem ref08_weights_bad (k m : Int) (hk : i64ok' k) (hm : i64ok' m) (h : ¬ okkm k m) (w : World) :
    Calls Try.prog 51 #[.int .i64 k, .int .i64 m] w fun e w' => e = .returned (.tuple #[.slice none 0 0, .int .i64 50]) ∧ Below w.heap.size w w' := by
  have CK : Hid (∀ w, Calls Try.prog 39 #[.int .i64 k, .int .i64 m] w fun e w' => e = .returned (.int .i64 50) ∧ w = w') := fun w => ref05_check_bad k m hk hm h w
  clear h
  go_enter Try.func51, Try.ntmps51
  go_wp2_with (go_at_call 39; (with_reducible refine (CK.out _).mono ?_); rintro e w1 ⟨rfl, rfl⟩)
  go_ret2
  exact ⟨rfl, Below.refl _ _⟩
theorem ref08_of_bad (k m : Int) (A : Option Addr) (n c : Nat) (hk : i64ok' k) (hm : i64ok' m) (h : ¬ okkm k m) (w : World) :
    Calls Try.prog 53 #[.int .i64 k, .int .i64 m, .slice A n c] w fun e w' => e = .returned (.tuple #[.slice none 0 0, .int .i64 50]) ∧ Below w.heap.size w w' := by
  have WE := Lib.hid (ref08_weights_bad k m hk hm h w)
  clear h
  go_enter Try.func53, Try.ntmps53
  go_wp2_with (go_at_call 51; (with_reducible refine WE.out.mono ?_); rintro e w1 ⟨rfl, hb⟩; have HB := Lib.hid hb; clear hb)
  go_ret2
  exact ⟨rfl, HB.out⟩
theorem ref08_of_len (k m : Nat) (A : Option Addr) (n c : Nat) (hkm : okkm k m) (hn : n ≤ maxLen) (h : n ≠ k + m) (w : World) :
    Calls Try.prog 53 #[.int .i64 k, .int .i64 m, .slice A n c] w fun e w' => e = .returned (.tuple #[.slice none 0 0, .int .i64 60]) ∧ Below w.heap.size w w' := by
  have WE := Lib.hid (ref08_weights k m hkm w)
  unfold maxLen at hn
  obtain ⟨k1, k2, k3⟩ := hkm
  have e1 : ((n : Int) == (k : Int) + (m : Int)) = false := by rw [beq_eq_false_iff_ne]; omega
  have e2 : ((n : Int) != (k : Int) + (m : Int)) = true := by rw [bne_iff_ne]; omega
  clear h
  go_enter Try.func53, Try.ntmps53
  go_wp2_with (go_at_call 51; (with_reducible refine WE.out.mono ?_); rintro e w1 ⟨A1, c1, rfl, ho, hb⟩; have HB := Lib.hid hb; clear hb ho)
  go_ret2
  exact ⟨rfl, HB.out⟩
theorem few8_ok (k m : Int) (h : okkm k m) (h3 : k + m ≤ 30) (w : World) : Calls Try.prog 49 #[.int .i64 k, .int .i64 m] w fun e w' => e = .returned (.bool true) ∧ w = w' := by
  have CK : Hid (∀ w, Calls Try.prog 38 #[.int .i64 k, .int .i64 m] w fun e w' => e = .returned (.int .i64 0) ∧ w = w') := fun w => cauchy_check_ok k m h w
  have e1 : decide (k + m ≤ 30) = true := decide_eq_true h3
  obtain ⟨h1, h2, h3⟩ := h
  go_enter Try.func49, Try.ntmps49
  go_wp2_with (go_at_call 38; (with_reducible refine (CK.out _).mono ?_); rintro e w1 ⟨rfl, rfl⟩)
  go_ret
  exact ⟨rfl, rfl⟩
theorem few8_big (k m : Int) (h : okkm k m) (h3 : ¬ k + m ≤ 30) (w : World) : Calls Try.prog 49 #[.int .i64 k, .int .i64 m] w fun e w' => e = .returned (.bool false) ∧ w = w' := by
  have CK : Hid (∀ w, Calls Try.prog 38 #[.int .i64 k, .int .i64 m] w fun e w' => e = .returned (.int .i64 0) ∧ w = w') := fun w => cauchy_check_ok k m h w
  have e1 : decide (k + m ≤ 30) = false := decide_eq_false h3
  obtain ⟨h1, h2, h3⟩ := h
  go_enter Try.func49, Try.ntmps49
  go_wp2_with (go_at_call 38; (with_reducible refine (CK.out _).mono ?_); rintro e w1 ⟨rfl, rfl⟩)
  go_ret
  exact ⟨rfl, rfl⟩
theorem few8_bad (k m : Int) (hk : i64ok' k) (hm : i64ok' m) (h : ¬ okkm k m) (w : World) : Calls Try.prog 49 #[.int .i64 k, .int .i64 m] w fun e w' => e = .returned (.bool true) ∧ w = w' := by
  have CK : Hid (∀ w, Calls Try.prog 38 #[.int .i64 k, .int .i64 m] w fun e w' => e = .returned (.int .i64 50) ∧ w = w') := fun w => cauchy_check_bad k m hk hm h w
  clear h
  go_enter Try.func49, Try.ntmps49
  go_wp2_with (go_at_call 38; (with_reducible refine (CK.out _).mono ?_); rintro e w1 ⟨rfl, rfl⟩)
  go_ret
  exact ⟨rfl, rfl⟩
end Go.Proofs.Ytmkjplpnoohfnaa
