/- Package cauchy, and the document's answer for it (aumbryref05), walked. -/
import Derived.Test.YtbepadepepoilaaRef01
import Derived.Test.YtbepadepepoilaaApp
import Derived.Test.YtbepadepepoilaaRoots
import Derived.Deep.RegionLaw
namespace Go.Proofs.Ytbepadepepoilaa
open Go.RowKit
def okkm (k m : Int) : Prop := 1 ≤ k ∧ 0 ≤ m ∧ k + m ≤ 256
theorem cauchy_check_ok (k m : Int) (h : okkm k m) (w : World) : Calls Try.prog 36 #[.int .i64 k, .int .i64 m] w fun e w' => e = .returned (.int .i64 0) ∧ w = w' := by
  obtain ⟨h1, h2, h3⟩ := h
  have e1 : decide (k < 1) = false := decide_eq_false (by omega)
  have e2 : decide (m < 0) = false := decide_eq_false (by omega)
  have e3 : decide (256 < k) = false := decide_eq_false (by omega)
  have e4 : decide (256 - k < m) = false := decide_eq_false (by omega)
  go_enter Try.func36, Try.ntmps36
  go_wp2
  go_ret
  exact ⟨rfl, rfl⟩
theorem cauchy_check_bad (k m : Int) (hk : -9223372036854775808 ≤ k ∧ k ≤ 9223372036854775807) (hm : -9223372036854775808 ≤ m ∧ m ≤ 9223372036854775807) (h : ¬ okkm k m) (w : World) : Calls Try.prog 36 #[.int .i64 k, .int .i64 m] w fun e w' => e = .returned (.int .i64 50) ∧ w = w' := by
  by_cases c1 : k < 1
  · have e1 : decide (k < 1) = true := decide_eq_true c1
    go_enter Try.func36, Try.ntmps36
    go_wp2
    go_ret
    exact ⟨rfl, rfl⟩
  · have e1 : decide (k < 1) = false := decide_eq_false c1
    by_cases c2 : m < 0
    · have e2 : decide (m < 0) = true := decide_eq_true c2
      go_enter Try.func36, Try.ntmps36
      go_wp2
      go_ret
      exact ⟨rfl, rfl⟩
    · have e2 : decide (m < 0) = false := decide_eq_false c2
      by_cases c3 : 256 < k
      · have e3 : decide (256 < k) = true := decide_eq_true c3
        go_enter Try.func36, Try.ntmps36
        go_wp2
        go_ret
        exact ⟨rfl, rfl⟩
      · have e3 : decide (256 < k) = false := decide_eq_false c3
        have e4 : decide (256 - k < m) = true := decide_eq_true (by unfold okkm at h; omega)
        clear h
        go_enter Try.func36, Try.ntmps36
        go_wp2
        go_ret
        exact ⟨rfl, rfl⟩
theorem ref05_check_ok (k m : Int) (h : okkm k m) (w : World) : Calls Try.prog 53 #[.int .i64 k, .int .i64 m] w fun e w' => e = .returned (.int .i64 0) ∧ w = w' := by
  obtain ⟨h1, h2, h3⟩ := h
  have e1 : decide (k < 1) = false := decide_eq_false (by omega)
  have e2 : decide (m < 0) = false := decide_eq_false (by omega)
  have e3 : decide (256 < k) = false := decide_eq_false (by omega)
  have e5 : decide (256 < m) = false := decide_eq_false (by omega)
  have e4 : decide (256 < k + m) = false := decide_eq_false (by omega)
  go_enter Try.func53, Try.ntmps53
  go_wp2
  go_ret
  exact ⟨rfl, rfl⟩
theorem ref05_check_bad (k m : Int) (hk : -9223372036854775808 ≤ k ∧ k ≤ 9223372036854775807) (hm : -9223372036854775808 ≤ m ∧ m ≤ 9223372036854775807) (h : ¬ okkm k m) (w : World) : Calls Try.prog 53 #[.int .i64 k, .int .i64 m] w fun e w' => e = .returned (.int .i64 50) ∧ w = w' := by
  by_cases c1 : k < 1
  · have e1 : decide (k < 1) = true := decide_eq_true c1
    go_enter Try.func53, Try.ntmps53
    go_wp2
    go_ret
    exact ⟨rfl, rfl⟩
  · have e1 : decide (k < 1) = false := decide_eq_false c1
    by_cases c3 : 256 < k
    · have e3 : decide (256 < k) = true := decide_eq_true c3
      go_enter Try.func53, Try.ntmps53
      go_wp2
      go_ret
      exact ⟨rfl, rfl⟩
    · have e3 : decide (256 < k) = false := decide_eq_false c3
      by_cases c2 : m < 0
      · have e2 : decide (m < 0) = true := decide_eq_true c2
        go_enter Try.func53, Try.ntmps53
        go_wp2
        go_ret
        exact ⟨rfl, rfl⟩
      · have e2 : decide (m < 0) = false := decide_eq_false c2
        by_cases c4 : 256 < m
        · have e4 : decide (256 < m) = true := decide_eq_true c4
          go_enter Try.func53, Try.ntmps53
          go_wp2
          go_ret
          exact ⟨rfl, rfl⟩
        · have e4 : decide (256 < m) = false := decide_eq_false c4
          have e5 : decide (256 < k + m) = true := decide_eq_true (by unfold okkm at h; omega)
          clear h
          go_enter Try.func53, Try.ntmps53
          go_wp2
          go_ret
          exact ⟨rfl, rfl⟩
theorem of_xor (a b : Nat) (ha : a < 256) (hb : b < 256) : F.of (a ^^^ b) = F.of a + F.of b := F.ext (by rw [F.n_add, F.n_of ha, F.n_of hb, F.n_of (xor_lt ha hb)])
theorem cauchy_one (a b : Nat) (w : World) : Calls Try.prog 48 #[.int .i64 a, .int .i64 b] w fun e w' => e = .returned (.int .u8 (dlt a b).n) ∧ w = w' := by
  rw [dlt_n]
  by_cases h : a = b
  · rw [if_pos h]
    subst h
    go_enter Try.func48, Try.ntmps48
    go_wp2
    go_ret
    exact ⟨rfl, rfl⟩
  · rw [if_neg h]
    have e1 : ((a : Int) == (b : Int)) = false := by rw [beq_eq_false_iff_ne]; omega
    have e2 : (a == b) = false := by rw [beq_eq_false_iff_ne]; exact h
    clear h
    go_enter Try.func48, Try.ntmps48
    go_wp2
    go_ret
    exact ⟨rfl, rfl⟩
theorem ref05_same (a b : Int) (w : World) : Calls Try.prog 54 #[.int .i64 a, .int .i64 b] w fun e w' => e = .returned (.int .u8 (if a = b then 1 else 0)) ∧ w = w' := by
  by_cases h : a = b
  · rw [if_pos h]
    subst h
    go_enter Try.func54, Try.ntmps54
    go_wp2
    go_ret
    exact ⟨rfl, rfl⟩
  · rw [if_neg h]
    have e1 : (a == b) = false := by rw [beq_eq_false_iff_ne]; exact h
    clear h
    go_enter Try.func54, Try.ntmps54
    go_wp2
    go_ret
    exact ⟨rfl, rfl⟩
theorem cauchy_between (b : Nat) (x y : Nat) (hx : x < 256) (hy : y < 256) (w : World) (hg : GfAt w b) : Calls Try.prog 49 #[fp b, .int .i64 x, .int .i64 y] w fun e w' => e = .returned (.int .u8 (cau x y).n) ∧ ∃ n, w' = w.drewN n := by
  have hc := gf_inv b (F.of (x ^^^ y)) w hg
  rw [F.n_of (xor_lt hx hy), of_xor x y hx hy] at hc
  have e1 := i64_xor_nat x y (by omega) (by omega)
  have e2 : IntKind.u8.wrap ((x ^^^ y : Nat) : Int) = ((x ^^^ y : Nat) : Int) := wrapu8 _ (xor_lt hx hy)
  have HC := Lib.hid hc
  unfold cau
  clear hc
  unfold fp
  go_enter Try.func49, Try.ntmps49
  go_wp2_with (go_at_call 29; (with_reducible refine HC.out.mono ?_); rintro e w1 ⟨rfl, n, rfl⟩)
  all_goals (go_ret; exact ⟨rfl, n, rfl⟩)
theorem ref05_part (k i j : Nat) (hx : k + i < 256) (hy : j < 256) (w : World) : Calls Try.prog 55 #[.int .i64 k, .int .i64 i, .int .i64 j] w fun e w' => e = .returned (.int .u8 (cau (k + i) j).n) ∧ w = w' := by
  have hc := ref_inv (F.of (k + i) + F.of j) w
  have e1 := xor_n (F.of (k + i)) (F.of j)
  rw [F.n_of hx, F.n_of hy, Int.natCast_add] at e1
  have e2 : IntKind.u8.wrap (((k + i : Nat)) : Int) = ((k + i : Nat) : Int) := wrapu8 _ hx
  have e4 : IntKind.u8.wrap ((k : Int) + (i : Int)) = ((k + i : Nat) : Int) := by rw [← e2]; congr 1
  have e3 : IntKind.u8.wrap ((j : Nat) : Int) = ((j : Nat) : Int) := wrapu8 _ hy
  have HC := Lib.hid hc
  unfold cau
  clear hc e2
  go_enter Try.func55, Try.ntmps55
  go_wp2_with (go_at_call 45; (with_reducible refine HC.out.mono ?_); rintro e w1 ⟨rfl, rfl⟩)
  all_goals (go_ret; exact ⟨rfl, rfl⟩)
end Go.Proofs.Ytbepadepepoilaa
