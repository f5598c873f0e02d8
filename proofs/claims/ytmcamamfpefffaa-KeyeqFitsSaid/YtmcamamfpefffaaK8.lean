/- Steps of a region that draws its order: make, alloc, a call, each from a world of which only a bound is known. -/
import Derived.Test.YtmcamamfpefffaaK7
namespace Go.Proofs.Ytmcamamfpefffaa
open Go.RowKit
set_option linter.unusedVariables false
set_option linter.unusedSimpArgs false
section
variable {ops : Array Oper} {o : Oper} {a : Act} {w : World} {K : Act → World → Prop} {Q : Exit → Act → World → Prop} {E : Prop}
theorem step_make9 (hgd : o.guard = none) (l c : Operand) (hop : o.op = Op.makeSlice 23 l c) (kl kc : IntKind) (L C : Int) (N B : Nat) (hl : a.eval l = .int kl L) (hc : a.eval c = .int kc C) (hL : L = (N : Int)) (hC : C = (N : Int)) (hN : N ≤ 140737488351232) (hB : B ≤ w.heap.size)
    (h : ∀ g w', w.heap.size ≤ g → w'.ownsRow B 5 1 (.slice (some ⟨g, 0, none⟩) N N) N ((List.replicate N (0 : F)).map bv) → Below w.heap.size w w' → K (a.put o.dst (.slice (some ⟨g, 0, none⟩) N N)) w') :
    if Region.wanted o (yielded ops a.tmps) = true then Oper.wp Try.prog o a w K Q else E := by
  have hw : Region.wanted o (yielded ops a.tmps) = true := by simp [Region.wanted, hgd]
  rw [if_pos hw]
  obtain ⟨i0, hi0, hz0, hz1, hz2⟩ := info_parts info_byte
  obtain ⟨w', hrun, r1, r2⟩ := run_make_full (P := Try.prog) w w.heap.size 23 5 i0 _ 1 Try.underlying23 hi0 hz0 hz1 kl kc N (by rw [hz2]; omega) (by unfold maxLen; omega) (Nat.le_refl _)
  subst hL
  subst hC
  unfold Oper.wp
  simp [execOp, hop, hl, hc, hrun, Result.andThen]
  exact h _ w' (Nat.le_refl _) (own_mono (zeros_own r1) hB) ((Below.refl _ _).grown r2 (Nat.le_refl _) (by simp))
theorem step_alloc9 (hgd : o.guard = none) (hop : o.op = Op.alloc 23) (B : Nat) (hB : B ≤ w.heap.size)
    (h : ∀ q w', B ≤ q → w.heap.size ≤ q → Blk w' q 23 #[.slice none 0 0] → Below w.heap.size w w' → K (a.put o.dst (.pointer (some ⟨q, 0, none⟩))) w') :
    if Region.wanted o (yielded ops a.tmps) = true then Oper.wp Try.prog o a w K Q else E := by
  have hw : Region.wanted o (yielded ops a.tmps) = true := by simp [Region.wanted, hgd]
  rw [if_pos hw]
  have h1 := h w.heap.size (w.alloc (.cells #[.slice none 0 0] 23)) hB (Nat.le_refl _) (Blk.new w #[.slice none 0 0] 23) (below_alloc _ _)
  obtain ⟨i0, hi0, hz0, hz1, hz2⟩ := info_parts info_row
  unfold Oper.wp
  simp [execOp, hop, zeroValue, hi0, hz0, Result.andThen]
  exact h1
theorem step_norm9 (hgd : o.guard = none) (x : Operand) (v : Value) (n : Nat) (R : Option Addr → Nat → World → Prop) (hop : o.op = .call { callee := .value (.func 17), args := #[x], argTypes := #[23] }) (hx : a.eval x = v)
    (hc : Calls Try.prog 17 #[v] w fun ed w' => ∃ A c, ed = .returned (.slice A n c) ∧ R A c w')
    (h : ∀ A c w', R A c w' → K (a.put o.dst (.slice A n c)) w') :
    if Region.wanted o (yielded ops a.tmps) = true then Oper.wp Try.prog o a w K Q else E := by
  have hw : Region.wanted o (yielded ops a.tmps) = true := by simp [Region.wanted, hgd]
  rw [if_pos hw]
  unfold Oper.wp
  simp [execOp, hop, resolve, invoke, hx, Result.andThen]
  go_simp
  refine Calls.mono hc ?_
  rintro ed w' ⟨A, c, rfl, hr⟩
  exact h A c w' hr
end
end Go.Proofs.Ytmcamamfpefffaa
