/- 'aumbrylaw03.MatrixSums': whatever the input: the call returns true, and each argument reads behind the call as it read before. No condition. -/
import Derived.Test.YtmkjplpnoohfnaaRows
import Derived.Test.YtmkjplpnoohfnaaLaw03e
import Derived.Test.YtmkjplpnoohfnaaHead
import Derived.Test.YtmkjplpnoohfnaaOpen
import Derived.ProofKit
import Derived.OpenShut
import Derived.ShutString
import Derived.ChangeOld
namespace Go.Proofs.Ytmkjplpnoohfnaa.lawMatrixSums
open Go.ChangeShapes Go.WideShapes Go.ChangeAt Go.RowKit
set_option linter.unusedVariables false
theorem own : ownKnob Try.prog.godebug = none := by kernel_rfl
theorem laidOut : laidOutB Try.prog = true := by kernel_rfl
set_option maxRecDepth 100000 in
theorem lifted (os : Os) (started : os.Started) (H : Type) (enc : TypeId × Value → H) :
    ReturnsInHanded {} Try.checked os 19 .any (Rows.matrixSumsSpec.pre6 enc Try.prog Try.f19 Rows.matrixSumsRow.domain false) (Rows.matrixSumsSpec.post enc Try.prog Try.f19 false true false false) := by
  refine returnsInHanded_of_change (C := Try.checked) own started (by kernel_rfl) Try.func19
    (ChangeSpec.witness6 (enc := enc) (C := Try.checked) false ⟨#[], #[.agg #[.int .i64 0, .int .i64 0, .slice none 0 0], .agg #[.int .i64 0, .int .i64 0, .slice none 0 0], .agg #[.int .i64 0, .int .i64 0, .slice none 0 0]], []⟩ 8 (by kernel_rfl) (by kernel_rfl) (by kernel_rfl) (by kernel_rfl)) ?_
  intro W base args ds gs before hval0 hW hcnd  _
  have hval : ∀ (j : Nat) t v, Try.f19.params[j]? = some t → args[j]? = some v → Value.okWide Try.prog W .any base t v := hval0
  have hW' := hW
  obtain ⟨p, q, hA0, hV, rfl, hfz, hnd⟩ := hW
  have hA : DataW.TrodAll enc Try.prog W 0 (fun _ => true) true Try.f19.params.toList args.toList ds p := hA0
  rw [Try.params19] at hA hval
  obtain ⟨v0, vs0, d0, ds0, p0, q0, hargs, rfl, rfl, h0, r_0⟩ := trodAll_cons hA
  obtain ⟨v1, vs1, d1, ds1, p1, q1, rfl, rfl, rfl, h1, r_1⟩ := trodAll_cons r_0
  obtain ⟨v2, vs2, d2, ds2, p2, q2, rfl, rfl, rfl, h2, r_2⟩ := trodAll_cons r_1
  obtain ⟨rfl, rfl, rfl⟩ := trodAll_nil r_2
  obtain rfl : args = #[v0, v1, v2] := by cases args; simp_all
  obtain ⟨rfl, rfl⟩ := trodVars_none hV
  have k0 := h0
  have lt0 : ∀ x ∈ p0, x.block < W.heap.size := by obtain ⟨m, hm⟩ := k0; exact DataW.trod_lt m _ _ _ hm
  obtain ⟨R0, C0, A0, c0, l0, rfl, hR0, hC0, r0⟩ := open_matrix Try.underlying30 (by kernel_rfl) (by kernel_rfl) Try.underlying3 Try.underlying3 Try.underlying28 Try.underlying5 (by kernel_rfl) (hval 0 30 v0 rfl rfl) h0
  have k1 := h1
  have lt1 : ∀ x ∈ p1, x.block < W.heap.size := by obtain ⟨m, hm⟩ := k1; exact DataW.trod_lt m _ _ _ hm
  obtain ⟨R1, C1, A1, c1, l1, rfl, hR1, hC1, r1⟩ := open_matrix Try.underlying30 (by kernel_rfl) (by kernel_rfl) Try.underlying3 Try.underlying3 Try.underlying28 Try.underlying5 (by kernel_rfl) (hval 1 30 v1 rfl rfl) h1
  have k2 := h2
  have lt2 : ∀ x ∈ p2, x.block < W.heap.size := by obtain ⟨m, hm⟩ := k2; exact DataW.trod_lt m _ _ _ hm
  obtain ⟨R2, C2, A2, c2, l2, rfl, hR2, hC2, r2⟩ := open_matrix Try.underlying30 (by kernel_rfl) (by kernel_rfl) Try.underlying3 Try.underlying3 Try.underlying28 Try.underlying5 (by kernel_rfl) (hval 2 30 v2 rfl rfl) h2
  clear hA0 hval0
  refine (walk_MatrixSums (w := W) R0 hR0 C0 hC0 A0 c0 l0 r0 R1 hR1 C1 hC1 A1 c1 l1 r1 R2 hR2 C2 hC2 A2 c2 l2 r2).mono fun e W' ⟨he, bel⟩ => ?_
  subst he
  exact ⟨_, rfl, _, _, _, [], _, [], hW', trodAll_mk1 (shut_bool Try.underlying4 _), (trodAll_cons_mk (Below.trod laidOut (by kernel_rfl) (of_decide_eq_true (by kernel_rfl)) k0 bel lt0) (trodAll_cons_mk (Below.trod laidOut (by kernel_rfl) (of_decide_eq_true (by kernel_rfl)) k1 bel lt1) (trodAll_cons_mk (Below.trod laidOut (by kernel_rfl) (of_decide_eq_true (by kernel_rfl)) k2 bel lt2) trodAll_mk0))), rfl, bel.frame _, fun h => by cases h⟩
theorem closed : joinedFacts Try.prog 19 Try.f19 Rows.matrixSumsSpec Rows.matrixSumsRow = true := by
  unfold joinedFacts
  rw [may_enter, lifts_final, made]
  kernel_rfl
theorem over : Rows.matrixSumsRow.holds Try.pinned (OpenSpec.ofChange Rows.matrixSumsSpec) :=
  OpenClaim.holds_of_wide 19 Try.f19 rfl rfl rfl rfl rfl rfl rfl ⟨rfl, rfl, rfl, rfl, rfl⟩ rfl rfl rfl rfl rfl (by kernel_rfl) Try.func19 closed
    (of_decide_eq_true (by kernel_rfl)) (by unfold Func.isWrapper; first | (rw [if_pos (by decide +kernel)]; kernel_rfl) | (rw [if_neg (by decide +kernel)]; exact ⟨rfl, rfl⟩))
    (fun os started H enc _ => lifted os started H enc)
/-- the statement -/
theorem proved : Rows.MatrixSumsSaid := over
#print axioms proved
end Go.Proofs.Ytmkjplpnoohfnaa.lawMatrixSums
