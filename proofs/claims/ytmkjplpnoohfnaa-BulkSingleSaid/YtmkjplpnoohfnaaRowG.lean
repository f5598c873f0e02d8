/- bulk.checked, where the numbers may not be. -/
import Derived.Test.YtmkjplpnoohfnaaRowF
namespace Go.Proofs.Ytmkjplpnoohfnaa
open Go.RowKit
set_option linter.unusedVariables false
set_option linter.unusedSimpArgs false
set_option maxRecDepth 1000000 in
theorem bulk_checked_bad (b : Nat) (k m N : Int) (A : Option Addr) (n c : Nat) (w : World) (hk : i64ok k) (hm : i64ok m) (hkm : ¬ okkm k m) :
    Calls Try.prog 109 #[fp b, .int .i64 k, .int .i64 m, .int .i64 N, .slice A n c] w fun e w' => e = .returned (.tuple #[noMat, .int .i64 50]) ∧ Below w.heap.size w w' := by
  have PA : Hid (∀ w, Calls Try.prog 41 #[fp b, .int .i64 k, .int .i64 m] w fun e w' => e = .returned (.tuple #[noMat, .int .i64 50]) ∧ Below w.heap.size w w') := fun w => cauchy_bad_Parity b k m hk hm hkm w
  clear hk hm hkm
  have K0 := Lib.hid (kn1 w 30 #[.int .i64 0, .int .i64 0, .slice none 0 0])
  have W0 := Lib.hid (below1 w (.cells #[.int .i64 0, .int .i64 0, .slice none 0 0] 30))
  unfold fp at PA ⊢
  unfold noMat at PA ⊢
  go_enter Try.func109, Try.ntmps109
  go_wp2
  go_step3
  go_wp2_with (go_at_call 41; (with_reducible refine (PA.out _).mono ?_); rintro e w1 ⟨rfl, hb1⟩; have K1 := Lib.hid ((K0.out.below hb1).alloc (.cells #[.int .i64 0, .int .i64 0, .slice none 0 0] 30)); have W1 : Hid (Below w.heap.size w (w1.alloc (.cells #[.int .i64 0, .int .i64 0, .slice none 0 0] 30))) := (W0.out.trans (hb1.mono W0.out.size)).alloc (W0.out.trans (hb1.mono W0.out.size)).size _; have q0 := (K1.out.at (.head _)).cell 0; have q1 := (K1.out.at (.head _)).cell 1; have q2 := (K1.out.at (.head _)).cell 2; have z0 := (K1.out.at (.head _)).frozen 0; have z1 := (K1.out.at (.head _)).frozen 1; have z2 := (K1.out.at (.head _)).frozen 2; simp only [List.getElem?_toArray, List.getElem?_cons_succ, List.getElem?_cons_zero] at q0 q1 q2; clear hb1)
  have hfin := (((K1.out.at (.head _)).set 0 (.int .i64 0)).set 1 (.int .i64 0)).set 2 (.slice none 0 0)
  have h3 := hfin.cell 0
  have h4 := hfin.cell 1
  have h5 := hfin.cell 2
  simp only [List.getElem?_toArray, List.getElem?_cons_succ, List.getElem?_cons_zero, List.setIfInBounds_toArray, List.set_cons_zero, List.set_cons_succ] at h3 h4 h5
  (try rw [Exit.noGoto_ret])
  refine bodyPost_ret (v := .tuple #[.agg #[.int .i64 0, .int .i64 0, .slice none 0 0], .int .i64 50]) ?_ rfl ?_
  · rw [results_cell_tmp rfl]
    go_simp
  · exact ⟨rfl, ((W1.out.setCell (Nat.le_refl _) _).setCell (Nat.le_refl _) _).setCell (Nat.le_refl _) _⟩
end Go.Proofs.Ytmkjplpnoohfnaa
