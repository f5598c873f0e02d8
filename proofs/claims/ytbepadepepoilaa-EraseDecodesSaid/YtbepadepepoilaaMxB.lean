/- Package matrix, where there is no field, or matrices do not fit. -/
import Derived.Test.YtbepadepepoilaaMxI
namespace Go.Proofs.Ytbepadepepoilaa
open Go.RowKit
set_option linter.unusedVariables false
set_option linter.unusedSimpArgs false
theorem mx_mul_nil (R1 C1 R2 C2 : Int) (A1 : Option Addr) (n1 c1 : Nat) (A2 : Option Addr) (n2 c2 : Nat) (w : World) :
    Calls Try.prog 8 #[.pointer none, matV R1 C1 A1 n1 c1, matV R2 C2 A2 n2 c2] w fun e w' => e = .returned (.tuple #[matV 0 0 none 0 0, .int .i64 1]) ∧ Below w.heap.size w w' := by
  have HW := Lib.hid (below3 w (.cells #[.int .i64 R1, .int .i64 C1, .slice A1 n1 c1] 24) (.cells #[.int .i64 R2, .int .i64 C2, .slice A2 n2 c2] 24) (.cells #[.int .i64 0, .int .i64 0, .slice none 0 0] 24))
  go_enter Try.func8, Try.ntmps8
  go_wp2
  refine bodyPost_ret (v := .tuple #[matV 0 0 none 0 0, .int .i64 1]) ?_ rfl ⟨rfl, HW.out⟩
  rw [results_cell_tmp rfl]
  go_simp
theorem mx_invert_nil (R1 C1 : Int) (A1 : Option Addr) (n1 c1 : Nat) (w : World) :
    Calls Try.prog 10 #[.pointer none, matV R1 C1 A1 n1 c1] w fun e w' => e = .returned (.tuple #[matV 0 0 none 0 0, .int .i64 1]) ∧ Below w.heap.size w w' := by
  have HW := Lib.hid (below2 w (.cells #[.int .i64 R1, .int .i64 C1, .slice A1 n1 c1] 24) (.cells #[.int .i64 0, .int .i64 0, .slice none 0 0] 24))
  go_enter Try.func10, Try.ntmps10
  go_wp2
  go_step3
  go_wp2
  (try rw [Exit.noGoto_ret])
  refine bodyPost_ret (v := .tuple #[matV 0 0 none 0 0, .int .i64 1]) ?_ rfl ⟨rfl, HW.out⟩
  rw [results_cell_tmp rfl]
  go_simp
theorem mx_invert_bad (b : Nat) (R1 C1 : Int) (A1 : Option Addr) (n1 c1 : Nat) (h : ¬ (mok R1 C1 n1 ∧ R1 = C1)) (w : World) :
    Calls Try.prog 10 #[fp b, matV R1 C1 A1 n1 c1] w fun e w' => e = .returned (.tuple #[matV 0 0 none 0 0, .int .i64 30]) ∧ Below w.heap.size w w' := by
  have K0 := Lib.hid (kn2 w 24 24 #[.int .i64 R1, .int .i64 C1, .slice A1 n1 c1] #[.int .i64 0, .int .i64 0, .slice none 0 0])
  have HW := Lib.hid (below2 w (.cells #[.int .i64 R1, .int .i64 C1, .slice A1 n1 c1] 24) (.cells #[.int .i64 0, .int .i64 0, .slice none 0 0] 24))
  unfold fp
  by_cases h1 : mok R1 C1 n1
  · have h2 : ¬ R1 = C1 := fun e => h ⟨h1, e⟩
    have CK : Hid (∀ w, Calls Try.prog 17 #[matV R1 C1 A1 n1 c1] w fun e w' => e = .returned (.int .i64 0) ∧ Below w.heap.size w w') := fun w => mx_check_ok R1 C1 A1 n1 c1 h1 w
    have d0 : (R1 == C1) = false := by rw [beq_eq_false_iff_ne]; exact h2
    have d1 : (R1 != C1) = true := by rw [bne_iff_ne]; exact h2
    clear h h1 h2
    go_enter Try.func10, Try.ntmps10
    go_wp2
    go_step3
    go_wp2_with (go_at_call 17; (with_reducible refine (CK.out _).mono ?_); rintro e w1 ⟨rfl, hb1⟩; have K1 := Lib.hid (K0.out.below hb1); have HW1 := Lib.hid (HW.out.trans (hb1.mono HW.out.size)); clear hb1; have a0 := (K1.out.at (.head _)).cell 0; have a1 := (K1.out.at (.head _)).cell 1; have a2 := (K1.out.at (.head _)).cell 2; simp only [List.getElem?_toArray, List.getElem?_cons_succ, List.getElem?_cons_zero] at a0 a1 a2; have r0 := (K1.out.at (.tail _ (.head _))).cell 0; have r1 := (K1.out.at (.tail _ (.head _))).cell 1; have r2 := (K1.out.at (.tail _ (.head _))).cell 2; have rz0 := (K1.out.at (.tail _ (.head _))).frozen 0; have rz1 := (K1.out.at (.tail _ (.head _))).frozen 1; have rz2 := (K1.out.at (.tail _ (.head _))).frozen 2; simp only [List.getElem?_toArray, List.getElem?_cons_succ, List.getElem?_cons_zero] at r0 r1 r2)
    (try rw [Exit.noGoto_ret])
    refine bodyPost_ret (v := .tuple #[matV 0 0 none 0 0, .int .i64 30]) ?_ rfl ?_
    · rw [results_cell_tmp rfl]
      go_simp
    · exact ⟨rfl, ((HW1.out.setCell (show w.heap.size ≤ w.heap.size + 1 by omega) _).setCell (show w.heap.size ≤ w.heap.size + 1 by omega) _).setCell (show w.heap.size ≤ w.heap.size + 1 by omega) _⟩
  · have CK : Hid (∀ w, Calls Try.prog 17 #[matV R1 C1 A1 n1 c1] w fun e w' => e = .returned (.int .i64 30) ∧ Below w.heap.size w w') := fun w => mx_check_bad R1 C1 A1 n1 c1 h1 w
    clear h h1
    go_enter Try.func10, Try.ntmps10
    go_wp2
    go_step3
    go_wp2_with (go_at_call 17; (with_reducible refine (CK.out _).mono ?_); rintro e w1 ⟨rfl, hb1⟩; have K1 := Lib.hid (K0.out.below hb1); have HW1 := Lib.hid (HW.out.trans (hb1.mono HW.out.size)); clear hb1; have a0 := (K1.out.at (.head _)).cell 0; have a1 := (K1.out.at (.head _)).cell 1; have a2 := (K1.out.at (.head _)).cell 2; simp only [List.getElem?_toArray, List.getElem?_cons_succ, List.getElem?_cons_zero] at a0 a1 a2; have r0 := (K1.out.at (.tail _ (.head _))).cell 0; have r1 := (K1.out.at (.tail _ (.head _))).cell 1; have r2 := (K1.out.at (.tail _ (.head _))).cell 2; have rz0 := (K1.out.at (.tail _ (.head _))).frozen 0; have rz1 := (K1.out.at (.tail _ (.head _))).frozen 1; have rz2 := (K1.out.at (.tail _ (.head _))).frozen 2; simp only [List.getElem?_toArray, List.getElem?_cons_succ, List.getElem?_cons_zero] at r0 r1 r2)
    (try rw [Exit.noGoto_ret])
    refine bodyPost_ret (v := .tuple #[matV 0 0 none 0 0, .int .i64 30]) ?_ rfl ?_
    · rw [results_cell_tmp rfl]
      go_simp
    · exact ⟨rfl, ((HW1.out.setCell (show w.heap.size ≤ w.heap.size + 1 by omega) _).setCell (show w.heap.size ≤ w.heap.size + 1 by omega) _).setCell (show w.heap.size ≤ w.heap.size + 1 by omega) _⟩
theorem mx_mul_bad (b : Nat) (R1 C1 R2 C2 : Int) (A1 : Option Addr) (n1 c1 : Nat) (A2 : Option Addr) (n2 c2 : Nat) (h : ¬ (mok R1 C1 n1 ∧ mok R2 C2 n2 ∧ C1 = R2)) (w : World) :
    Calls Try.prog 8 #[fp b, matV R1 C1 A1 n1 c1, matV R2 C2 A2 n2 c2] w fun e w' => e = .returned (.tuple #[matV 0 0 none 0 0, .int .i64 30]) ∧ Below w.heap.size w w' := by
  have K0 := Lib.hid (kn3 w 24 24 24 #[.int .i64 R1, .int .i64 C1, .slice A1 n1 c1] #[.int .i64 R2, .int .i64 C2, .slice A2 n2 c2] #[.int .i64 0, .int .i64 0, .slice none 0 0])
  have HW := Lib.hid (below3 w (.cells #[.int .i64 R1, .int .i64 C1, .slice A1 n1 c1] 24) (.cells #[.int .i64 R2, .int .i64 C2, .slice A2 n2 c2] 24) (.cells #[.int .i64 0, .int .i64 0, .slice none 0 0] 24))
  unfold fp
  by_cases h1 : mok R1 C1 n1
  · have CK1 : Hid (∀ w, Calls Try.prog 17 #[matV R1 C1 A1 n1 c1] w fun e w' => e = .returned (.int .i64 0) ∧ Below w.heap.size w w') := fun w => mx_check_ok R1 C1 A1 n1 c1 h1 w
    by_cases h2 : mok R2 C2 n2
    · have CK2 : Hid (∀ w, Calls Try.prog 17 #[matV R2 C2 A2 n2 c2] w fun e w' => e = .returned (.int .i64 0) ∧ Below w.heap.size w w') := fun w => mx_check_ok R2 C2 A2 n2 c2 h2 w
      have h3 : ¬ C1 = R2 := fun e => h ⟨h1, h2, e⟩
      have d0 : (C1 == R2) = false := by rw [beq_eq_false_iff_ne]; exact h3
      have d1 : (C1 != R2) = true := by rw [bne_iff_ne]; exact h3
      clear h h1 h2 h3
      go_enter Try.func8, Try.ntmps8
      go_wp2_with (first
        | (go_at_call 17; (with_reducible refine (CK1.out _).mono ?_); rintro e w1 ⟨rfl, hb1⟩; have K0 := Lib.hid (K0.out.below hb1); have HW := Lib.hid (HW.out.trans (hb1.mono HW.out.size)); clear hb1; (try clear a0 a1 a2 b0 b1 b2 r0 r1 r2 rz0 rz1 rz2); have a0 := (K0.out.at (.head _)).cell 0; have a1 := (K0.out.at (.head _)).cell 1; have a2 := (K0.out.at (.head _)).cell 2; simp only [List.getElem?_toArray, List.getElem?_cons_succ, List.getElem?_cons_zero] at a0 a1 a2; have b0 := (K0.out.at (.tail _ (.head _))).cell 0; have b1 := (K0.out.at (.tail _ (.head _))).cell 1; have b2 := (K0.out.at (.tail _ (.head _))).cell 2; simp only [List.getElem?_toArray, List.getElem?_cons_succ, List.getElem?_cons_zero] at b0 b1 b2; have r0 := (K0.out.at (.tail _ (.tail _ (.head _)))).cell 0; have r1 := (K0.out.at (.tail _ (.tail _ (.head _)))).cell 1; have r2 := (K0.out.at (.tail _ (.tail _ (.head _)))).cell 2; have rz0 := (K0.out.at (.tail _ (.tail _ (.head _)))).frozen 0; have rz1 := (K0.out.at (.tail _ (.tail _ (.head _)))).frozen 1; have rz2 := (K0.out.at (.tail _ (.tail _ (.head _)))).frozen 2; simp only [List.getElem?_toArray, List.getElem?_cons_succ, List.getElem?_cons_zero] at r0 r1 r2)
        | (go_at_call 17; (with_reducible refine (CK2.out _).mono ?_); rintro e w1 ⟨rfl, hb1⟩; have K0 := Lib.hid (K0.out.below hb1); have HW := Lib.hid (HW.out.trans (hb1.mono HW.out.size)); clear hb1; (try clear a0 a1 a2 b0 b1 b2 r0 r1 r2 rz0 rz1 rz2); have a0 := (K0.out.at (.head _)).cell 0; have a1 := (K0.out.at (.head _)).cell 1; have a2 := (K0.out.at (.head _)).cell 2; simp only [List.getElem?_toArray, List.getElem?_cons_succ, List.getElem?_cons_zero] at a0 a1 a2; have b0 := (K0.out.at (.tail _ (.head _))).cell 0; have b1 := (K0.out.at (.tail _ (.head _))).cell 1; have b2 := (K0.out.at (.tail _ (.head _))).cell 2; simp only [List.getElem?_toArray, List.getElem?_cons_succ, List.getElem?_cons_zero] at b0 b1 b2; have r0 := (K0.out.at (.tail _ (.tail _ (.head _)))).cell 0; have r1 := (K0.out.at (.tail _ (.tail _ (.head _)))).cell 1; have r2 := (K0.out.at (.tail _ (.tail _ (.head _)))).cell 2; have rz0 := (K0.out.at (.tail _ (.tail _ (.head _)))).frozen 0; have rz1 := (K0.out.at (.tail _ (.tail _ (.head _)))).frozen 1; have rz2 := (K0.out.at (.tail _ (.tail _ (.head _)))).frozen 2; simp only [List.getElem?_toArray, List.getElem?_cons_succ, List.getElem?_cons_zero] at r0 r1 r2))
      (try rw [Exit.noGoto_ret])
      refine bodyPost_ret (v := .tuple #[matV 0 0 none 0 0, .int .i64 30]) ?_ rfl ?_
      · rw [results_cell_tmp rfl]
        go_simp
      · exact ⟨rfl, ((HW.out.setCell (show w.heap.size ≤ w.heap.size + 1 + 1 by omega) _).setCell (show w.heap.size ≤ w.heap.size + 1 + 1 by omega) _).setCell (show w.heap.size ≤ w.heap.size + 1 + 1 by omega) _⟩
    · have CK2 : Hid (∀ w, Calls Try.prog 17 #[matV R2 C2 A2 n2 c2] w fun e w' => e = .returned (.int .i64 30) ∧ Below w.heap.size w w') := fun w => mx_check_bad R2 C2 A2 n2 c2 h2 w
      clear h h1 h2
      go_enter Try.func8, Try.ntmps8
      go_wp2_with (first
        | (go_at_call 17; (with_reducible refine (CK1.out _).mono ?_); rintro e w1 ⟨rfl, hb1⟩; have K0 := Lib.hid (K0.out.below hb1); have HW := Lib.hid (HW.out.trans (hb1.mono HW.out.size)); clear hb1; (try clear a0 a1 a2 b0 b1 b2 r0 r1 r2 rz0 rz1 rz2); have a0 := (K0.out.at (.head _)).cell 0; have a1 := (K0.out.at (.head _)).cell 1; have a2 := (K0.out.at (.head _)).cell 2; simp only [List.getElem?_toArray, List.getElem?_cons_succ, List.getElem?_cons_zero] at a0 a1 a2; have b0 := (K0.out.at (.tail _ (.head _))).cell 0; have b1 := (K0.out.at (.tail _ (.head _))).cell 1; have b2 := (K0.out.at (.tail _ (.head _))).cell 2; simp only [List.getElem?_toArray, List.getElem?_cons_succ, List.getElem?_cons_zero] at b0 b1 b2; have r0 := (K0.out.at (.tail _ (.tail _ (.head _)))).cell 0; have r1 := (K0.out.at (.tail _ (.tail _ (.head _)))).cell 1; have r2 := (K0.out.at (.tail _ (.tail _ (.head _)))).cell 2; have rz0 := (K0.out.at (.tail _ (.tail _ (.head _)))).frozen 0; have rz1 := (K0.out.at (.tail _ (.tail _ (.head _)))).frozen 1; have rz2 := (K0.out.at (.tail _ (.tail _ (.head _)))).frozen 2; simp only [List.getElem?_toArray, List.getElem?_cons_succ, List.getElem?_cons_zero] at r0 r1 r2)
        | (go_at_call 17; (with_reducible refine (CK2.out _).mono ?_); rintro e w1 ⟨rfl, hb1⟩; have K0 := Lib.hid (K0.out.below hb1); have HW := Lib.hid (HW.out.trans (hb1.mono HW.out.size)); clear hb1; (try clear a0 a1 a2 b0 b1 b2 r0 r1 r2 rz0 rz1 rz2); have a0 := (K0.out.at (.head _)).cell 0; have a1 := (K0.out.at (.head _)).cell 1; have a2 := (K0.out.at (.head _)).cell 2; simp only [List.getElem?_toArray, List.getElem?_cons_succ, List.getElem?_cons_zero] at a0 a1 a2; have b0 := (K0.out.at (.tail _ (.head _))).cell 0; have b1 := (K0.out.at (.tail _ (.head _))).cell 1; have b2 := (K0.out.at (.tail _ (.head _))).cell 2; simp only [List.getElem?_toArray, List.getElem?_cons_succ, List.getElem?_cons_zero] at b0 b1 b2; have r0 := (K0.out.at (.tail _ (.tail _ (.head _)))).cell 0; have r1 := (K0.out.at (.tail _ (.tail _ (.head _)))).cell 1; have r2 := (K0.out.at (.tail _ (.tail _ (.head _)))).cell 2; have rz0 := (K0.out.at (.tail _ (.tail _ (.head _)))).frozen 0; have rz1 := (K0.out.at (.tail _ (.tail _ (.head _)))).frozen 1; have rz2 := (K0.out.at (.tail _ (.tail _ (.head _)))).frozen 2; simp only [List.getElem?_toArray, List.getElem?_cons_succ, List.getElem?_cons_zero] at r0 r1 r2))
      (try rw [Exit.noGoto_ret])
      refine bodyPost_ret (v := .tuple #[matV 0 0 none 0 0, .int .i64 30]) ?_ rfl ?_
      · rw [results_cell_tmp rfl]
        go_simp
      · exact ⟨rfl, ((HW.out.setCell (show w.heap.size ≤ w.heap.size + 1 + 1 by omega) _).setCell (show w.heap.size ≤ w.heap.size + 1 + 1 by omega) _).setCell (show w.heap.size ≤ w.heap.size + 1 + 1 by omega) _⟩
  · have CK1 : Hid (∀ w, Calls Try.prog 17 #[matV R1 C1 A1 n1 c1] w fun e w' => e = .returned (.int .i64 30) ∧ Below w.heap.size w w') := fun w => mx_check_bad R1 C1 A1 n1 c1 h1 w
    clear h h1
    go_enter Try.func8, Try.ntmps8
    go_wp2_with (go_at_call 17; (with_reducible refine (CK1.out _).mono ?_); rintro e w1 ⟨rfl, hb1⟩; have K0 := Lib.hid (K0.out.below hb1); have HW := Lib.hid (HW.out.trans (hb1.mono HW.out.size)); clear hb1; have a0 := (K0.out.at (.head _)).cell 0; have a1 := (K0.out.at (.head _)).cell 1; have a2 := (K0.out.at (.head _)).cell 2; simp only [List.getElem?_toArray, List.getElem?_cons_succ, List.getElem?_cons_zero] at a0 a1 a2; have b0 := (K0.out.at (.tail _ (.head _))).cell 0; have b1 := (K0.out.at (.tail _ (.head _))).cell 1; have b2 := (K0.out.at (.tail _ (.head _))).cell 2; simp only [List.getElem?_toArray, List.getElem?_cons_succ, List.getElem?_cons_zero] at b0 b1 b2; have r0 := (K0.out.at (.tail _ (.tail _ (.head _)))).cell 0; have r1 := (K0.out.at (.tail _ (.tail _ (.head _)))).cell 1; have r2 := (K0.out.at (.tail _ (.tail _ (.head _)))).cell 2; have rz0 := (K0.out.at (.tail _ (.tail _ (.head _)))).frozen 0; have rz1 := (K0.out.at (.tail _ (.tail _ (.head _)))).frozen 1; have rz2 := (K0.out.at (.tail _ (.tail _ (.head _)))).frozen 2; simp only [List.getElem?_toArray, List.getElem?_cons_succ, List.getElem?_cons_zero] at r0 r1 r2)
    (try rw [Exit.noGoto_ret])
    refine bodyPost_ret (v := .tuple #[matV 0 0 none 0 0, .int .i64 30]) ?_ rfl ?_
    · rw [results_cell_tmp rfl]
      go_simp
    · exact ⟨rfl, ((HW.out.setCell (show w.heap.size ≤ w.heap.size + 1 + 1 by omega) _).setCell (show w.heap.size ≤ w.heap.size + 1 + 1 by omega) _).setCell (show w.heap.size ≤ w.heap.size + 1 + 1 by omega) _⟩
end Go.Proofs.Ytbepadepepoilaa
