/- aumbryref03.Pick, walked; Invert and Pick where they may not be. -/
import Derived.Test.YtbepadepepoilaaR3e
import Derived.Test.YtbepadepepoilaaMxK
namespace Go.Proofs.Ytbepadepepoilaa
open Go.RowKit
set_option linter.unusedVariables false
set_option linter.unusedSimpArgs false
set_option maxRecDepth 1000000 in
set_option maxHeartbeats 4000000 in
theorem ref03_invert_bad (R1 C1 : Int) (A1 : Option Addr) (n1 c1 : Nat) (h : ¬ (mok R1 C1 n1 ∧ R1 = C1)) (w : World) :
    Calls Try.prog 11 #[matV R1 C1 A1 n1 c1] w fun e w' => e = .returned (.tuple #[matV 0 0 none 0 0, .int .i64 30]) ∧ Below w.heap.size w w' := by
  have K0 := Lib.hid (kn2 w 24 24 #[.int .i64 R1, .int .i64 C1, .slice A1 n1 c1] #[.int .i64 0, .int .i64 0, .slice none 0 0])
  have HW := Lib.hid (below2 w (.cells #[.int .i64 R1, .int .i64 C1, .slice A1 n1 c1] 24) (.cells #[.int .i64 0, .int .i64 0, .slice none 0 0] 24))
  by_cases h1 : mok R1 C1 n1
  · have h2 : ¬ R1 = C1 := fun e => h ⟨h1, e⟩
    have CK : Hid (∀ w, Calls Try.prog 18 #[matV R1 C1 A1 n1 c1] w fun e w' => e = .returned (.int .i64 0) ∧ Below w.heap.size w w') := fun w => ref03_check_ok R1 C1 A1 n1 c1 h1 w
    have d0 : (R1 == C1) = false := by rw [beq_eq_false_iff_ne]; exact h2
    have d1 : (R1 != C1) = true := by rw [bne_iff_ne]; exact h2
    clear h h1 h2
    go_enter Try.func11, Try.ntmps11
    go_wp2_with (go_at_call 18; (with_reducible refine (CK.out _).mono ?_); rintro e w1 ⟨rfl, hb1⟩; have K1 := Lib.hid (K0.out.below hb1); have HW1 := Lib.hid (HW.out.trans (hb1.mono HW.out.size)); clear hb1; have a0 := (K1.out.at (.head _)).cell 0; have a1 := (K1.out.at (.head _)).cell 1; have a2 := (K1.out.at (.head _)).cell 2; simp only [List.getElem?_toArray, List.getElem?_cons_succ, List.getElem?_cons_zero] at a0 a1 a2; have r0 := (K1.out.at (.tail _ (.head _))).cell 0; have r1 := (K1.out.at (.tail _ (.head _))).cell 1; have r2 := (K1.out.at (.tail _ (.head _))).cell 2; have rz0 := (K1.out.at (.tail _ (.head _))).frozen 0; have rz1 := (K1.out.at (.tail _ (.head _))).frozen 1; have rz2 := (K1.out.at (.tail _ (.head _))).frozen 2; simp only [List.getElem?_toArray, List.getElem?_cons_succ, List.getElem?_cons_zero] at r0 r1 r2)
    (try rw [Exit.noGoto_ret])
    refine bodyPost_ret (v := .tuple #[matV 0 0 none 0 0, .int .i64 30]) ?_ rfl ?_
    · rw [results_cell_tmp rfl]
      go_simp
    · exact ⟨rfl, ((HW1.out.setCell (show w.heap.size ≤ w.heap.size + 1 by omega) _).setCell (show w.heap.size ≤ w.heap.size + 1 by omega) _).setCell (show w.heap.size ≤ w.heap.size + 1 by omega) _⟩
  · have CK : Hid (∀ w, Calls Try.prog 18 #[matV R1 C1 A1 n1 c1] w fun e w' => e = .returned (.int .i64 30) ∧ Below w.heap.size w w') := fun w => ref03_check_bad R1 C1 A1 n1 c1 h1 w
    clear h h1
    go_enter Try.func11, Try.ntmps11
    go_wp2_with (go_at_call 18; (with_reducible refine (CK.out _).mono ?_); rintro e w1 ⟨rfl, hb1⟩; have K1 := Lib.hid (K0.out.below hb1); have HW1 := Lib.hid (HW.out.trans (hb1.mono HW.out.size)); clear hb1; have a0 := (K1.out.at (.head _)).cell 0; have a1 := (K1.out.at (.head _)).cell 1; have a2 := (K1.out.at (.head _)).cell 2; simp only [List.getElem?_toArray, List.getElem?_cons_succ, List.getElem?_cons_zero] at a0 a1 a2; have r0 := (K1.out.at (.tail _ (.head _))).cell 0; have r1 := (K1.out.at (.tail _ (.head _))).cell 1; have r2 := (K1.out.at (.tail _ (.head _))).cell 2; have rz0 := (K1.out.at (.tail _ (.head _))).frozen 0; have rz1 := (K1.out.at (.tail _ (.head _))).frozen 1; have rz2 := (K1.out.at (.tail _ (.head _))).frozen 2; simp only [List.getElem?_toArray, List.getElem?_cons_succ, List.getElem?_cons_zero] at r0 r1 r2)
    (try rw [Exit.noGoto_ret])
    refine bodyPost_ret (v := .tuple #[matV 0 0 none 0 0, .int .i64 30]) ?_ rfl ?_
    · rw [results_cell_tmp rfl]
      go_simp
    · exact ⟨rfl, ((HW1.out.setCell (show w.heap.size ≤ w.heap.size + 1 by omega) _).setCell (show w.heap.size ≤ w.heap.size + 1 by omega) _).setCell (show w.heap.size ≤ w.heap.size + 1 by omega) _⟩
set_option maxRecDepth 1000000 in
set_option maxHeartbeats 4000000 in
theorem ref03_pick_bad (Rr Cc : Int) (A1 : Option Addr) (n1 c1 : Nat) (A2 : Option Addr) (n2 c2 : Nat) (hn2 : n2 ≤ maxLen) (h : ¬ mok Rr Cc n1 ∨ 256 < n2) (w : World) :
    Calls Try.prog 13 #[matV Rr Cc A1 n1 c1, .slice A2 n2 c2] w fun e w' => e = .returned (.tuple #[matV 0 0 none 0 0, .int .i64 30]) ∧ Below w.heap.size w w' := by
  have K0 := Lib.hid (kn2 w 24 24 #[.int .i64 Rr, .int .i64 Cc, .slice A1 n1 c1] #[.int .i64 0, .int .i64 0, .slice none 0 0])
  have HW := Lib.hid (below2 w (.cells #[.int .i64 Rr, .int .i64 Cc, .slice A1 n1 c1] 24) (.cells #[.int .i64 0, .int .i64 0, .slice none 0 0] 24))
  unfold maxLen at hn2
  by_cases h1 : mok Rr Cc n1
  · have h2 : 256 < n2 := h.resolve_left (fun e => e h1)
    have CK : Hid (∀ w, Calls Try.prog 18 #[matV Rr Cc A1 n1 c1] w fun e w' => e = .returned (.int .i64 0) ∧ Below w.heap.size w w') := fun w => ref03_check_ok Rr Cc A1 n1 c1 h1 w
    have e1 : decide (256 < n2) = true := decide_eq_true h2
    have e2 : (256 : Int) < (n2 : Int) := by omega
    clear h h1 h2
    go_enter Try.func13, Try.ntmps13
    go_wp2_with (go_at_call 18; (with_reducible refine (CK.out _).mono ?_); rintro e w1 ⟨rfl, hb1⟩; have K1 := Lib.hid (K0.out.below hb1); have HW1 := Lib.hid (HW.out.trans (hb1.mono HW.out.size)); clear hb1; have p0 := (K1.out.at (.tail _ (.head _))).cell 0; have p1 := (K1.out.at (.tail _ (.head _))).cell 1; have p2 := (K1.out.at (.tail _ (.head _))).cell 2; have pz0 := (K1.out.at (.tail _ (.head _))).frozen 0; have pz1 := (K1.out.at (.tail _ (.head _))).frozen 1; have pz2 := (K1.out.at (.tail _ (.head _))).frozen 2; simp only [List.getElem?_toArray, List.getElem?_cons_succ, List.getElem?_cons_zero] at p0 p1 p2)
    have h3 := ((K1.out.at (.tail _ (.head _))).set 0 (.int .i64 0)).set 1 (.int .i64 0) |>.set 2 (.slice none 0 0)
    refine bodyPost_ret (v := .tuple #[matV 0 0 none 0 0, .int .i64 30]) ?_ rfl ?_
    · rw [results_cell_tmp rfl]
      go_simp
    · exact ⟨rfl, ((HW1.out.setCell (Nat.le_succ _) _).setCell (Nat.le_succ _) _).setCell (Nat.le_succ _) _⟩
  · have CK : Hid (∀ w, Calls Try.prog 18 #[matV Rr Cc A1 n1 c1] w fun e w' => e = .returned (.int .i64 30) ∧ Below w.heap.size w w') := fun w => ref03_check_bad Rr Cc A1 n1 c1 h1 w
    clear h h1
    go_enter Try.func13, Try.ntmps13
    go_wp2_with (go_at_call 18; (with_reducible refine (CK.out _).mono ?_); rintro e w1 ⟨rfl, hb1⟩; have K1 := Lib.hid (K0.out.below hb1); have HW1 := Lib.hid (HW.out.trans (hb1.mono HW.out.size)); clear hb1; have p0 := (K1.out.at (.tail _ (.head _))).cell 0; have p1 := (K1.out.at (.tail _ (.head _))).cell 1; have p2 := (K1.out.at (.tail _ (.head _))).cell 2; have pz0 := (K1.out.at (.tail _ (.head _))).frozen 0; have pz1 := (K1.out.at (.tail _ (.head _))).frozen 1; have pz2 := (K1.out.at (.tail _ (.head _))).frozen 2; simp only [List.getElem?_toArray, List.getElem?_cons_succ, List.getElem?_cons_zero] at p0 p1 p2)
    have h3 := ((K1.out.at (.tail _ (.head _))).set 0 (.int .i64 0)).set 1 (.int .i64 0) |>.set 2 (.slice none 0 0)
    refine bodyPost_ret (v := .tuple #[matV 0 0 none 0 0, .int .i64 30]) ?_ rfl ?_
    · rw [results_cell_tmp rfl]
      go_simp
    · exact ⟨rfl, ((HW1.out.setCell (Nat.le_succ _) _).setCell (Nat.le_succ _) _).setCell (Nat.le_succ _) _⟩
end Go.Proofs.Ytbepadepepoilaa
