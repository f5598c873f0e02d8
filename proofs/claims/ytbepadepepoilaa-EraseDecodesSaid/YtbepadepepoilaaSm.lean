/- aumbryref03.Check and aumbrylaw03.Small, walked. -/
import Derived.Test.YtbepadepepoilaaLaw03
namespace Go.Proofs.Ytbepadepepoilaa
open Go.RowKit
set_option linter.unusedVariables false
set_option linter.unusedSimpArgs false
theorem ref03_check_ok (R C : Int) (A : Option Addr) (n c : Nat) (h : mok R C n) (w : World) :
    Calls Try.prog 18 #[matV R C A n c] w fun e w' => e = .returned (.int .i64 0) ∧ Below w.heap.size w w' := by
  obtain ⟨h0, h1, h2, h3, h4⟩ := h
  have hb := mul_bd h0 h1 h2 h3
  have hw : IntKind.i64.wrap (R * C) = (n : Int) := by rw [h4, IntKind.wrap_i64]; omega
  have g0 : ¬ R < 0 := by omega
  have g1 : ¬ 256 < R := by omega
  have g2 : ¬ C < 0 := by omega
  have g3 : ¬ 256 < C := by omega
  clear h4 hb
  go_enter Try.func18, Try.ntmps18
  go_wp2
  go_ret
  exact ⟨rfl, below_alloc _ _⟩
theorem ref03_check_bad (R C : Int) (A : Option Addr) (n c : Nat) (h : ¬ mok R C n) (w : World) :
    Calls Try.prog 18 #[matV R C A n c] w fun e w' => e = .returned (.int .i64 30) ∧ Below w.heap.size w w' := by
  by_cases g0 : R < 0
  · clear h
    go_enter Try.func18, Try.ntmps18
    go_wp2
    go_ret
    exact ⟨rfl, below_alloc _ _⟩
  by_cases g1 : 256 < R
  · clear h
    go_enter Try.func18, Try.ntmps18
    go_wp2
    go_ret
    exact ⟨rfl, below_alloc _ _⟩
  by_cases g2 : C < 0
  · clear h
    go_enter Try.func18, Try.ntmps18
    go_wp2
    go_ret
    exact ⟨rfl, below_alloc _ _⟩
  by_cases g3 : 256 < C
  · clear h
    go_enter Try.func18, Try.ntmps18
    go_wp2
    go_ret
    exact ⟨rfl, below_alloc _ _⟩
  have hb := mul_bd (Int.not_lt.mp g0) (Int.not_lt.mp g1) (Int.not_lt.mp g2) (Int.not_lt.mp g3)
  have hw : IntKind.i64.wrap (R * C) = R * C := by rw [IntKind.wrap_i64]; omega
  have hne : ¬ (n : Int) = R * C := fun e => h ⟨Int.not_lt.mp g0, Int.not_lt.mp g1, Int.not_lt.mp g2, Int.not_lt.mp g3, e⟩
  have e1 : ((n : Int) == R * C) = false := by rw [beq_eq_false_iff_ne]; exact hne
  have e2 : ((n : Int) != R * C) = true := by rw [bne_iff_ne]; exact hne
  clear h hne
  go_enter Try.func18, Try.ntmps18
  go_wp2
  go_ret
  exact ⟨rfl, below_alloc _ _⟩
def sm (R C : Int) (n : Nat) : Prop := n ≤ 300 ∧ (mok R C n → R ≤ 8 ∧ C ≤ 8)
instance (R C : Int) (n : Nat) : Decidable (mok R C n) := by unfold mok; infer_instance
instance (R C : Int) (n : Nat) : Decidable (sm R C n) := by unfold sm; infer_instance
set_option maxRecDepth 100000 in
theorem small_true (R C : Int) (A : Option Addr) (n c : Nat) (h : sm R C n) (w : World) :
    Calls Try.prog 7 #[matV R C A n c] w fun e w' => e = .returned (.bool true) ∧ Below w.heap.size w w' := by
  obtain ⟨h0, h1⟩ := h
  have h0' : ¬ (300 : Int) < (n : Int) := by omega
  by_cases hm : mok R C n
  · obtain ⟨h2, h3⟩ := h1 hm
    have CK : Hid (∀ w, Calls Try.prog 18 #[matV R C A n c] w fun e w' => e = .returned (.int .i64 0) ∧ Below w.heap.size w w') := fun w => ref03_check_ok R C A n c hm w
    clear h1 hm
    have K := Lib.hid ((Kn.nothing w).alloc (.cells #[.int .i64 R, .int .i64 C, .slice A n c] 24) |>.blk (Blk.new w #[.int .i64 R, .int .i64 C, .slice A n c] 24))
    have W := Lib.hid (below_alloc w (.cells #[.int .i64 R, .int .i64 C, .slice A n c] 24))
    go_enter Try.func7, Try.ntmps7
    go_wp2_with (go_at_call 18; (with_reducible refine (CK.out _).mono ?_); rintro e w1 ⟨rfl, hb1⟩; replace K := Lib.hid (K.out.below hb1); replace W := Lib.hid (W.out.trans (hb1.mono W.out.size)); clear hb1; have a0 := (K.out.at (.head _)).cell 0; have a1 := (K.out.at (.head _)).cell 1; have a2 := (K.out.at (.head _)).cell 2; simp only [List.getElem?_toArray, List.getElem?_cons_succ, List.getElem?_cons_zero] at a0 a1 a2)
    go_ret
    refine ⟨?_, W.out⟩
    first | rfl | (rw [D3.out]; rfl)
  · have CK : Hid (∀ w, Calls Try.prog 18 #[matV R C A n c] w fun e w' => e = .returned (.int .i64 30) ∧ Below w.heap.size w w') := fun w => ref03_check_bad R C A n c hm w
    clear h1 hm
    have K := Lib.hid ((Kn.nothing w).alloc (.cells #[.int .i64 R, .int .i64 C, .slice A n c] 24) |>.blk (Blk.new w #[.int .i64 R, .int .i64 C, .slice A n c] 24))
    have W := Lib.hid (below_alloc w (.cells #[.int .i64 R, .int .i64 C, .slice A n c] 24))
    go_enter Try.func7, Try.ntmps7
    go_wp2_with (go_at_call 18; (with_reducible refine (CK.out _).mono ?_); rintro e w1 ⟨rfl, hb1⟩; replace K := Lib.hid (K.out.below hb1); replace W := Lib.hid (W.out.trans (hb1.mono W.out.size)); clear hb1; have a0 := (K.out.at (.head _)).cell 0; have a1 := (K.out.at (.head _)).cell 1; have a2 := (K.out.at (.head _)).cell 2; simp only [List.getElem?_toArray, List.getElem?_cons_succ, List.getElem?_cons_zero] at a0 a1 a2)
    go_ret
    refine ⟨?_, W.out⟩
    first | rfl | (rw [D3.out]; rfl)
set_option maxRecDepth 100000 in
theorem small_false (R C : Int) (A : Option Addr) (n c : Nat) (h : ¬ sm R C n) (w : World) :
    Calls Try.prog 7 #[matV R C A n c] w fun e w' => e = .returned (.bool false) ∧ Below w.heap.size w w' := by
  by_cases h0 : n ≤ 300
  · have hm : mok R C n := Classical.byContradiction fun hm => h ⟨h0, fun x => absurd x hm⟩
    have h1 : ¬ (R ≤ 8 ∧ C ≤ 8) := fun x => h ⟨h0, fun _ => x⟩
    have h0' : ¬ (300 : Int) < (n : Int) := by omega
    have CK : Hid (∀ w, Calls Try.prog 18 #[matV R C A n c] w fun e w' => e = .returned (.int .i64 0) ∧ Below w.heap.size w w') := fun w => ref03_check_ok R C A n c hm w
    clear hm h h0
    by_cases h2 : R ≤ 8
    · have h3 : ¬ C ≤ 8 := fun x => h1 ⟨h2, x⟩
      have D3 : Hid (decide (C ≤ 8) = false) := decide_eq_false h3
      clear h1
      have K := Lib.hid ((Kn.nothing w).alloc (.cells #[.int .i64 R, .int .i64 C, .slice A n c] 24) |>.blk (Blk.new w #[.int .i64 R, .int .i64 C, .slice A n c] 24))
      have W := Lib.hid (below_alloc w (.cells #[.int .i64 R, .int .i64 C, .slice A n c] 24))
      go_enter Try.func7, Try.ntmps7
      go_wp2_with (go_at_call 18; (with_reducible refine (CK.out _).mono ?_); rintro e w1 ⟨rfl, hb1⟩; replace K := Lib.hid (K.out.below hb1); replace W := Lib.hid (W.out.trans (hb1.mono W.out.size)); clear hb1; have a0 := (K.out.at (.head _)).cell 0; have a1 := (K.out.at (.head _)).cell 1; have a2 := (K.out.at (.head _)).cell 2; simp only [List.getElem?_toArray, List.getElem?_cons_succ, List.getElem?_cons_zero] at a0 a1 a2)
      go_ret
      refine ⟨?_, W.out⟩
      first | rfl | (rw [D3.out]; rfl)
    · clear h1
      have K := Lib.hid ((Kn.nothing w).alloc (.cells #[.int .i64 R, .int .i64 C, .slice A n c] 24) |>.blk (Blk.new w #[.int .i64 R, .int .i64 C, .slice A n c] 24))
      have W := Lib.hid (below_alloc w (.cells #[.int .i64 R, .int .i64 C, .slice A n c] 24))
      go_enter Try.func7, Try.ntmps7
      go_wp2_with (go_at_call 18; (with_reducible refine (CK.out _).mono ?_); rintro e w1 ⟨rfl, hb1⟩; replace K := Lib.hid (K.out.below hb1); replace W := Lib.hid (W.out.trans (hb1.mono W.out.size)); clear hb1; have a0 := (K.out.at (.head _)).cell 0; have a1 := (K.out.at (.head _)).cell 1; have a2 := (K.out.at (.head _)).cell 2; simp only [List.getElem?_toArray, List.getElem?_cons_succ, List.getElem?_cons_zero] at a0 a1 a2)
      go_ret
      refine ⟨?_, W.out⟩
      first | rfl | (rw [D3.out]; rfl)
  · have h0' : (300 : Int) < (n : Int) := by omega
    clear h h0
    go_enter Try.func7, Try.ntmps7
    go_wp2
    go_ret
    exact ⟨rfl, below_alloc _ _⟩
end Go.Proofs.Ytbepadepepoilaa
