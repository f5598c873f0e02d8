/- KeyeqRoots, KeyeqScales, walked. -/
import Derived.Test.YtmcamamfpefffaaLaw09
namespace Go.Proofs.Ytmcamamfpefffaa
open Go.RowKit
set_option linter.unusedVariables false
set_option linter.unusedSimpArgs false
def rootB (pts : List F) (x : F) (i : Nat) : Bool := decide (∃ j, j < i ∧ pts.getD j 0 = x)
theorem rootB_zero (pts : List F) (x : F) : rootB pts x 0 = false := decide_eq_false fun ⟨j, h, _⟩ => Nat.not_lt_zero j h
theorem rootB_yes {pts : List F} {x : F} {i : Nat} (h : rootB pts x i = true) : rootB pts x (i + 1) = true := by
  obtain ⟨j, h1, h2⟩ := of_decide_eq_true h
  exact decide_eq_true ⟨j, by omega, h2⟩
theorem rootB_here {pts : List F} {x : F} {i : Nat} (h : pts.getD i 0 = x) : rootB pts x (i + 1) = true := decide_eq_true ⟨i, by omega, h⟩
theorem rootB_no {pts : List F} {x : F} {i : Nat} (h : rootB pts x i = false) (h2 : pts.getD i 0 ≠ x) : rootB pts x (i + 1) = false := by
  refine decide_eq_false fun ⟨j, h3, h4⟩ => ?_
  by_cases e : j = i
  · subst e; exact h2 h4
  · exact of_decide_eq_false h ⟨j, by omega, h4⟩
theorem eval_rootB {pts : List F} {x : F} {i : Nat} : eval (locN pts i) x = 0 ↔ rootB pts x i = true := by
  rw [locN_root]; unfold rootB; rw [decide_eq_true_iff]
set_option maxRecDepth 100000 in
set_option maxHeartbeats 4000000 in
theorem walk_KeyeqRoots {w : World} (A0 : Option Addr) (c0 : Nat) (pts : List F) (r0 : Bs w A0 c0 pts) (x : F) :
    Calls Try.prog 8 #[.slice A0 pts.length c0, .int .u8 x.n] w fun e w' => e = .returned (.bool true) ∧ Below w.heap.size w w' := by
  by_cases h1 : pts.length ≤ 60
  case neg =>
    have e1 : (60 : Int) < (pts.length : Int) := by omega
    have P0 := Lib.hid r0
    have W := Lib.hid (Since.refl w)
    clear r0
    go_enter Try.func8, Try.ntmps8
    go_wp2_with (first
      | (go_at_call 10; (with_reducible refine (awake9 _).mono ?_); rintro e W1 ⟨rfl, hb⟩; have hbel : Below _ _ W1 := hb; (first | have P0 := Lib.hid (Sl.below P0.out hbel) | have P0 := Lib.hid (Sl.below (P0.out.alloc _) hbel) | have P0 := Lib.hid (Sl.below ((P0.out.alloc _).alloc _) hbel) | have P0 := Lib.hid (Sl.below (((P0.out.alloc _).alloc _).alloc _) hbel) | skip); (first | have W := Lib.hid (Since.below W.out hbel) | have W := Lib.hid (Since.below (W.out.alloc _) hbel) | have W := Lib.hid (Since.below ((W.out.alloc _).alloc _) hbel) | have W := Lib.hid (Since.below (((W.out.alloc _).alloc _).alloc _) hbel) | skip); (first | have G := Lib.hid (GfAt.below G.out hbel) | have G := Lib.hid (GfAt.below (G.out.alloc _) hbel) | have G := Lib.hid (GfAt.below ((G.out.alloc _).alloc _) hbel) | have G := Lib.hid (GfAt.below (((G.out.alloc _).alloc _).alloc _) hbel) | skip); clear hbel)
      | (go_at_call 11; (with_reducible refine (new_any _).mono ?_); rintro e W2 ⟨rfl, hb, hg⟩; have hbel : Below _ _ W2 := hb; (first | have P0 := Lib.hid (Sl.below P0.out hbel) | have P0 := Lib.hid (Sl.below (P0.out.alloc _) hbel) | have P0 := Lib.hid (Sl.below ((P0.out.alloc _).alloc _) hbel) | have P0 := Lib.hid (Sl.below (((P0.out.alloc _).alloc _).alloc _) hbel) | skip); (first | have W := Lib.hid (Since.below W.out hbel) | have W := Lib.hid (Since.below (W.out.alloc _) hbel) | have W := Lib.hid (Since.below ((W.out.alloc _).alloc _) hbel) | have W := Lib.hid (Since.below (((W.out.alloc _).alloc _).alloc _) hbel) | skip); (first | have G := Lib.hid (GfAt.below G.out hbel) | have G := Lib.hid (GfAt.below (G.out.alloc _) hbel) | have G := Lib.hid (GfAt.below ((G.out.alloc _).alloc _) hbel) | have G := Lib.hid (GfAt.below (((G.out.alloc _).alloc _).alloc _) hbel) | skip); have G : Hid (GfAt W2 _) := hg; clear hbel))
    go_ret
    exact ⟨rfl, W.out⟩
  have e1 : ¬ (60 : Int) < (pts.length : Int) := by omega
  have P0 := Lib.hid r0
  have W := Lib.hid (Since.refl w)
  clear r0
  go_enter Try.func8, Try.ntmps8
  go_wp2_with (first
    | (go_at_call 10; (with_reducible refine (awake9 _).mono ?_); rintro e W1 ⟨rfl, hb⟩; have hbel : Below _ _ W1 := hb; (first | have P0 := Lib.hid (Sl.below P0.out hbel) | have P0 := Lib.hid (Sl.below (P0.out.alloc _) hbel) | have P0 := Lib.hid (Sl.below ((P0.out.alloc _).alloc _) hbel) | have P0 := Lib.hid (Sl.below (((P0.out.alloc _).alloc _).alloc _) hbel) | skip); (first | have W := Lib.hid (Since.below W.out hbel) | have W := Lib.hid (Since.below (W.out.alloc _) hbel) | have W := Lib.hid (Since.below ((W.out.alloc _).alloc _) hbel) | have W := Lib.hid (Since.below (((W.out.alloc _).alloc _).alloc _) hbel) | skip); (first | have G := Lib.hid (GfAt.below G.out hbel) | have G := Lib.hid (GfAt.below (G.out.alloc _) hbel) | have G := Lib.hid (GfAt.below ((G.out.alloc _).alloc _) hbel) | have G := Lib.hid (GfAt.below (((G.out.alloc _).alloc _).alloc _) hbel) | skip); (first | have B9 := Lib.hid (Sl.below B9.out hbel) | have B9 := Lib.hid (Sl.below (B9.out.alloc _) hbel) | have B9 := Lib.hid (Sl.below ((B9.out.alloc _).alloc _) hbel) | have B9 := Lib.hid (Sl.below (((B9.out.alloc _).alloc _).alloc _) hbel) | skip); clear hbel)
    | (go_at_call 11; (with_reducible refine (new_any _).mono ?_); rintro e W2 ⟨rfl, hb, hg⟩; have hbel : Below _ _ W2 := hb; (first | have P0 := Lib.hid (Sl.below P0.out hbel) | have P0 := Lib.hid (Sl.below (P0.out.alloc _) hbel) | have P0 := Lib.hid (Sl.below ((P0.out.alloc _).alloc _) hbel) | have P0 := Lib.hid (Sl.below (((P0.out.alloc _).alloc _).alloc _) hbel) | skip); (first | have W := Lib.hid (Since.below W.out hbel) | have W := Lib.hid (Since.below (W.out.alloc _) hbel) | have W := Lib.hid (Since.below ((W.out.alloc _).alloc _) hbel) | have W := Lib.hid (Since.below (((W.out.alloc _).alloc _).alloc _) hbel) | skip); (first | have G := Lib.hid (GfAt.below G.out hbel) | have G := Lib.hid (GfAt.below (G.out.alloc _) hbel) | have G := Lib.hid (GfAt.below ((G.out.alloc _).alloc _) hbel) | have G := Lib.hid (GfAt.below (((G.out.alloc _).alloc _).alloc _) hbel) | skip); (first | have B9 := Lib.hid (Sl.below B9.out hbel) | have B9 := Lib.hid (Sl.below (B9.out.alloc _) hbel) | have B9 := Lib.hid (Sl.below ((B9.out.alloc _).alloc _) hbel) | have B9 := Lib.hid (Sl.below (((B9.out.alloc _).alloc _).alloc _) hbel) | skip); have G : Hid (GfAt W2 _) := hg; clear hbel)
    | (go_at_call 15; (with_reducible refine (key_locator _ _ _ pts _ ?_ ?_ (by omega)).mono ?_); (first | exact G.out | exact G.out.alloc _ | exact (G.out.alloc _).alloc _ | exact ((G.out.alloc _).alloc _).alloc _ | exact (((G.out.alloc _).alloc _).alloc _).alloc _); (first | exact P0.out | exact P0.out.alloc _ | exact (P0.out.alloc _).alloc _ | exact ((P0.out.alloc _).alloc _).alloc _ | exact (((P0.out.alloc _).alloc _).alloc _).alloc _); rintro e W3 ⟨A9, c9, rfl, h9, hb⟩; have hbel : Below _ _ W3 := hb; (first | have P0 := Lib.hid (Sl.below P0.out hbel) | have P0 := Lib.hid (Sl.below (P0.out.alloc _) hbel) | have P0 := Lib.hid (Sl.below ((P0.out.alloc _).alloc _) hbel) | have P0 := Lib.hid (Sl.below (((P0.out.alloc _).alloc _).alloc _) hbel) | skip); (first | have W := Lib.hid (Since.below W.out hbel) | have W := Lib.hid (Since.below (W.out.alloc _) hbel) | have W := Lib.hid (Since.below ((W.out.alloc _).alloc _) hbel) | have W := Lib.hid (Since.below (((W.out.alloc _).alloc _).alloc _) hbel) | skip); (first | have G := Lib.hid (GfAt.below G.out hbel) | have G := Lib.hid (GfAt.below (G.out.alloc _) hbel) | have G := Lib.hid (GfAt.below ((G.out.alloc _).alloc _) hbel) | have G := Lib.hid (GfAt.below (((G.out.alloc _).alloc _).alloc _) hbel) | skip); (first | have B9 := Lib.hid (Sl.below B9.out hbel) | have B9 := Lib.hid (Sl.below (B9.out.alloc _) hbel) | have B9 := Lib.hid (Sl.below ((B9.out.alloc _).alloc _) hbel) | have B9 := Lib.hid (Sl.below (((B9.out.alloc _).alloc _).alloc _) hbel) | skip); have B9 : Hid (Bs W3 A9 c9 (locN pts pts.length)) := h9; clear hbel))
  have LL := Lib.hid (length_locN pts pts.length)
  have TOP := Lib.hid (locN_spec pts pts.length).2.2
  have EV : Hid (∀ (b : Nat) (w' : World), GfAt w' b → Bs w' A9 c9 (locN pts pts.length) → Calls Try.prog 20 #[.pointer (some ⟨b, 0, none⟩), .slice A9 (pts.length + 1 : Nat) c9, .int .u8 x.n] w' fun e w'' => e = .returned (.int .u8 (eval (locN pts pts.length) x).n) ∧ Below w'.heap.size w' w'') := fun b w' hg h => by
    have := poly_eval b A9 c9 (locN pts pts.length) x w' hg h
    rwa [length_locN] at this
  have ER : Hid (eval (locN pts pts.length) x = 0 ↔ rootB pts x pts.length = true) := eval_rootB
  have L0 := Lib.hid (rootB_zero pts x)
  obtain ⟨b9, o9, hA9, _, hc9⟩ := Bs.at' B9.out (by rw [LL.out]; omega)
  have y9 := hc9 pts.length (by rw [LL.out]; omega)
  rw [TOP.out] at y9
  have y9' : W3.cell? ⟨b9, o9 + pts.length, none⟩ = some (.int .u8 1) := y9
  clear y9 hc9
  subst hA9
  have PL : Hid (∀ i, i < pts.length → ∃ b2 o2, A0 = some ⟨b2, o2, none⟩ ∧ W3.cell? ⟨b2, o2 + i, none⟩ = some (.int .u8 ((pts.getD i 0).n : Int))) := fun i hi => by
    obtain ⟨b2, o2, hA, _, hc⟩ := Bs.at' P0.out (by omega)
    exact ⟨b2, o2, hA, hc i hi⟩
  clear TOP LL P0
  generalize hv : eval (locN pts pts.length) x = v at *
  clear hv
  generalize hn : pts.length = n at *
  clear hn
  go_loopw [8, 9] (fun p y wr => ∃ i : Nat, i ≤ n ∧ y = .int .i64 i ∧ p = .bool (rootB pts x i) ∧ W3 = wr) (fun _ y _ => n - (intOf y).toNat)
  case atStart => exact ⟨0, Nat.zero_le _, rfl, by rw [L0.out], by first | rfl | trivial⟩
  case round =>
    obtain ⟨i, hi, rfl, rfl, rfl⟩ := hrel
    by_cases hlt : i < n
    · have hit : (i : Int) < (n : Int) := by omega
      cases hb : rootB pts x i with
      | true =>
        have HN := Lib.hid (rootB_yes hb)
        clear hb
        go_wp2
        go_roundw
        case rel => exact ⟨i + 1, by omega, by go_num, by rw [HN.out], by first | rfl | trivial⟩
        case measure => simp [intOf]; omega
      | false =>
        obtain ⟨b2, o2, hA, y⟩ := PL.out i hlt
        subst hA
        by_cases he : pts.getD i 0 = x
        · have HN := Lib.hid (rootB_here (i := i) he)
          have e9 := beq_n he
          clear hb he
          generalize pts.getD i 0 = a at *
          go_wp2
          go_roundw
          case rel => exact ⟨i + 1, by omega, by go_num, by rw [HN.out], by first | rfl | trivial⟩
          case measure => simp [intOf]; omega
        · have HN := Lib.hid (rootB_no hb he)
          have e9 := bne_n he
          clear hb he
          generalize pts.getD i 0 = a at *
          go_wp2
          go_roundw
          case rel => exact ⟨i + 1, by omega, by go_num, by rw [HN.out], by first | rfl | trivial⟩
          case measure => simp [intOf]; omega
    · obtain rfl : n = i := by omega
      have hit : ¬ (n : Int) < (n : Int) := by omega
      have d0 : (((n + 1 : Nat) : Int) == (n : Int) + 1) = true := by rw [beq_iff_eq]; omega
      have d1 : (n : Int) < ((n + 1 : Nat) : Int) := by omega
      cases hb : rootB pts x n with
      | true =>
        have hv := ER.out.2 hb
        subst hv
        have e9 : (((0 : F).n : Int) == 0) = true := rfl
        clear hb ER
        go_wp2_with (go_at_call 20; (with_reducible refine (EV.out _ _ G.out B9.out).mono ?_); rintro e w5 ⟨rfl, hb5⟩; have HB5 := Lib.hid hb5; clear hb5)
        go_ret
        exact ⟨rfl, W.out.below HB5.out⟩
      | false =>
        have hv : v ≠ 0 := fun h => by rw [ER.out.1 h] at hb; cases hb
        have e9 : ((v.n : Int) == 0) = false := bne_n hv
        clear hb ER hv
        go_wp2_with (go_at_call 20; (with_reducible refine (EV.out _ _ G.out B9.out).mono ?_); rintro e w5 ⟨rfl, hb5⟩; have HB5 := Lib.hid hb5; clear hb5)
        go_ret
        exact ⟨rfl, W.out.below HB5.out⟩
end Go.Proofs.Ytmcamamfpefffaa
