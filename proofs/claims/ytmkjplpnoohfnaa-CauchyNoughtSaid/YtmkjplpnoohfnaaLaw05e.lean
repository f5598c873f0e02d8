/- CauchyNought, walked. -/
import Derived.Test.YtmkjplpnoohfnaaLaw05d
namespace Go.Proofs.Ytmkjplpnoohfnaa
open Go.RowKit
set_option linter.unusedVariables false
set_option linter.unusedSimpArgs false
set_option maxRecDepth 1000000 in
set_option maxHeartbeats 4000000 in
theorem walk_CauchyNought {w : World} (k : Int) (hk : -9223372036854775808 ≤ k ∧ k ≤ 9223372036854775807) (m : Int) (hm : -9223372036854775808 ≤ m ∧ m ≤ 9223372036854775807) :
    Calls Try.prog 11 #[.int .i64 k, .int .i64 m] w fun e w' => e = .returned (.bool true) ∧ Below w.heap.size w w' := by
  by_cases h : okkm k m
  · have CK : Hid (∀ w, Calls Try.prog 38 #[.int .i64 k, .int .i64 m] w fun e w' => e = .returned (.int .i64 0) ∧ w = w') := fun w => cauchy_check_ok k m h w
    have hk2 := h.1
    have hm2 := h.2.1
    have hkm2 := h.2.2
    by_cases g0 : 40 < k + m
    · have t0 : decide (40 < k + m) = true := decide_eq_true g0
      clear h
      have K := Lib.hid (Kn.nothing w)
      have W := Lib.hid (Since.refl w)
      go_enter Try.func11, Try.ntmps11
      go_wp2_with (first
        | (go_at_call 36; (with_reducible refine (awake5 _).mono ?_); rintro e w1 ⟨rfl, hbel⟩; (first | have K := Lib.hid (K.out.below hbel) | have K := Lib.hid ((K.out.alloc _).below hbel) | have K := Lib.hid (((K.out.alloc _).alloc _).below hbel) | have K := Lib.hid ((K.out.drewN _).below hbel) | have K := Lib.hid (((K.out.drewN _).alloc _).below hbel) | have K := Lib.hid (((K.out.alloc _).drewN _).below hbel) | have K := Lib.hid ((((K.out.alloc _).alloc _).drewN _).below hbel) | have K := Lib.hid ((((K.out.alloc _).alloc _).alloc _).below hbel) | have K := Lib.hid ((((K.out.drewN _).alloc _).alloc _).below hbel)); (first | have W := Lib.hid (W.out.below hbel) | have W := Lib.hid ((W.out.alloc _).below hbel) | have W := Lib.hid (((W.out.alloc _).alloc _).below hbel) | have W := Lib.hid ((W.out.drewN _).below hbel) | have W := Lib.hid (((W.out.drewN _).alloc _).below hbel) | have W := Lib.hid (((W.out.alloc _).drewN _).below hbel) | have W := Lib.hid ((((W.out.alloc _).alloc _).drewN _).below hbel) | have W := Lib.hid ((((W.out.alloc _).alloc _).alloc _).below hbel) | have W := Lib.hid ((((W.out.drewN _).alloc _).alloc _).below hbel)); clear hbel)
        | (go_at_call 37; (with_reducible refine (new_any _).mono ?_); rintro e w2 ⟨rfl, hbel, hg⟩; (first | have K := Lib.hid (K.out.below hbel) | have K := Lib.hid ((K.out.alloc _).below hbel) | have K := Lib.hid (((K.out.alloc _).alloc _).below hbel) | have K := Lib.hid ((K.out.drewN _).below hbel) | have K := Lib.hid (((K.out.drewN _).alloc _).below hbel) | have K := Lib.hid (((K.out.alloc _).drewN _).below hbel) | have K := Lib.hid ((((K.out.alloc _).alloc _).drewN _).below hbel) | have K := Lib.hid ((((K.out.alloc _).alloc _).alloc _).below hbel) | have K := Lib.hid ((((K.out.drewN _).alloc _).alloc _).below hbel)); (first | have W := Lib.hid (W.out.below hbel) | have W := Lib.hid ((W.out.alloc _).below hbel) | have W := Lib.hid (((W.out.alloc _).alloc _).below hbel) | have W := Lib.hid ((W.out.drewN _).below hbel) | have W := Lib.hid (((W.out.drewN _).alloc _).below hbel) | have W := Lib.hid (((W.out.alloc _).drewN _).below hbel) | have W := Lib.hid ((((W.out.alloc _).alloc _).drewN _).below hbel) | have W := Lib.hid ((((W.out.alloc _).alloc _).alloc _).below hbel) | have W := Lib.hid ((((W.out.drewN _).alloc _).alloc _).below hbel)); clear hbel; have K := Lib.hid (K.out.withF hg); clear hg)
        | (go_at_call 38; (with_reducible refine (CK.out _).mono ?_); rintro e wx ⟨rfl, rfl⟩))
      all_goals (go_ret; exact ⟨rfl, W.out⟩)
    · have t0 : decide (40 < k + m) = false := decide_eq_false g0
      obtain ⟨k, rfl⟩ := Int.eq_ofNat_of_zero_le (by omega : 0 ≤ k)
      obtain ⟨m, rfl⟩ := Int.eq_ofNat_of_zero_le (by omega : 0 ≤ m)
      have hkm4 : k + m ≤ 40 := by omega
      have PG : Hid (∀ (b : Nat) (w : World), GfAt w b → Calls Try.prog 43 #[fp b, .int .i64 k, .int .i64 (m : Int)] w fun e w' => ∃ A' c', e = .returned (.tuple #[.agg #[.int .i64 ((k : Int) + (m : Int)), .int .i64 (k : Int), .slice A' ((k + m) * k) c'], .int .i64 0]) ∧ Bs w' A' c' (matL (k + m) k (genF k)) ∧ Below w.heap.size w w') := fun b w hg => by
        refine (cauchy_Generator b k m ⟨by omega, by omega, by omega⟩ w hg).mono ?_
        rintro e w' ⟨A', c', he, ho, hb⟩
        exact ⟨A', c', he, own_sl ho, hb⟩
      have PC : Hid (∀ (b : Nat) (w : World), GfAt w b → Calls Try.prog 45 #[fp b, .int .i64 k, .int .i64 (m : Int)] w fun e w' => ∃ A' c', e = .returned (.tuple #[.agg #[.int .i64 (m : Int), .int .i64 ((k : Int) + (m : Int)), .slice A' (m * (k + m)) c'], .int .i64 0]) ∧ Bs w' A' c' (matL m (k + m) (chkF k)) ∧ Below w.heap.size w w') := fun b w hg => by
        refine (cauchy_Checks b k m ⟨by omega, by omega, by omega⟩ w hg).mono ?_
        rintro e w' ⟨A', c', he, ho, hb⟩
        exact ⟨A', c', he, own_sl ho, hb⟩
      have MU : Hid (∀ (b : Nat) (A1 : Option Addr) (c1 : Nat) (A2 : Option Addr) (c2 : Nat) (w : World), GfAt w b → Bs w A1 c1 (matL m (k + m) (chkF k)) → Bs w A2 c2 (matL (k + m) k (genF k)) → Calls Try.prog 56 #[fp b, matV m ((k : Int) + (m : Int)) A1 (m * (k + m)) c1, matV ((k : Int) + (m : Int)) k A2 ((k + m) * k) c2] w fun e w' => ∃ A' c', e = .returned (.tuple #[matV m k A' (m * k) c', .int .i64 0]) ∧ Bs w' A' c' (matL m k (mmul (k + m) (chkF k) (genF k))) ∧ Below w.heap.size w w') := fun b A1 c1 A2 c2 w hg h1 h2 => by
        have h := mx_mul b m (k + m) k A1 c1 (chkF k) A2 c2 (genF k) w (by omega) (by omega) (by omega) hg h1 h2
        rw [Int.natCast_add] at h
        refine h.mono ?_
        rintro e w' ⟨A', c', he, ho, hb⟩
        exact ⟨A', c', he, own_sl ho, hb⟩
      have E1 : Hid (∀ i, i < m * k → (matL m k (mmul (k + m) (chkF k) (genF k))).getD i 0 = 0) := fun i hi => by
        rw [matL, getD_tab _ hi]
        exact chk_gen _ _ (div_rows hi).1 (div_rows hi).2
      have LX : Hid ((matL m k (mmul (k + m) (chkF k) (genF k))).length = m * k) := length_matL _ _ _
      have nXb : m * k ≤ 1600 := Nat.mul_le_mul (by omega : m ≤ 40) (by omega : k ≤ 40)
      generalize matL m k (mmul (k + m) (chkF k) (genF k)) = lx at *
      generalize matL (k + m) k (genF k) = lg at *
      generalize matL m (k + m) (chkF k) = lc at *
      generalize (k + m) * k = nG at *
      generalize m * (k + m) = nC at *
      generalize m * k = nX at *
      clear h
      have K := Lib.hid (Kn.nothing w)
      have W := Lib.hid (Since.refl w)
      go_enter Try.func11, Try.ntmps11
      go_wp2_with (first
        | (go_at_call 36; (with_reducible refine (awake5 _).mono ?_); rintro e w1 ⟨rfl, hbel⟩; (first | have K := Lib.hid (K.out.below hbel) | have K := Lib.hid ((K.out.alloc _).below hbel) | have K := Lib.hid (((K.out.alloc _).alloc _).below hbel) | have K := Lib.hid ((K.out.drewN _).below hbel) | have K := Lib.hid (((K.out.drewN _).alloc _).below hbel) | have K := Lib.hid (((K.out.alloc _).drewN _).below hbel) | have K := Lib.hid ((((K.out.alloc _).alloc _).drewN _).below hbel) | have K := Lib.hid ((((K.out.alloc _).alloc _).alloc _).below hbel) | have K := Lib.hid ((((K.out.drewN _).alloc _).alloc _).below hbel)); (first | have W := Lib.hid (W.out.below hbel) | have W := Lib.hid ((W.out.alloc _).below hbel) | have W := Lib.hid (((W.out.alloc _).alloc _).below hbel) | have W := Lib.hid ((W.out.drewN _).below hbel) | have W := Lib.hid (((W.out.drewN _).alloc _).below hbel) | have W := Lib.hid (((W.out.alloc _).drewN _).below hbel) | have W := Lib.hid ((((W.out.alloc _).alloc _).drewN _).below hbel) | have W := Lib.hid ((((W.out.alloc _).alloc _).alloc _).below hbel) | have W := Lib.hid ((((W.out.drewN _).alloc _).alloc _).below hbel)); clear hbel)
        | (go_at_call 37; (with_reducible refine (new_any _).mono ?_); rintro e w2 ⟨rfl, hbel, hg⟩; (first | have K := Lib.hid (K.out.below hbel) | have K := Lib.hid ((K.out.alloc _).below hbel) | have K := Lib.hid (((K.out.alloc _).alloc _).below hbel) | have K := Lib.hid ((K.out.drewN _).below hbel) | have K := Lib.hid (((K.out.drewN _).alloc _).below hbel) | have K := Lib.hid (((K.out.alloc _).drewN _).below hbel) | have K := Lib.hid ((((K.out.alloc _).alloc _).drewN _).below hbel) | have K := Lib.hid ((((K.out.alloc _).alloc _).alloc _).below hbel) | have K := Lib.hid ((((K.out.drewN _).alloc _).alloc _).below hbel)); (first | have W := Lib.hid (W.out.below hbel) | have W := Lib.hid ((W.out.alloc _).below hbel) | have W := Lib.hid (((W.out.alloc _).alloc _).below hbel) | have W := Lib.hid ((W.out.drewN _).below hbel) | have W := Lib.hid (((W.out.drewN _).alloc _).below hbel) | have W := Lib.hid (((W.out.alloc _).drewN _).below hbel) | have W := Lib.hid ((((W.out.alloc _).alloc _).drewN _).below hbel) | have W := Lib.hid ((((W.out.alloc _).alloc _).alloc _).below hbel) | have W := Lib.hid ((((W.out.drewN _).alloc _).alloc _).below hbel)); clear hbel; have K := Lib.hid (K.out.withF hg); clear hg)
        | (go_at_call 38; (with_reducible refine (CK.out _).mono ?_); rintro e wx ⟨rfl, rfl⟩)
        | (go_at_call 43; (with_reducible refine (PG.out _ _ ?_).mono ?_); (first | exact K.out.gf | exact (K.out.alloc _).gf | exact (K.out.drewN _).gf | exact ((K.out.alloc _).alloc _).gf | exact ((K.out.alloc _).drewN _).gf | exact (((K.out.alloc _).alloc _).alloc _).gf); rintro e w3 ⟨AG, cg, rfl, hbs, hbel⟩; (first | have K := Lib.hid (K.out.below hbel) | have K := Lib.hid ((K.out.alloc _).below hbel) | have K := Lib.hid (((K.out.alloc _).alloc _).below hbel) | have K := Lib.hid ((K.out.drewN _).below hbel) | have K := Lib.hid (((K.out.drewN _).alloc _).below hbel) | have K := Lib.hid (((K.out.alloc _).drewN _).below hbel) | have K := Lib.hid ((((K.out.alloc _).alloc _).drewN _).below hbel) | have K := Lib.hid ((((K.out.alloc _).alloc _).alloc _).below hbel) | have K := Lib.hid ((((K.out.drewN _).alloc _).alloc _).below hbel)); (first | have W := Lib.hid (W.out.below hbel) | have W := Lib.hid ((W.out.alloc _).below hbel) | have W := Lib.hid (((W.out.alloc _).alloc _).below hbel) | have W := Lib.hid ((W.out.drewN _).below hbel) | have W := Lib.hid (((W.out.drewN _).alloc _).below hbel) | have W := Lib.hid (((W.out.alloc _).drewN _).below hbel) | have W := Lib.hid ((((W.out.alloc _).alloc _).drewN _).below hbel) | have W := Lib.hid ((((W.out.alloc _).alloc _).alloc _).below hbel) | have W := Lib.hid ((((W.out.drewN _).alloc _).alloc _).below hbel)); have K := Lib.hid (K.out.sl hbs); have K := Lib.hid ((K.out.alloc (.cells #[.int .i64 ((k : Int) + (m : Int)), .int .i64 (k : Int), .slice AG nG cg] 30)).blk (Blk.new w3 #[.int .i64 ((k : Int) + (m : Int)), .int .i64 (k : Int), .slice AG nG cg] 30)); have W := Lib.hid (W.out.alloc (.cells #[.int .i64 ((k : Int) + (m : Int)), .int .i64 (k : Int), .slice AG nG cg] 30)); clear hbel)
        | (go_at_call 45; (with_reducible refine (PC.out _ _ ?_).mono ?_); (first | exact K.out.gf | exact (K.out.alloc _).gf | exact (K.out.drewN _).gf | exact ((K.out.alloc _).alloc _).gf | exact ((K.out.alloc _).drewN _).gf | exact (((K.out.alloc _).alloc _).alloc _).gf); rintro e w4 ⟨AC, cc, rfl, hbs, hbel⟩; (first | have K := Lib.hid (K.out.below hbel) | have K := Lib.hid ((K.out.alloc _).below hbel) | have K := Lib.hid (((K.out.alloc _).alloc _).below hbel) | have K := Lib.hid ((K.out.drewN _).below hbel) | have K := Lib.hid (((K.out.drewN _).alloc _).below hbel) | have K := Lib.hid (((K.out.alloc _).drewN _).below hbel) | have K := Lib.hid ((((K.out.alloc _).alloc _).drewN _).below hbel) | have K := Lib.hid ((((K.out.alloc _).alloc _).alloc _).below hbel) | have K := Lib.hid ((((K.out.drewN _).alloc _).alloc _).below hbel)); (first | have W := Lib.hid (W.out.below hbel) | have W := Lib.hid ((W.out.alloc _).below hbel) | have W := Lib.hid (((W.out.alloc _).alloc _).below hbel) | have W := Lib.hid ((W.out.drewN _).below hbel) | have W := Lib.hid (((W.out.drewN _).alloc _).below hbel) | have W := Lib.hid (((W.out.alloc _).drewN _).below hbel) | have W := Lib.hid ((((W.out.alloc _).alloc _).drewN _).below hbel) | have W := Lib.hid ((((W.out.alloc _).alloc _).alloc _).below hbel) | have W := Lib.hid ((((W.out.drewN _).alloc _).alloc _).below hbel)); have K := Lib.hid (K.out.sl hbs); have K := Lib.hid ((K.out.alloc (.cells #[.int .i64 (m : Int), .int .i64 ((k : Int) + (m : Int)), .slice AC nC cc] 30)).blk (Blk.new w4 #[.int .i64 (m : Int), .int .i64 ((k : Int) + (m : Int)), .slice AC nC cc] 30)); have W := Lib.hid (W.out.alloc (.cells #[.int .i64 (m : Int), .int .i64 ((k : Int) + (m : Int)), .slice AC nC cc] 30)); clear hbel; have p0 := (K.out.at (.tail _ (.head _))).cell 0; have p1 := (K.out.at (.tail _ (.head _))).cell 1; have p2 := (K.out.at (.tail _ (.head _))).cell 2; simp only [List.getElem?_toArray, List.getElem?_cons_succ, List.getElem?_cons_zero] at p0 p1 p2; have q0 := (K.out.at (.head _)).cell 0; have q1 := (K.out.at (.head _)).cell 1; have q2 := (K.out.at (.head _)).cell 2; simp only [List.getElem?_toArray, List.getElem?_cons_succ, List.getElem?_cons_zero] at q0 q1 q2)
        | (go_at_call 56; (with_reducible refine (MU.out _ _ _ _ _ _ ?_ ?_ ?_).mono ?_); exact K.out.gf; exact K.out.sat (.head _); exact K.out.sat (.tail _ (.head _)); rintro e w5 ⟨AX, cx, rfl, hbs, hbel⟩; (first | have K := Lib.hid (K.out.below hbel) | have K := Lib.hid ((K.out.alloc _).below hbel) | have K := Lib.hid (((K.out.alloc _).alloc _).below hbel) | have K := Lib.hid ((K.out.drewN _).below hbel) | have K := Lib.hid (((K.out.drewN _).alloc _).below hbel) | have K := Lib.hid (((K.out.alloc _).drewN _).below hbel) | have K := Lib.hid ((((K.out.alloc _).alloc _).drewN _).below hbel) | have K := Lib.hid ((((K.out.alloc _).alloc _).alloc _).below hbel) | have K := Lib.hid ((((K.out.drewN _).alloc _).alloc _).below hbel)); (first | have W := Lib.hid (W.out.below hbel) | have W := Lib.hid ((W.out.alloc _).below hbel) | have W := Lib.hid (((W.out.alloc _).alloc _).below hbel) | have W := Lib.hid ((W.out.drewN _).below hbel) | have W := Lib.hid (((W.out.drewN _).alloc _).below hbel) | have W := Lib.hid (((W.out.alloc _).drewN _).below hbel) | have W := Lib.hid ((((W.out.alloc _).alloc _).drewN _).below hbel) | have W := Lib.hid ((((W.out.alloc _).alloc _).alloc _).below hbel) | have W := Lib.hid ((((W.out.drewN _).alloc _).alloc _).below hbel)); have K := Lib.hid (K.out.sl hbs); have K := Lib.hid ((K.out.alloc (.cells #[.int .i64 (m : Int), .int .i64 (k : Int), .slice AX nX cx] 30)).blk (Blk.new w5 #[.int .i64 (m : Int), .int .i64 (k : Int), .slice AX nX cx] 30)); have W := Lib.hid (W.out.alloc (.cells #[.int .i64 (m : Int), .int .i64 (k : Int), .slice AX nX cx] 30)); clear hbel; have r0 := (K.out.at (.head _)).cell 0; have r1 := (K.out.at (.head _)).cell 1; have r2 := (K.out.at (.head _)).cell 2; simp only [List.getElem?_toArray, List.getElem?_cons_succ, List.getElem?_cons_zero] at r0 r1 r2))
      clear p0 p1 p2 q0 q1 q2 r0 r1 r2
      go_loopw [13] (fun v wr => ∃ i : Nat, i ≤ nX ∧ v = .int .i64 i ∧ Since (w5.alloc (.cells #[.int .i64 (m : Int), .int .i64 (k : Int), .slice AX nX cx] 30)) wr) (fun v _ => nX - (intOf v).toNat)
      case atStart => exact ⟨0, Nat.zero_le _, rfl, Since.refl _⟩
      case round =>
        obtain ⟨i, hi, rfl, hs⟩ := hrel
        have K1 := Lib.hid (K.out.below hs)
        have S1 := Lib.hid hs
        clear hs
        have p2 := (K1.out.at (.head _)).cell 2; simp only [List.getElem?_toArray, List.getElem?_cons_succ, List.getElem?_cons_zero] at p2
        by_cases hlt : i < nX
        · obtain ⟨b1, o1, h1, _, hc1⟩ := Bs.at' (K1.out.sat (.head _)) (by rw [LX.out]; omega); subst h1; have y1 := hc1 (i) (by rw [LX.out]; omega); clear hc1; skip
          rw [E1.out i hlt] at y1
          have y2 : wr.cell? ⟨b1, o1 + i, none⟩ = some (.int .u8 0) := y1
          clear y1
          go_wp2
          go_roundw
          case rel => exact ⟨i + 1, by omega, by go_num, S1.out⟩
          case measure => simp [intOf]; omega
        · have hi2 : i = nX := by omega
          subst hi2
          go_wp2
          go_ret
          exact ⟨rfl, W.out.below S1.out⟩
  · have CK : Hid (∀ w, Calls Try.prog 38 #[.int .i64 k, .int .i64 m] w fun e w' => e = .returned (.int .i64 50) ∧ w = w') := fun w => cauchy_check_bad k m hk hm h w
    clear h
    have K := Lib.hid (Kn.nothing w)
    have W := Lib.hid (Since.refl w)
    go_enter Try.func11, Try.ntmps11
    go_wp2_with (first
      | (go_at_call 36; (with_reducible refine (awake5 _).mono ?_); rintro e w1 ⟨rfl, hbel⟩; (first | have K := Lib.hid (K.out.below hbel) | have K := Lib.hid ((K.out.alloc _).below hbel) | have K := Lib.hid (((K.out.alloc _).alloc _).below hbel) | have K := Lib.hid ((K.out.drewN _).below hbel) | have K := Lib.hid (((K.out.drewN _).alloc _).below hbel) | have K := Lib.hid (((K.out.alloc _).drewN _).below hbel) | have K := Lib.hid ((((K.out.alloc _).alloc _).drewN _).below hbel) | have K := Lib.hid ((((K.out.alloc _).alloc _).alloc _).below hbel) | have K := Lib.hid ((((K.out.drewN _).alloc _).alloc _).below hbel)); (first | have W := Lib.hid (W.out.below hbel) | have W := Lib.hid ((W.out.alloc _).below hbel) | have W := Lib.hid (((W.out.alloc _).alloc _).below hbel) | have W := Lib.hid ((W.out.drewN _).below hbel) | have W := Lib.hid (((W.out.drewN _).alloc _).below hbel) | have W := Lib.hid (((W.out.alloc _).drewN _).below hbel) | have W := Lib.hid ((((W.out.alloc _).alloc _).drewN _).below hbel) | have W := Lib.hid ((((W.out.alloc _).alloc _).alloc _).below hbel) | have W := Lib.hid ((((W.out.drewN _).alloc _).alloc _).below hbel)); clear hbel)
      | (go_at_call 37; (with_reducible refine (new_any _).mono ?_); rintro e w2 ⟨rfl, hbel, hg⟩; (first | have K := Lib.hid (K.out.below hbel) | have K := Lib.hid ((K.out.alloc _).below hbel) | have K := Lib.hid (((K.out.alloc _).alloc _).below hbel) | have K := Lib.hid ((K.out.drewN _).below hbel) | have K := Lib.hid (((K.out.drewN _).alloc _).below hbel) | have K := Lib.hid (((K.out.alloc _).drewN _).below hbel) | have K := Lib.hid ((((K.out.alloc _).alloc _).drewN _).below hbel) | have K := Lib.hid ((((K.out.alloc _).alloc _).alloc _).below hbel) | have K := Lib.hid ((((K.out.drewN _).alloc _).alloc _).below hbel)); (first | have W := Lib.hid (W.out.below hbel) | have W := Lib.hid ((W.out.alloc _).below hbel) | have W := Lib.hid (((W.out.alloc _).alloc _).below hbel) | have W := Lib.hid ((W.out.drewN _).below hbel) | have W := Lib.hid (((W.out.drewN _).alloc _).below hbel) | have W := Lib.hid (((W.out.alloc _).drewN _).below hbel) | have W := Lib.hid ((((W.out.alloc _).alloc _).drewN _).below hbel) | have W := Lib.hid ((((W.out.alloc _).alloc _).alloc _).below hbel) | have W := Lib.hid ((((W.out.drewN _).alloc _).alloc _).below hbel)); clear hbel; have K := Lib.hid (K.out.withF hg); clear hg)
      | (go_at_call 38; (with_reducible refine (CK.out _).mono ?_); rintro e wx ⟨rfl, rfl⟩))
    all_goals (go_ret; exact ⟨rfl, W.out⟩)
end Go.Proofs.Ytmkjplpnoohfnaa
