/- CauchyMore and CauchyNought, walked. -/
import Derived.Test.YtmkjplpnoohfnaaLaw05
import Derived.Test.YtmkjplpnoohfnaaCauFacts
import Derived.Test.YtmkjplpnoohfnaaMxM
namespace Go.Proofs.Ytmkjplpnoohfnaa
open Go.RowKit
set_option linter.unusedVariables false
set_option linter.unusedSimpArgs false
theorem gen_more {k m n : Nat} (h : n ≤ m) (i : Nat) (hi : i < (k + n) * k) : (matL (k + m) k (genF k)).getD i 0 = (matL (k + n) k (genF k)).getD i 0 := by
  have hd := div_rows hi
  have e : i / k * k + i % k = i := by rw [Nat.mul_comm]; exact Nat.div_add_mod i k
  rw [← e, getD_matL _ (by omega) hd.2, getD_matL _ hd.1 hd.2]
theorem gen_par {k m : Nat} (hk : k + m ≤ 256) (i : Nat) (hi : i < m * k) : (matL (k + m) k (genF k)).getD (k * k + i) 0 = (matL m k (parF k)).getD i 0 ∧ (matL m k (parF k)).getD i 0 ≠ 0 := by
  have hd := div_rows hi
  have e : i / k * k + i % k = i := by rw [Nat.mul_comm]; exact Nat.div_add_mod i k
  have e2 : k * k + i = (k + i / k) * k + i % k := by rw [Nat.add_mul]; omega
  have e3 : (matL m k (parF k)).getD i 0 = cau (k + i / k) (i % k) := by
    conv => lhs; rw [← e]
    rw [getD_matL _ hd.1 hd.2]; rfl
  rw [e2, e3]
  clear e e2 e3
  generalize i / k = q at *
  generalize i % k = s at *
  rw [getD_matL _ (by omega) hd.2, genF, if_neg (by omega)]
  exact ⟨rfl, cau_ne_zero (by omega) (by omega) (by omega)⟩
theorem chk_gen {k m : Nat} (r c : Nat) (hr : r < m) (hc : c < k) : mmul (k + m) (chkF k) (genF k) r c = 0 := by
  unfold mmul
  rw [sumF_append]
  have e1 : (sumF k fun i => chkF k r i * genF k i c) = cau (k + r) c := by
    rw [sumF_one c hc fun i hi hne => by rw [genF, if_pos hi, dlt_ne hne, F.mul_zero], chkF, if_pos hc, genF, if_pos hc, dlt_self, F.mul_one]
  have e2 : (sumF m fun i => chkF k r (k + i) * genF k (k + i) c) = cau (k + r) c := by
    rw [sumF_one r hr fun i hi hne => by rw [chkF, if_neg (by omega), dlt_ne (by omega), F.zero_mul], chkF, if_neg (by omega), dlt_self, F.one_mul, genF, if_neg (by omega)]
  rw [e1, e2, F.add_self]
set_option maxRecDepth 1000000 in
set_option maxHeartbeats 4000000 in
theorem walk_CauchyMore {w : World} (k : Int) (hk : -9223372036854775808 ≤ k ∧ k ≤ 9223372036854775807) (m : Int) (hm : -9223372036854775808 ≤ m ∧ m ≤ 9223372036854775807) :
    Calls Try.prog 5 #[.int .i64 k, .int .i64 m] w fun e w' => e = .returned (.bool true) ∧ Below w.heap.size w w' := by
  by_cases h : okkm k m
  · have CK : Hid (∀ w, Calls Try.prog 38 #[.int .i64 k, .int .i64 m] w fun e w' => e = .returned (.int .i64 0) ∧ w = w') := fun w => cauchy_check_ok k m h w
    have hk2 := h.1
    have hm2 := h.2.1
    have hkm2 := h.2.2
    by_cases g0 : 40 < k + m
    · have t0 : decide (40 < k + m) = true := decide_eq_true g0
      clear h
      have K := Lib.hid (Kn.nothing w)
      have W := Lib.hid (Since.refl w)
      go_enter Try.func5, Try.ntmps5
      go_wp2_with (first
        | (go_at_call 36; (with_reducible refine (awake5 _).mono ?_); rintro e w1 ⟨rfl, hbel⟩; (first | have K := Lib.hid (K.out.below hbel) | have K := Lib.hid ((K.out.alloc _).below hbel) | have K := Lib.hid (((K.out.alloc _).alloc _).below hbel) | have K := Lib.hid ((K.out.drewN _).below hbel) | have K := Lib.hid (((K.out.drewN _).alloc _).below hbel) | have K := Lib.hid (((K.out.alloc _).drewN _).below hbel) | have K := Lib.hid ((((K.out.alloc _).alloc _).drewN _).below hbel) | have K := Lib.hid ((((K.out.alloc _).alloc _).alloc _).below hbel) | have K := Lib.hid ((((K.out.drewN _).alloc _).alloc _).below hbel)); (first | have W := Lib.hid (W.out.below hbel) | have W := Lib.hid ((W.out.alloc _).below hbel) | have W := Lib.hid (((W.out.alloc _).alloc _).below hbel) | have W := Lib.hid ((W.out.drewN _).below hbel) | have W := Lib.hid (((W.out.drewN _).alloc _).below hbel) | have W := Lib.hid (((W.out.alloc _).drewN _).below hbel) | have W := Lib.hid ((((W.out.alloc _).alloc _).drewN _).below hbel) | have W := Lib.hid ((((W.out.alloc _).alloc _).alloc _).below hbel) | have W := Lib.hid ((((W.out.drewN _).alloc _).alloc _).below hbel)); clear hbel)
        | (go_at_call 37; (with_reducible refine (new_any _).mono ?_); rintro e w2 ⟨rfl, hbel, hg⟩; (first | have K := Lib.hid (K.out.below hbel) | have K := Lib.hid ((K.out.alloc _).below hbel) | have K := Lib.hid (((K.out.alloc _).alloc _).below hbel) | have K := Lib.hid ((K.out.drewN _).below hbel) | have K := Lib.hid (((K.out.drewN _).alloc _).below hbel) | have K := Lib.hid (((K.out.alloc _).drewN _).below hbel) | have K := Lib.hid ((((K.out.alloc _).alloc _).drewN _).below hbel) | have K := Lib.hid ((((K.out.alloc _).alloc _).alloc _).below hbel) | have K := Lib.hid ((((K.out.drewN _).alloc _).alloc _).below hbel)); (first | have W := Lib.hid (W.out.below hbel) | have W := Lib.hid ((W.out.alloc _).below hbel) | have W := Lib.hid (((W.out.alloc _).alloc _).below hbel) | have W := Lib.hid ((W.out.drewN _).below hbel) | have W := Lib.hid (((W.out.drewN _).alloc _).below hbel) | have W := Lib.hid (((W.out.alloc _).drewN _).below hbel) | have W := Lib.hid ((((W.out.alloc _).alloc _).drewN _).below hbel) | have W := Lib.hid ((((W.out.alloc _).alloc _).alloc _).below hbel) | have W := Lib.hid ((((W.out.drewN _).alloc _).alloc _).below hbel)); clear hbel; have K := Lib.hid (K.out.withF hg); clear hg)
        | (go_at_call 38; (with_reducible refine (CK.out _).mono ?_); rintro e wx ⟨rfl, rfl⟩))
      all_goals (go_ret; exact ⟨rfl, W.out⟩)
    · have t0 : decide (40 < k + m) = false := decide_eq_false g0
      by_cases g1 : m = 0
      · subst g1
        clear h
        have K := Lib.hid (Kn.nothing w)
        have W := Lib.hid (Since.refl w)
        go_enter Try.func5, Try.ntmps5
        go_wp2_with (first
          | (go_at_call 36; (with_reducible refine (awake5 _).mono ?_); rintro e w1 ⟨rfl, hbel⟩; (first | have K := Lib.hid (K.out.below hbel) | have K := Lib.hid ((K.out.alloc _).below hbel) | have K := Lib.hid (((K.out.alloc _).alloc _).below hbel) | have K := Lib.hid ((K.out.drewN _).below hbel) | have K := Lib.hid (((K.out.drewN _).alloc _).below hbel) | have K := Lib.hid (((K.out.alloc _).drewN _).below hbel) | have K := Lib.hid ((((K.out.alloc _).alloc _).drewN _).below hbel) | have K := Lib.hid ((((K.out.alloc _).alloc _).alloc _).below hbel) | have K := Lib.hid ((((K.out.drewN _).alloc _).alloc _).below hbel)); (first | have W := Lib.hid (W.out.below hbel) | have W := Lib.hid ((W.out.alloc _).below hbel) | have W := Lib.hid (((W.out.alloc _).alloc _).below hbel) | have W := Lib.hid ((W.out.drewN _).below hbel) | have W := Lib.hid (((W.out.drewN _).alloc _).below hbel) | have W := Lib.hid (((W.out.alloc _).drewN _).below hbel) | have W := Lib.hid ((((W.out.alloc _).alloc _).drewN _).below hbel) | have W := Lib.hid ((((W.out.alloc _).alloc _).alloc _).below hbel) | have W := Lib.hid ((((W.out.drewN _).alloc _).alloc _).below hbel)); clear hbel)
          | (go_at_call 37; (with_reducible refine (new_any _).mono ?_); rintro e w2 ⟨rfl, hbel, hg⟩; (first | have K := Lib.hid (K.out.below hbel) | have K := Lib.hid ((K.out.alloc _).below hbel) | have K := Lib.hid (((K.out.alloc _).alloc _).below hbel) | have K := Lib.hid ((K.out.drewN _).below hbel) | have K := Lib.hid (((K.out.drewN _).alloc _).below hbel) | have K := Lib.hid (((K.out.alloc _).drewN _).below hbel) | have K := Lib.hid ((((K.out.alloc _).alloc _).drewN _).below hbel) | have K := Lib.hid ((((K.out.alloc _).alloc _).alloc _).below hbel) | have K := Lib.hid ((((K.out.drewN _).alloc _).alloc _).below hbel)); (first | have W := Lib.hid (W.out.below hbel) | have W := Lib.hid ((W.out.alloc _).below hbel) | have W := Lib.hid (((W.out.alloc _).alloc _).below hbel) | have W := Lib.hid ((W.out.drewN _).below hbel) | have W := Lib.hid (((W.out.drewN _).alloc _).below hbel) | have W := Lib.hid (((W.out.alloc _).drewN _).below hbel) | have W := Lib.hid ((((W.out.alloc _).alloc _).drewN _).below hbel) | have W := Lib.hid ((((W.out.alloc _).alloc _).alloc _).below hbel) | have W := Lib.hid ((((W.out.drewN _).alloc _).alloc _).below hbel)); clear hbel; have K := Lib.hid (K.out.withF hg); clear hg)
          | (go_at_call 38; (with_reducible refine (CK.out _).mono ?_); rintro e wx ⟨rfl, rfl⟩))
        all_goals (go_ret; exact ⟨rfl, W.out⟩)
      · have t1 : decide (m = 0) = false := decide_eq_false g1
        obtain ⟨k, rfl⟩ := Int.eq_ofNat_of_zero_le (by omega : 0 ≤ k)
        obtain ⟨m0, rfl⟩ := Int.eq_ofNat_of_zero_le (by omega : 0 ≤ m)
        obtain ⟨m, rfl⟩ : ∃ m, m0 = m + 1 := ⟨m0 - 1, by omega⟩
        have hkm4 : k + m + 1 ≤ 40 := by omega
        have PA : Hid (∀ (b : Nat) (w : World), GfAt w b → Calls Try.prog 43 #[fp b, .int .i64 k, .int .i64 ((m + 1 : Nat) : Int)] w fun e w' => ∃ A' c', e = .returned (.tuple #[.agg #[.int .i64 ((k : Int) + ((m + 1 : Nat) : Int)), .int .i64 (k : Int), .slice A' ((k + (m + 1)) * k) c'], .int .i64 0]) ∧ Bs w' A' c' (matL (k + (m + 1)) k (genF k)) ∧ Below w.heap.size w w') := fun b w hg => by
          refine (cauchy_Generator b k (m + 1) ⟨by omega, by omega, by omega⟩ w hg).mono ?_
          rintro e w' ⟨A', c', he, ho, hb⟩
          exact ⟨A', c', he, own_sl ho, hb⟩
        have PB : Hid (∀ (b : Nat) (w : World), GfAt w b → Calls Try.prog 43 #[fp b, .int .i64 k, .int .i64 (m : Int)] w fun e w' => ∃ A' c', e = .returned (.tuple #[.agg #[.int .i64 ((k : Int) + (m : Int)), .int .i64 (k : Int), .slice A' ((k + m) * k) c'], .int .i64 0]) ∧ Bs w' A' c' (matL (k + m) k (genF k)) ∧ Below w.heap.size w w') := fun b w hg => by
          refine (cauchy_Generator b k m ⟨by omega, by omega, by omega⟩ w hg).mono ?_
          rintro e w' ⟨A', c', he, ho, hb⟩
          exact ⟨A', c', he, own_sl ho, hb⟩
        have PP : Hid (∀ (b : Nat) (w : World), GfAt w b → Calls Try.prog 41 #[fp b, .int .i64 k, .int .i64 ((m + 1 : Nat) : Int)] w fun e w' => ∃ A' c', e = .returned (.tuple #[.agg #[.int .i64 ((m + 1 : Nat) : Int), .int .i64 (k : Int), .slice A' ((m + 1) * k) c'], .int .i64 0]) ∧ Bs w' A' c' (matL (m + 1) k (parF k)) ∧ Below w.heap.size w w') := fun b w hg => by
          refine (cauchy_Parity b k (m + 1) ⟨by omega, by omega, by omega⟩ w hg).mono ?_
          rintro e w' ⟨A', c', he, ho, hb⟩
          exact ⟨A', c', he, own_sl ho, hb⟩
        have E1 : Hid (∀ i, i < (k + m) * k → (matL (k + (m + 1)) k (genF k)).getD i 0 = (matL (k + m) k (genF k)).getD i 0) := fun i hi => gen_more (by omega) i hi
        have E2 : Hid (∀ i, i < (m + 1) * k → (matL (k + (m + 1)) k (genF k)).getD (k * k + i) 0 = (matL (m + 1) k (parF k)).getD i 0 ∧ (matL (m + 1) k (parF k)).getD i 0 ≠ 0) := fun i hi => gen_par (by omega) i hi
        have LA : Hid ((matL (k + (m + 1)) k (genF k)).length = (k + (m + 1)) * k) := length_matL _ _ _
        have LB : Hid ((matL (k + m) k (genF k)).length = (k + m) * k) := length_matL _ _ _
        have LP : Hid ((matL (m + 1) k (parF k)).length = (m + 1) * k) := length_matL _ _ _
        have nA2 : (k + (m + 1)) * k = (k + m) * k + k := by rw [← Nat.add_assoc, Nat.succ_mul]
        have nA3 : (k + (m + 1)) * k = k * k + (m + 1) * k := by rw [Nat.add_mul]
        have nBb : (k + m) * k ≤ 1600 := Nat.mul_le_mul (by omega : k + m ≤ 40) (by omega : k ≤ 40)
        have c1 : ((k : Int) + ((m + 1 : Nat) : Int)) * (k : Int) = (((k + (m + 1)) * k : Nat) : Int) := by simp
        have c2 : ((m + 1 : Nat) : Int) * (k : Int) = (((m + 1) * k : Nat) : Int) := by simp
        have c3 : (k : Int) * (k : Int) = ((k * k : Nat) : Int) := by simp
        generalize matL (k + (m + 1)) k (genF k) = la at *
        generalize matL (k + m) k (genF k) = lb at *
        generalize matL (m + 1) k (parF k) = lp at *
        generalize (k + (m + 1)) * k = nA at *
        generalize (k + m) * k = nB at *
        generalize (m + 1) * k = nP at *
        generalize hkk : k * k = kk at *
        rw [Int.natCast_add, Int.natCast_one] at *
        have nA4 : (nA : Int) - (k : Int) = (nB : Int) := by omega
        have i1 : IntKind.i64.wrap (((k : Int) + ((m : Int) + 1)) * (k : Int)) = (nA : Int) := by rw [c1, IntKind.wrap_i64]; omega
        have i2 : IntKind.i64.wrap (((m : Int) + 1) * (k : Int)) = (nP : Int) := by rw [c2, IntKind.wrap_i64]; omega
        have i3 : IntKind.i64.wrap ((k : Int) * (k : Int)) = (kk : Int) := by rw [c3, IntKind.wrap_i64]; omega
        have C1 := Lib.hid c1
        have C2 := Lib.hid c2
        have C3 := Lib.hid c3
        have nA5 : nA ≤ kk + nP := by omega
        have nA6 : kk + nP ≤ nA := by omega
        have nA7 : nA ≤ nB + k := by omega
        have nA8 : nB + k ≤ nA := by omega
        clear c1 c2 c3 h hkk nA2 nA3
        have K := Lib.hid (Kn.nothing w)
        have W := Lib.hid (Since.refl w)
        go_enter Try.func5, Try.ntmps5
        go_wp2_with (first
          | (go_at_call 36; (with_reducible refine (awake5 _).mono ?_); rintro e w1 ⟨rfl, hbel⟩; (first | have K := Lib.hid (K.out.below hbel) | have K := Lib.hid ((K.out.alloc _).below hbel) | have K := Lib.hid (((K.out.alloc _).alloc _).below hbel) | have K := Lib.hid ((K.out.drewN _).below hbel) | have K := Lib.hid (((K.out.drewN _).alloc _).below hbel) | have K := Lib.hid (((K.out.alloc _).drewN _).below hbel) | have K := Lib.hid ((((K.out.alloc _).alloc _).drewN _).below hbel) | have K := Lib.hid ((((K.out.alloc _).alloc _).alloc _).below hbel) | have K := Lib.hid ((((K.out.drewN _).alloc _).alloc _).below hbel)); (first | have W := Lib.hid (W.out.below hbel) | have W := Lib.hid ((W.out.alloc _).below hbel) | have W := Lib.hid (((W.out.alloc _).alloc _).below hbel) | have W := Lib.hid ((W.out.drewN _).below hbel) | have W := Lib.hid (((W.out.drewN _).alloc _).below hbel) | have W := Lib.hid (((W.out.alloc _).drewN _).below hbel) | have W := Lib.hid ((((W.out.alloc _).alloc _).drewN _).below hbel) | have W := Lib.hid ((((W.out.alloc _).alloc _).alloc _).below hbel) | have W := Lib.hid ((((W.out.drewN _).alloc _).alloc _).below hbel)); clear hbel)
          | (go_at_call 37; (with_reducible refine (new_any _).mono ?_); rintro e w2 ⟨rfl, hbel, hg⟩; (first | have K := Lib.hid (K.out.below hbel) | have K := Lib.hid ((K.out.alloc _).below hbel) | have K := Lib.hid (((K.out.alloc _).alloc _).below hbel) | have K := Lib.hid ((K.out.drewN _).below hbel) | have K := Lib.hid (((K.out.drewN _).alloc _).below hbel) | have K := Lib.hid (((K.out.alloc _).drewN _).below hbel) | have K := Lib.hid ((((K.out.alloc _).alloc _).drewN _).below hbel) | have K := Lib.hid ((((K.out.alloc _).alloc _).alloc _).below hbel) | have K := Lib.hid ((((K.out.drewN _).alloc _).alloc _).below hbel)); (first | have W := Lib.hid (W.out.below hbel) | have W := Lib.hid ((W.out.alloc _).below hbel) | have W := Lib.hid (((W.out.alloc _).alloc _).below hbel) | have W := Lib.hid ((W.out.drewN _).below hbel) | have W := Lib.hid (((W.out.drewN _).alloc _).below hbel) | have W := Lib.hid (((W.out.alloc _).drewN _).below hbel) | have W := Lib.hid ((((W.out.alloc _).alloc _).drewN _).below hbel) | have W := Lib.hid ((((W.out.alloc _).alloc _).alloc _).below hbel) | have W := Lib.hid ((((W.out.drewN _).alloc _).alloc _).below hbel)); clear hbel; have K := Lib.hid (K.out.withF hg); clear hg)
          | (go_at_call 38; (with_reducible refine (CK.out _).mono ?_); rintro e wx ⟨rfl, rfl⟩)
          | (go_at_call 43; (with_reducible refine (PA.out _ _ ?_).mono ?_); (first | exact K.out.gf | exact (K.out.alloc _).gf | exact (K.out.drewN _).gf | exact ((K.out.alloc _).alloc _).gf | exact ((K.out.alloc _).drewN _).gf | exact (((K.out.alloc _).alloc _).alloc _).gf); rintro e w3 ⟨AA, ca, rfl, hbs, hbel⟩; (first | have K := Lib.hid (K.out.below hbel) | have K := Lib.hid ((K.out.alloc _).below hbel) | have K := Lib.hid (((K.out.alloc _).alloc _).below hbel) | have K := Lib.hid ((K.out.drewN _).below hbel) | have K := Lib.hid (((K.out.drewN _).alloc _).below hbel) | have K := Lib.hid (((K.out.alloc _).drewN _).below hbel) | have K := Lib.hid ((((K.out.alloc _).alloc _).drewN _).below hbel) | have K := Lib.hid ((((K.out.alloc _).alloc _).alloc _).below hbel) | have K := Lib.hid ((((K.out.drewN _).alloc _).alloc _).below hbel)); (first | have W := Lib.hid (W.out.below hbel) | have W := Lib.hid ((W.out.alloc _).below hbel) | have W := Lib.hid (((W.out.alloc _).alloc _).below hbel) | have W := Lib.hid ((W.out.drewN _).below hbel) | have W := Lib.hid (((W.out.drewN _).alloc _).below hbel) | have W := Lib.hid (((W.out.alloc _).drewN _).below hbel) | have W := Lib.hid ((((W.out.alloc _).alloc _).drewN _).below hbel) | have W := Lib.hid ((((W.out.alloc _).alloc _).alloc _).below hbel) | have W := Lib.hid ((((W.out.drewN _).alloc _).alloc _).below hbel)); have K := Lib.hid (K.out.sl hbs); have K := Lib.hid ((K.out.alloc (.cells #[.int .i64 ((k : Int) + ((m : Int) + 1)), .int .i64 (k : Int), .slice AA nA ca] 30)).blk (Blk.new w3 #[.int .i64 ((k : Int) + ((m : Int) + 1)), .int .i64 (k : Int), .slice AA nA ca] 30)); have W := Lib.hid (W.out.alloc (.cells #[.int .i64 ((k : Int) + ((m : Int) + 1)), .int .i64 (k : Int), .slice AA nA ca] 30)); clear hbel)
          | (go_at_call 43; (with_reducible refine (PB.out _ _ ?_).mono ?_); (first | exact K.out.gf | exact (K.out.alloc _).gf | exact (K.out.drewN _).gf | exact ((K.out.alloc _).alloc _).gf | exact ((K.out.alloc _).drewN _).gf | exact (((K.out.alloc _).alloc _).alloc _).gf); rintro e w4 ⟨AB, cb, rfl, hbs, hbel⟩; (first | have K := Lib.hid (K.out.below hbel) | have K := Lib.hid ((K.out.alloc _).below hbel) | have K := Lib.hid (((K.out.alloc _).alloc _).below hbel) | have K := Lib.hid ((K.out.drewN _).below hbel) | have K := Lib.hid (((K.out.drewN _).alloc _).below hbel) | have K := Lib.hid (((K.out.alloc _).drewN _).below hbel) | have K := Lib.hid ((((K.out.alloc _).alloc _).drewN _).below hbel) | have K := Lib.hid ((((K.out.alloc _).alloc _).alloc _).below hbel) | have K := Lib.hid ((((K.out.drewN _).alloc _).alloc _).below hbel)); (first | have W := Lib.hid (W.out.below hbel) | have W := Lib.hid ((W.out.alloc _).below hbel) | have W := Lib.hid (((W.out.alloc _).alloc _).below hbel) | have W := Lib.hid ((W.out.drewN _).below hbel) | have W := Lib.hid (((W.out.drewN _).alloc _).below hbel) | have W := Lib.hid (((W.out.alloc _).drewN _).below hbel) | have W := Lib.hid ((((W.out.alloc _).alloc _).drewN _).below hbel) | have W := Lib.hid ((((W.out.alloc _).alloc _).alloc _).below hbel) | have W := Lib.hid ((((W.out.drewN _).alloc _).alloc _).below hbel)); have K := Lib.hid (K.out.sl hbs); have K := Lib.hid ((K.out.alloc (.cells #[.int .i64 ((k : Int) + (m : Int)), .int .i64 (k : Int), .slice AB nB cb] 30)).blk (Blk.new w4 #[.int .i64 ((k : Int) + (m : Int)), .int .i64 (k : Int), .slice AB nB cb] 30)); have W := Lib.hid (W.out.alloc (.cells #[.int .i64 ((k : Int) + (m : Int)), .int .i64 (k : Int), .slice AB nB cb] 30)); clear hbel)
          | (go_at_call 41; (with_reducible refine (PP.out _ _ ?_).mono ?_); (first | exact K.out.gf | exact (K.out.alloc _).gf | exact (K.out.drewN _).gf | exact ((K.out.alloc _).alloc _).gf | exact ((K.out.alloc _).drewN _).gf | exact (((K.out.alloc _).alloc _).alloc _).gf); rintro e w5 ⟨AP, cp, rfl, hbs, hbel⟩; (first | have K := Lib.hid (K.out.below hbel) | have K := Lib.hid ((K.out.alloc _).below hbel) | have K := Lib.hid (((K.out.alloc _).alloc _).below hbel) | have K := Lib.hid ((K.out.drewN _).below hbel) | have K := Lib.hid (((K.out.drewN _).alloc _).below hbel) | have K := Lib.hid (((K.out.alloc _).drewN _).below hbel) | have K := Lib.hid ((((K.out.alloc _).alloc _).drewN _).below hbel) | have K := Lib.hid ((((K.out.alloc _).alloc _).alloc _).below hbel) | have K := Lib.hid ((((K.out.drewN _).alloc _).alloc _).below hbel)); (first | have W := Lib.hid (W.out.below hbel) | have W := Lib.hid ((W.out.alloc _).below hbel) | have W := Lib.hid (((W.out.alloc _).alloc _).below hbel) | have W := Lib.hid ((W.out.drewN _).below hbel) | have W := Lib.hid (((W.out.drewN _).alloc _).below hbel) | have W := Lib.hid (((W.out.alloc _).drewN _).below hbel) | have W := Lib.hid ((((W.out.alloc _).alloc _).drewN _).below hbel) | have W := Lib.hid ((((W.out.alloc _).alloc _).alloc _).below hbel) | have W := Lib.hid ((((W.out.drewN _).alloc _).alloc _).below hbel)); have K := Lib.hid (K.out.sl hbs); have K := Lib.hid ((K.out.alloc (.cells #[.int .i64 ((m : Int) + 1), .int .i64 (k : Int), .slice AP nP cp] 30)).blk (Blk.new w5 #[.int .i64 ((m : Int) + 1), .int .i64 (k : Int), .slice AP nP cp] 30)); have W := Lib.hid (W.out.alloc (.cells #[.int .i64 ((m : Int) + 1), .int .i64 (k : Int), .slice AP nP cp] 30)); clear hbel; have p2 := (K.out.at (.tail _ (.tail _ (.head _)))).cell 2; simp only [List.getElem?_toArray, List.getElem?_cons_succ, List.getElem?_cons_zero] at p2; have q2 := (K.out.at (.tail _ (.head _))).cell 2; simp only [List.getElem?_toArray, List.getElem?_cons_succ, List.getElem?_cons_zero] at q2; have r2 := (K.out.at (.head _)).cell 2; simp only [List.getElem?_toArray, List.getElem?_cons_succ, List.getElem?_cons_zero] at r2))
        go_loopw [13] (fun v wr => ∃ i : Nat, i ≤ nB ∧ v = .int .i64 i ∧ Since (w5.alloc (.cells #[.int .i64 ((m : Int) + 1), .int .i64 (k : Int), .slice AP nP cp] 30)) wr) (fun v _ => nB - (intOf v).toNat)
        case atStart => exact ⟨0, Nat.zero_le _, rfl, Since.refl _⟩
        case round =>
          obtain ⟨i, hi, rfl, hs⟩ := hrel
          have K1 := Lib.hid (K.out.below hs)
          have S1 := Lib.hid hs
          clear hs
          by_cases hlt : i < nB
          · obtain ⟨b1, o1, h1, _, hc1⟩ := Bs.at' (K1.out.sat (.tail _ (.tail _ (.head _)))) (by rw [LA.out]; omega); subst h1; have y1 := hc1 (i) (by rw [LA.out]; omega); clear hc1; skip; obtain ⟨b2, o2, h2, _, hc2⟩ := Bs.at' (K1.out.sat (.tail _ (.head _))) (by rw [LB.out]; omega); subst h2; have y2 := hc2 (i) (by rw [LB.out]; omega); clear hc2; skip
            clear p2 q2 r2; have p2 := (K1.out.at (.tail _ (.tail _ (.head _)))).cell 2; simp only [List.getElem?_toArray, List.getElem?_cons_succ, List.getElem?_cons_zero] at p2; have q2 := (K1.out.at (.tail _ (.head _))).cell 2; simp only [List.getElem?_toArray, List.getElem?_cons_succ, List.getElem?_cons_zero] at q2
            have e1 := E1.out i hlt
            rw [e1] at y1
            clear e1
            generalize lb.getD i 0 = x at *
            have hx : ((x.n : Int) != (x.n : Int)) = false := by simp
            go_wp2
            go_quiet (fail)
            go_wp2
            go_roundw
            case rel => exact ⟨i + 1, by omega, by go_num, S1.out.drewN _⟩
            case measure => simp [intOf]; omega
          · have hi2 : i = nB := by omega
            subst hi2
            clear p2 q2 r2; have p2 := (K1.out.at (.tail _ (.tail _ (.head _)))).cell 2; simp only [List.getElem?_toArray, List.getElem?_cons_succ, List.getElem?_cons_zero] at p2; have q2 := (K1.out.at (.tail _ (.head _))).cell 2; simp only [List.getElem?_toArray, List.getElem?_cons_succ, List.getElem?_cons_zero] at q2; have r2 := (K1.out.at (.head _)).cell 2; simp only [List.getElem?_toArray, List.getElem?_cons_succ, List.getElem?_cons_zero] at r2
            go_wp2
            clear p2 q2 r2
            go_loopw [14] (fun v wr => ∃ i : Nat, i ≤ nP ∧ v = .int .i64 i ∧ Since (w5.alloc (.cells #[.int .i64 ((m : Int) + 1), .int .i64 (k : Int), .slice AP nP cp] 30)) wr) (fun v _ => nP - (intOf v).toNat)
            case atStart => exact ⟨0, Nat.zero_le _, rfl, S1.out⟩
            case round =>
              clear K1 S1
              obtain ⟨j, hj, rfl, hs⟩ := hrel
              have K1 := Lib.hid (K.out.below hs)
              have S1 := Lib.hid hs
              clear hs
              by_cases hlt2 : j < nP
              · obtain ⟨b1, o1, h1, _, hc1⟩ := Bs.at' (K1.out.sat (.tail _ (.tail _ (.head _)))) (by rw [LA.out]; omega); subst h1; have y1 := hc1 (kk + j) (by rw [LA.out]; omega); clear hc1; skip; obtain ⟨b2, o2, h2, _, hc2⟩ := Bs.at' (K1.out.sat (.head _)) (by rw [LP.out]; omega); subst h2; have y2 := hc2 (j) (by rw [LP.out]; omega); clear hc2; skip
                have p2 := (K1.out.at (.tail _ (.tail _ (.head _)))).cell 2; simp only [List.getElem?_toArray, List.getElem?_cons_succ, List.getElem?_cons_zero] at p2; have r2 := (K1.out.at (.head _)).cell 2; simp only [List.getElem?_toArray, List.getElem?_cons_succ, List.getElem?_cons_zero] at r2
                have e1 := (E2.out j hlt2).1
                have e2 := (E2.out j hlt2).2
                rw [e1] at y1
                clear e1
                generalize lp.getD j 0 = x at *
                have hx : ((x.n : Int) != (x.n : Int)) = false := by simp
                have hx0 : ((x.n : Int) == 0) = false := bne_n (y := 0) e2
                clear e2
                go_wp2
                go_quiet (fail)
                go_wp2
                go_roundw
                case rel => exact ⟨j + 1, by omega, by go_num, S1.out.drewN _⟩
                case measure => simp [intOf]; omega
              · have hj2 : j = nP := by omega
                subst hj2
                have p2 := (K1.out.at (.tail _ (.tail _ (.head _)))).cell 2; simp only [List.getElem?_toArray, List.getElem?_cons_succ, List.getElem?_cons_zero] at p2; have r2 := (K1.out.at (.head _)).cell 2; simp only [List.getElem?_toArray, List.getElem?_cons_succ, List.getElem?_cons_zero] at r2
                go_wp2
                go_ret
                exact ⟨rfl, W.out.below S1.out⟩
  · have CK : Hid (∀ w, Calls Try.prog 38 #[.int .i64 k, .int .i64 m] w fun e w' => e = .returned (.int .i64 50) ∧ w = w') := fun w => cauchy_check_bad k m hk hm h w
    clear h
    have K := Lib.hid (Kn.nothing w)
    have W := Lib.hid (Since.refl w)
    go_enter Try.func5, Try.ntmps5
    go_wp2_with (first
      | (go_at_call 36; (with_reducible refine (awake5 _).mono ?_); rintro e w1 ⟨rfl, hbel⟩; (first | have K := Lib.hid (K.out.below hbel) | have K := Lib.hid ((K.out.alloc _).below hbel) | have K := Lib.hid (((K.out.alloc _).alloc _).below hbel) | have K := Lib.hid ((K.out.drewN _).below hbel) | have K := Lib.hid (((K.out.drewN _).alloc _).below hbel) | have K := Lib.hid (((K.out.alloc _).drewN _).below hbel) | have K := Lib.hid ((((K.out.alloc _).alloc _).drewN _).below hbel) | have K := Lib.hid ((((K.out.alloc _).alloc _).alloc _).below hbel) | have K := Lib.hid ((((K.out.drewN _).alloc _).alloc _).below hbel)); (first | have W := Lib.hid (W.out.below hbel) | have W := Lib.hid ((W.out.alloc _).below hbel) | have W := Lib.hid (((W.out.alloc _).alloc _).below hbel) | have W := Lib.hid ((W.out.drewN _).below hbel) | have W := Lib.hid (((W.out.drewN _).alloc _).below hbel) | have W := Lib.hid (((W.out.alloc _).drewN _).below hbel) | have W := Lib.hid ((((W.out.alloc _).alloc _).drewN _).below hbel) | have W := Lib.hid ((((W.out.alloc _).alloc _).alloc _).below hbel) | have W := Lib.hid ((((W.out.drewN _).alloc _).alloc _).below hbel)); clear hbel)
      | (go_at_call 37; (with_reducible refine (new_any _).mono ?_); rintro e w2 ⟨rfl, hbel, hg⟩; (first | have K := Lib.hid (K.out.below hbel) | have K := Lib.hid ((K.out.alloc _).below hbel) | have K := Lib.hid (((K.out.alloc _).alloc _).below hbel) | have K := Lib.hid ((K.out.drewN _).below hbel) | have K := Lib.hid (((K.out.drewN _).alloc _).below hbel) | have K := Lib.hid (((K.out.alloc _).drewN _).below hbel) | have K := Lib.hid ((((K.out.alloc _).alloc _).drewN _).below hbel) | have K := Lib.hid ((((K.out.alloc _).alloc _).alloc _).below hbel) | have K := Lib.hid ((((K.out.drewN _).alloc _).alloc _).below hbel)); (first | have W := Lib.hid (W.out.below hbel) | have W := Lib.hid ((W.out.alloc _).below hbel) | have W := Lib.hid (((W.out.alloc _).alloc _).below hbel) | have W := Lib.hid ((W.out.drewN _).below hbel) | have W := Lib.hid (((W.out.drewN _).alloc _).below hbel) | have W := Lib.hid (((W.out.alloc _).drewN _).below hbel) | have W := Lib.hid ((((W.out.alloc _).alloc _).drewN _).below hbel) | have W := Lib.hid ((((W.out.alloc _).alloc _).alloc _).below hbel) | have W := Lib.hid ((((W.out.drewN _).alloc _).alloc _).below hbel)); clear hbel; have K := Lib.hid (K.out.withF hg); clear hg)
      | (go_at_call 38; (with_reducible refine (CK.out _).mono ?_); rintro e wx ⟨rfl, rfl⟩))
    all_goals (go_ret; exact ⟨rfl, W.out⟩)
end Go.Proofs.Ytmkjplpnoohfnaa
