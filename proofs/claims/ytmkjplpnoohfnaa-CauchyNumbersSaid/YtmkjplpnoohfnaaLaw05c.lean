/- CauchyNumbers, walked. -/
import Derived.Test.YtmkjplpnoohfnaaLaw05
import Derived.Test.YtmkjplpnoohfnaaCauFacts
import Derived.Test.YtmkjplpnoohfnaaCauBad
namespace Go.Proofs.Ytmkjplpnoohfnaa
open Go.RowKit
theorem matL_at {r c i j : Nat} (f : Nat → Nat → F) (hi : i < r) (hj : j < c) : (matL r c f).getD (i * c + j) 0 = f i j := by
  have h1 : i * c + j < r * c := by
    have := Nat.mul_le_mul_right c (Nat.succ_le_of_lt hi)
    rw [Nat.succ_mul] at this
    omega
  have := getD_tab (matF c f) h1
  exact this.trans (matF_at f hj)
theorem idx_lt {r c i j : Nat} (hi : i < r) (hj : j < c) : i * c + j < r * c := by
  have := Nat.mul_le_mul_right c (Nat.succ_le_of_lt hi)
  rw [Nat.succ_mul] at this
  omega
set_option maxRecDepth 1000000 in
set_option maxHeartbeats 4000000 in
theorem walk_CauchyNumbers {w : World} (k : Int) (hk : -9223372036854775808 ≤ k ∧ k ≤ 9223372036854775807) (m : Int) (hm : -9223372036854775808 ≤ m ∧ m ≤ 9223372036854775807) (i : Int) (hi : -9223372036854775808 ≤ i ∧ i ≤ 9223372036854775807) (j : Int) (hj : -9223372036854775808 ≤ j ∧ j ≤ 9223372036854775807) (n : Int) (hn : -9223372036854775808 ≤ n ∧ n ≤ 9223372036854775807) :
    Calls Try.prog 10 #[.int .i64 k, .int .i64 m, .int .i64 i, .int .i64 j, .int .i64 n] w fun e w' => e = .returned (.bool true) ∧ Below w.heap.size w w' := by
  by_cases h : okkm k m
  · have CK : Hid (∀ w, Calls Try.prog 38 #[.int .i64 k, .int .i64 m] w fun e w' => e = .returned (.int .i64 0) ∧ w = w') := fun w => cauchy_check_ok k m h w
    have hk2 := h.1
    have hm2 := h.2.1
    have hkm2 := h.2.2
    by_cases g0 : 40 < k + m
    · have t0 : decide (40 < k + m) = true := decide_eq_true g0
      clear h
      have W := Lib.hid (Since.refl w)
      go_enter Try.func10, Try.ntmps10
      go_wp2_with (first
        | (go_at_call 36; (with_reducible refine (awake5 _).mono ?_); rintro e W1 ⟨rfl, hb⟩; have hbel : Below _ _ W1 := hb; (first | have W := Lib.hid (Since.below W.out hbel) | have W := Lib.hid (Since.below (W.out.alloc _) hbel) | have W := Lib.hid (Since.below ((W.out.alloc _).alloc _) hbel) | have W := Lib.hid (Since.below (((W.out.alloc _).alloc _).alloc _) hbel) | skip); (first | have G := Lib.hid (GfAt.below G.out hbel) | have G := Lib.hid (GfAt.below (G.out.alloc _) hbel) | have G := Lib.hid (GfAt.below ((G.out.alloc _).alloc _) hbel) | have G := Lib.hid (GfAt.below (((G.out.alloc _).alloc _).alloc _) hbel) | skip); clear hbel)
        | (go_at_call 37; (with_reducible refine (new_any _).mono ?_); rintro e W2 ⟨rfl, hb, hg⟩; have hbel : Below _ _ W2 := hb; (first | have W := Lib.hid (Since.below W.out hbel) | have W := Lib.hid (Since.below (W.out.alloc _) hbel) | have W := Lib.hid (Since.below ((W.out.alloc _).alloc _) hbel) | have W := Lib.hid (Since.below (((W.out.alloc _).alloc _).alloc _) hbel) | skip); (first | have G := Lib.hid (GfAt.below G.out hbel) | have G := Lib.hid (GfAt.below (G.out.alloc _) hbel) | have G := Lib.hid (GfAt.below ((G.out.alloc _).alloc _) hbel) | have G := Lib.hid (GfAt.below (((G.out.alloc _).alloc _).alloc _) hbel) | skip); have G : Hid (GfAt W2 _) := hg; clear hbel)
        | (go_at_call 38; (with_reducible refine (CK.out _).mono ?_); rintro e wx ⟨rfl, rfl⟩))
      all_goals (go_ret; exact ⟨rfl, W.out⟩)
    · have t0 : decide (40 < k + m) = false := decide_eq_false g0
      by_cases g1 : i < 0
      · have t1 : decide (i < 0) = true := decide_eq_true g1
        clear h
        have W := Lib.hid (Since.refl w)
        go_enter Try.func10, Try.ntmps10
        go_wp2_with (first
          | (go_at_call 36; (with_reducible refine (awake5 _).mono ?_); rintro e W1 ⟨rfl, hb⟩; have hbel : Below _ _ W1 := hb; (first | have W := Lib.hid (Since.below W.out hbel) | have W := Lib.hid (Since.below (W.out.alloc _) hbel) | have W := Lib.hid (Since.below ((W.out.alloc _).alloc _) hbel) | have W := Lib.hid (Since.below (((W.out.alloc _).alloc _).alloc _) hbel) | skip); (first | have G := Lib.hid (GfAt.below G.out hbel) | have G := Lib.hid (GfAt.below (G.out.alloc _) hbel) | have G := Lib.hid (GfAt.below ((G.out.alloc _).alloc _) hbel) | have G := Lib.hid (GfAt.below (((G.out.alloc _).alloc _).alloc _) hbel) | skip); clear hbel)
          | (go_at_call 37; (with_reducible refine (new_any _).mono ?_); rintro e W2 ⟨rfl, hb, hg⟩; have hbel : Below _ _ W2 := hb; (first | have W := Lib.hid (Since.below W.out hbel) | have W := Lib.hid (Since.below (W.out.alloc _) hbel) | have W := Lib.hid (Since.below ((W.out.alloc _).alloc _) hbel) | have W := Lib.hid (Since.below (((W.out.alloc _).alloc _).alloc _) hbel) | skip); (first | have G := Lib.hid (GfAt.below G.out hbel) | have G := Lib.hid (GfAt.below (G.out.alloc _) hbel) | have G := Lib.hid (GfAt.below ((G.out.alloc _).alloc _) hbel) | have G := Lib.hid (GfAt.below (((G.out.alloc _).alloc _).alloc _) hbel) | skip); have G : Hid (GfAt W2 _) := hg; clear hbel)
          | (go_at_call 38; (with_reducible refine (CK.out _).mono ?_); rintro e wx ⟨rfl, rfl⟩))
        all_goals (go_ret; exact ⟨rfl, W.out⟩)
      · have t1 : decide (i < 0) = false := decide_eq_false g1
        by_cases g2 : m ≤ i
        · have t2 : decide (m ≤ i) = true := decide_eq_true g2
          clear h
          have W := Lib.hid (Since.refl w)
          go_enter Try.func10, Try.ntmps10
          go_wp2_with (first
            | (go_at_call 36; (with_reducible refine (awake5 _).mono ?_); rintro e W1 ⟨rfl, hb⟩; have hbel : Below _ _ W1 := hb; (first | have W := Lib.hid (Since.below W.out hbel) | have W := Lib.hid (Since.below (W.out.alloc _) hbel) | have W := Lib.hid (Since.below ((W.out.alloc _).alloc _) hbel) | have W := Lib.hid (Since.below (((W.out.alloc _).alloc _).alloc _) hbel) | skip); (first | have G := Lib.hid (GfAt.below G.out hbel) | have G := Lib.hid (GfAt.below (G.out.alloc _) hbel) | have G := Lib.hid (GfAt.below ((G.out.alloc _).alloc _) hbel) | have G := Lib.hid (GfAt.below (((G.out.alloc _).alloc _).alloc _) hbel) | skip); clear hbel)
            | (go_at_call 37; (with_reducible refine (new_any _).mono ?_); rintro e W2 ⟨rfl, hb, hg⟩; have hbel : Below _ _ W2 := hb; (first | have W := Lib.hid (Since.below W.out hbel) | have W := Lib.hid (Since.below (W.out.alloc _) hbel) | have W := Lib.hid (Since.below ((W.out.alloc _).alloc _) hbel) | have W := Lib.hid (Since.below (((W.out.alloc _).alloc _).alloc _) hbel) | skip); (first | have G := Lib.hid (GfAt.below G.out hbel) | have G := Lib.hid (GfAt.below (G.out.alloc _) hbel) | have G := Lib.hid (GfAt.below ((G.out.alloc _).alloc _) hbel) | have G := Lib.hid (GfAt.below (((G.out.alloc _).alloc _).alloc _) hbel) | skip); have G : Hid (GfAt W2 _) := hg; clear hbel)
            | (go_at_call 38; (with_reducible refine (CK.out _).mono ?_); rintro e wx ⟨rfl, rfl⟩))
          all_goals (go_ret; exact ⟨rfl, W.out⟩)
        · have t2 : decide (m ≤ i) = false := decide_eq_false g2
          by_cases g3 : j < 0
          · have t3 : decide (j < 0) = true := decide_eq_true g3
            clear h
            have W := Lib.hid (Since.refl w)
            go_enter Try.func10, Try.ntmps10
            go_wp2_with (first
              | (go_at_call 36; (with_reducible refine (awake5 _).mono ?_); rintro e W1 ⟨rfl, hb⟩; have hbel : Below _ _ W1 := hb; (first | have W := Lib.hid (Since.below W.out hbel) | have W := Lib.hid (Since.below (W.out.alloc _) hbel) | have W := Lib.hid (Since.below ((W.out.alloc _).alloc _) hbel) | have W := Lib.hid (Since.below (((W.out.alloc _).alloc _).alloc _) hbel) | skip); (first | have G := Lib.hid (GfAt.below G.out hbel) | have G := Lib.hid (GfAt.below (G.out.alloc _) hbel) | have G := Lib.hid (GfAt.below ((G.out.alloc _).alloc _) hbel) | have G := Lib.hid (GfAt.below (((G.out.alloc _).alloc _).alloc _) hbel) | skip); clear hbel)
              | (go_at_call 37; (with_reducible refine (new_any _).mono ?_); rintro e W2 ⟨rfl, hb, hg⟩; have hbel : Below _ _ W2 := hb; (first | have W := Lib.hid (Since.below W.out hbel) | have W := Lib.hid (Since.below (W.out.alloc _) hbel) | have W := Lib.hid (Since.below ((W.out.alloc _).alloc _) hbel) | have W := Lib.hid (Since.below (((W.out.alloc _).alloc _).alloc _) hbel) | skip); (first | have G := Lib.hid (GfAt.below G.out hbel) | have G := Lib.hid (GfAt.below (G.out.alloc _) hbel) | have G := Lib.hid (GfAt.below ((G.out.alloc _).alloc _) hbel) | have G := Lib.hid (GfAt.below (((G.out.alloc _).alloc _).alloc _) hbel) | skip); have G : Hid (GfAt W2 _) := hg; clear hbel)
              | (go_at_call 38; (with_reducible refine (CK.out _).mono ?_); rintro e wx ⟨rfl, rfl⟩))
            all_goals (go_ret; exact ⟨rfl, W.out⟩)
          · have t3 : decide (j < 0) = false := decide_eq_false g3
            by_cases g4 : k ≤ j
            · have t4 : decide (k ≤ j) = true := decide_eq_true g4
              clear h
              have W := Lib.hid (Since.refl w)
              go_enter Try.func10, Try.ntmps10
              go_wp2_with (first
                | (go_at_call 36; (with_reducible refine (awake5 _).mono ?_); rintro e W1 ⟨rfl, hb⟩; have hbel : Below _ _ W1 := hb; (first | have W := Lib.hid (Since.below W.out hbel) | have W := Lib.hid (Since.below (W.out.alloc _) hbel) | have W := Lib.hid (Since.below ((W.out.alloc _).alloc _) hbel) | have W := Lib.hid (Since.below (((W.out.alloc _).alloc _).alloc _) hbel) | skip); (first | have G := Lib.hid (GfAt.below G.out hbel) | have G := Lib.hid (GfAt.below (G.out.alloc _) hbel) | have G := Lib.hid (GfAt.below ((G.out.alloc _).alloc _) hbel) | have G := Lib.hid (GfAt.below (((G.out.alloc _).alloc _).alloc _) hbel) | skip); clear hbel)
                | (go_at_call 37; (with_reducible refine (new_any _).mono ?_); rintro e W2 ⟨rfl, hb, hg⟩; have hbel : Below _ _ W2 := hb; (first | have W := Lib.hid (Since.below W.out hbel) | have W := Lib.hid (Since.below (W.out.alloc _) hbel) | have W := Lib.hid (Since.below ((W.out.alloc _).alloc _) hbel) | have W := Lib.hid (Since.below (((W.out.alloc _).alloc _).alloc _) hbel) | skip); (first | have G := Lib.hid (GfAt.below G.out hbel) | have G := Lib.hid (GfAt.below (G.out.alloc _) hbel) | have G := Lib.hid (GfAt.below ((G.out.alloc _).alloc _) hbel) | have G := Lib.hid (GfAt.below (((G.out.alloc _).alloc _).alloc _) hbel) | skip); have G : Hid (GfAt W2 _) := hg; clear hbel)
                | (go_at_call 38; (with_reducible refine (CK.out _).mono ?_); rintro e wx ⟨rfl, rfl⟩))
              all_goals (go_ret; exact ⟨rfl, W.out⟩)
            · have t4 : decide (k ≤ j) = false := decide_eq_false g4
              obtain ⟨k, rfl⟩ := Int.eq_ofNat_of_zero_le (by omega : 0 ≤ k)
              obtain ⟨m, rfl⟩ := Int.eq_ofNat_of_zero_le (by omega : 0 ≤ m)
              obtain ⟨i, rfl⟩ := Int.eq_ofNat_of_zero_le (by omega : 0 ≤ i)
              obtain ⟨j, rfl⟩ := Int.eq_ofNat_of_zero_le (by omega : 0 ≤ j)
              have him : i < m := by omega
              have hjk : j < k := by omega
              have hkm4 : k + m ≤ 40 := by omega
              have u3 : decide (m ≤ i) = false := decide_eq_false (by omega)
              have u5 : decide (k ≤ j) = false := decide_eq_false (by omega)
              obtain ⟨mk, hmk⟩ : ∃ x, m * k = x := ⟨_, rfl⟩
              obtain ⟨a, ha⟩ : ∃ x, i * k = x := ⟨_, rfl⟩
              obtain ⟨L, hL⟩ : ∃ x, matL m k (parF k) = x := ⟨_, rfl⟩
              have haj : a + j < mk := by rw [← ha, ← hmk]; exact idx_lt him hjk
              have hmk2 : mk ≤ 1600 := by rw [← hmk]; exact Nat.mul_le_mul (by omega : m ≤ 40) (by omega : k ≤ 40)
              have hLl : L.length = mk := by rw [← hL, ← hmk]; exact length_tab _ _
              have par : ∀ (b : Nat) (w : World), GfAt w b → Calls Try.prog 41 #[fp b, .int .i64 k, .int .i64 m] w fun e w' => ∃ A' c', e = .returned (.tuple #[.agg #[.int .i64 m, .int .i64 k, .slice A' mk c'], .int .i64 0]) ∧ Bs w' A' c' L ∧ Below w.heap.size w w' := fun b w hg => by
                refine (cauchy_Parity b k m h w hg).mono ?_
                rintro e w' ⟨A', c', he, ho, hb⟩
                have := own_sl ho
                rw [hL] at this
                rw [hmk] at he
                exact ⟨A', c', he, this, hb⟩
              have PAR := Lib.hid par
              have hne : k + i ≠ j := by omega
              have mu : ∀ (b : Nat) (w : World), GfAt w b → Calls Try.prog 55 #[fp b, .int .u8 (parF k i j).n, .int .u8 (F.of (k + i) + F.of j).n] w fun e w' => e = .returned (.int .u8 1) ∧ ∃ n, w' = w.drewN n := fun b w hg => by
                have := gf_mul b (parF k i j) (F.of (k + i) + F.of j) w hg
                rwa [show parF k i j * (F.of (k + i) + F.of j) = 1 from cau_mul (by omega) (by omega) hne] at this
              have MU := Lib.hid mu
              have x1 := xor_n (F.of (k + i)) (F.of j)
              rw [F.n_of (by omega), F.n_of (by omega), Int.natCast_add] at x1
              have x2 : IntKind.u8.wrap (((k + i : Nat)) : Int) = ((k + i : Nat) : Int) := wrapu8 _ (by omega)
              have x4 : IntKind.u8.wrap ((k : Int) + (i : Int)) = ((k + i : Nat) : Int) := by rw [← x2]; congr 1
              have x3 : IntKind.u8.wrap ((j : Nat) : Int) = ((j : Nat) : Int) := wrapu8 _ (by omega)
              have hik : (i : Int) * (k : Int) = (a : Int) := by rw [← ha]; simp
              have hmki : (m : Int) * (k : Int) = (mk : Int) := by rw [← hmk]; simp
              have l1 : L.getD (a + j) 0 = parF k i j := by rw [← hL, ← ha]; exact matL_at _ him hjk
              have L1 := Lib.hid l1
              have C2 : Hid (∀ n, n < k → n ≠ j → parF k i n ≠ parF k i j) := fun n hn hnj he => hnj (cau_right (by omega) (by omega) (by omega) (by omega) (by omega) he)
              have C3 : Hid (∀ n, n < m → n ≠ i → parF k n j ≠ parF k i j) := fun n hn hni he => hni (by have := cau_left (by omega) (by omega) (by omega) (by omega) (by omega) he; omega)
              have L2 : Hid (∀ n, n < k → L.getD (a + n) 0 = parF k i n) := fun n hn => by rw [← hL, ← ha]; exact matL_at _ him hn
              have L3 : Hid (∀ n, n < m → L.getD (n * k + j) 0 = parF k n j) := fun n hn => by rw [← hL]; exact matL_at _ hn hjk
              have B4 : Hid (∀ n, n < k → a + n < mk) := fun n hn => by rw [← hmk, ← ha]; exact idx_lt him hn
              have B3 : Hid (∀ n, n < m → n * k + j < mk) := fun n hn => by rw [← hmk]; exact idx_lt hn hjk
              clear par mu l1 x2 h hL hmk ha hne
              generalize parF k i j = v at *
              by_cases n0 : n < 0
              · have s0 : decide (n < 0) = true := decide_eq_true n0
                have s1 : decide (0 ≤ n) = false := decide_eq_false (by omega)
                clear C2 C3 L2 L3 B3 B4
                have W := Lib.hid (Since.refl w)
                go_enter Try.func10, Try.ntmps10
                go_wp2_with (first
                  | (go_at_call 36; (with_reducible refine (awake5 _).mono ?_); rintro e W1 ⟨rfl, hb⟩; have hbel : Below _ _ W1 := hb; (first | have W := Lib.hid (Since.below W.out hbel) | have W := Lib.hid (Since.below (W.out.alloc _) hbel) | have W := Lib.hid (Since.below ((W.out.alloc _).alloc _) hbel) | have W := Lib.hid (Since.below (((W.out.alloc _).alloc _).alloc _) hbel) | skip); (first | have G := Lib.hid (GfAt.below G.out hbel) | have G := Lib.hid (GfAt.below (G.out.alloc _) hbel) | have G := Lib.hid (GfAt.below ((G.out.alloc _).alloc _) hbel) | have G := Lib.hid (GfAt.below (((G.out.alloc _).alloc _).alloc _) hbel) | skip); (first | have P := Lib.hid (Sl.below P.out hbel) | have P := Lib.hid (Sl.below (P.out.alloc _) hbel) | have P := Lib.hid (Sl.below ((P.out.alloc _).alloc _) hbel) | have P := Lib.hid (Sl.below (((P.out.alloc _).alloc _).alloc _) hbel) | skip); clear hbel)
                  | (go_at_call 37; (with_reducible refine (new_any _).mono ?_); rintro e W2 ⟨rfl, hb, hg⟩; have hbel : Below _ _ W2 := hb; (first | have W := Lib.hid (Since.below W.out hbel) | have W := Lib.hid (Since.below (W.out.alloc _) hbel) | have W := Lib.hid (Since.below ((W.out.alloc _).alloc _) hbel) | have W := Lib.hid (Since.below (((W.out.alloc _).alloc _).alloc _) hbel) | skip); (first | have G := Lib.hid (GfAt.below G.out hbel) | have G := Lib.hid (GfAt.below (G.out.alloc _) hbel) | have G := Lib.hid (GfAt.below ((G.out.alloc _).alloc _) hbel) | have G := Lib.hid (GfAt.below (((G.out.alloc _).alloc _).alloc _) hbel) | skip); (first | have P := Lib.hid (Sl.below P.out hbel) | have P := Lib.hid (Sl.below (P.out.alloc _) hbel) | have P := Lib.hid (Sl.below ((P.out.alloc _).alloc _) hbel) | have P := Lib.hid (Sl.below (((P.out.alloc _).alloc _).alloc _) hbel) | skip); have G : Hid (GfAt W2 _) := hg; clear hbel)
                  | (go_at_call 38; (with_reducible refine (CK.out _).mono ?_); rintro e wx ⟨rfl, rfl⟩)
                  | (go_at_call 41; (with_reducible refine (PAR.out _ _ ?_).mono ?_); (first | exact G.out | exact G.out.alloc _ | exact (G.out.alloc _).alloc _ | exact ((G.out.alloc _).alloc _).alloc _ | exact (((G.out.alloc _).alloc _).alloc _).alloc _); rintro e W3 ⟨PA, Pc, rfl, hbs, hb⟩; have hbel : Below _ _ W3 := hb; (first | have W := Lib.hid (Since.below W.out hbel) | have W := Lib.hid (Since.below (W.out.alloc _) hbel) | have W := Lib.hid (Since.below ((W.out.alloc _).alloc _) hbel) | have W := Lib.hid (Since.below (((W.out.alloc _).alloc _).alloc _) hbel) | skip); (first | have G := Lib.hid (GfAt.below G.out hbel) | have G := Lib.hid (GfAt.below (G.out.alloc _) hbel) | have G := Lib.hid (GfAt.below ((G.out.alloc _).alloc _) hbel) | have G := Lib.hid (GfAt.below (((G.out.alloc _).alloc _).alloc _) hbel) | skip); (first | have P := Lib.hid (Sl.below P.out hbel) | have P := Lib.hid (Sl.below (P.out.alloc _) hbel) | have P := Lib.hid (Sl.below ((P.out.alloc _).alloc _) hbel) | have P := Lib.hid (Sl.below (((P.out.alloc _).alloc _).alloc _) hbel) | skip); have P : Hid (Bs W3 PA Pc L) := hbs; have PB := (Blk.new W3 #[.int .i64 (m : Int), .int .i64 (k : Int), .slice PA mk Pc] 30).cell 2; simp only [List.getElem?_toArray, List.getElem?_cons_succ, List.getElem?_cons_zero] at  PB; obtain ⟨bP, oP, hPA, _, hcP⟩ := Bs.at' (Sl.alloc P.out (.cells #[.int .i64 (m : Int), .int .i64 (k : Int), .slice PA mk Pc] 30)) (by omega); subst hPA; have y1 := hcP (a + j) (by omega); rw [L1.out] at y1; clear hcP; clear hbel)
                  | (go_at_call 55; (with_reducible refine (MU.out _ _ ?_).mono ?_); (first | exact G.out | exact G.out.alloc _ | exact (G.out.alloc _).alloc _ | exact ((G.out.alloc _).alloc _).alloc _ | exact (((G.out.alloc _).alloc _).alloc _).alloc _); rintro e w4 ⟨rfl, nd, rfl⟩))
                all_goals (go_ret; exact ⟨rfl, below_drewN (W.out.alloc _) _⟩)
              · obtain ⟨n, rfl⟩ := Int.eq_ofNat_of_zero_le (by omega : 0 ≤ n)
                obtain ⟨b, hb⟩ : ∃ x, n * k = x := ⟨_, rfl⟩
                have hnk : (n : Int) * (k : Int) = (b : Int) := by rw [← hb]; simp
                have s0 : decide ((n : Int) < 0) = false := decide_eq_false (by omega)
                have s1 : decide (0 ≤ (n : Int)) = true := decide_eq_true (by omega)
                by_cases r10 : k ≤ n
                · have q1 : decide (n < k) = false := decide_eq_false (by omega)
                  by_cases r20 : m ≤ n
                  · have p1 : decide (m ≤ n) = true := decide_eq_true (by omega)
                    (try clear hb)
                    clear C2 C3 L2 L3 B3 B4
                    (try (have r1n := r1; clear r1))
                    (try clear r1n)
                    (try clear r2)
                    have W := Lib.hid (Since.refl w)
                    go_enter Try.func10, Try.ntmps10
                    go_wp2_with (first
                      | (go_at_call 36; (with_reducible refine (awake5 _).mono ?_); rintro e W1 ⟨rfl, hb⟩; have hbel : Below _ _ W1 := hb; (first | have W := Lib.hid (Since.below W.out hbel) | have W := Lib.hid (Since.below (W.out.alloc _) hbel) | have W := Lib.hid (Since.below ((W.out.alloc _).alloc _) hbel) | have W := Lib.hid (Since.below (((W.out.alloc _).alloc _).alloc _) hbel) | skip); (first | have G := Lib.hid (GfAt.below G.out hbel) | have G := Lib.hid (GfAt.below (G.out.alloc _) hbel) | have G := Lib.hid (GfAt.below ((G.out.alloc _).alloc _) hbel) | have G := Lib.hid (GfAt.below (((G.out.alloc _).alloc _).alloc _) hbel) | skip); (first | have P := Lib.hid (Sl.below P.out hbel) | have P := Lib.hid (Sl.below (P.out.alloc _) hbel) | have P := Lib.hid (Sl.below ((P.out.alloc _).alloc _) hbel) | have P := Lib.hid (Sl.below (((P.out.alloc _).alloc _).alloc _) hbel) | skip); clear hbel)
                      | (go_at_call 37; (with_reducible refine (new_any _).mono ?_); rintro e W2 ⟨rfl, hb, hg⟩; have hbel : Below _ _ W2 := hb; (first | have W := Lib.hid (Since.below W.out hbel) | have W := Lib.hid (Since.below (W.out.alloc _) hbel) | have W := Lib.hid (Since.below ((W.out.alloc _).alloc _) hbel) | have W := Lib.hid (Since.below (((W.out.alloc _).alloc _).alloc _) hbel) | skip); (first | have G := Lib.hid (GfAt.below G.out hbel) | have G := Lib.hid (GfAt.below (G.out.alloc _) hbel) | have G := Lib.hid (GfAt.below ((G.out.alloc _).alloc _) hbel) | have G := Lib.hid (GfAt.below (((G.out.alloc _).alloc _).alloc _) hbel) | skip); (first | have P := Lib.hid (Sl.below P.out hbel) | have P := Lib.hid (Sl.below (P.out.alloc _) hbel) | have P := Lib.hid (Sl.below ((P.out.alloc _).alloc _) hbel) | have P := Lib.hid (Sl.below (((P.out.alloc _).alloc _).alloc _) hbel) | skip); have G : Hid (GfAt W2 _) := hg; clear hbel)
                      | (go_at_call 38; (with_reducible refine (CK.out _).mono ?_); rintro e wx ⟨rfl, rfl⟩)
                      | (go_at_call 41; (with_reducible refine (PAR.out _ _ ?_).mono ?_); (first | exact G.out | exact G.out.alloc _ | exact (G.out.alloc _).alloc _ | exact ((G.out.alloc _).alloc _).alloc _ | exact (((G.out.alloc _).alloc _).alloc _).alloc _); rintro e W3 ⟨PA, Pc, rfl, hbs, hb⟩; have hbel : Below _ _ W3 := hb; (first | have W := Lib.hid (Since.below W.out hbel) | have W := Lib.hid (Since.below (W.out.alloc _) hbel) | have W := Lib.hid (Since.below ((W.out.alloc _).alloc _) hbel) | have W := Lib.hid (Since.below (((W.out.alloc _).alloc _).alloc _) hbel) | skip); (first | have G := Lib.hid (GfAt.below G.out hbel) | have G := Lib.hid (GfAt.below (G.out.alloc _) hbel) | have G := Lib.hid (GfAt.below ((G.out.alloc _).alloc _) hbel) | have G := Lib.hid (GfAt.below (((G.out.alloc _).alloc _).alloc _) hbel) | skip); (first | have P := Lib.hid (Sl.below P.out hbel) | have P := Lib.hid (Sl.below (P.out.alloc _) hbel) | have P := Lib.hid (Sl.below ((P.out.alloc _).alloc _) hbel) | have P := Lib.hid (Sl.below (((P.out.alloc _).alloc _).alloc _) hbel) | skip); have P : Hid (Bs W3 PA Pc L) := hbs; have PB := (Blk.new W3 #[.int .i64 (m : Int), .int .i64 (k : Int), .slice PA mk Pc] 30).cell 2; simp only [List.getElem?_toArray, List.getElem?_cons_succ, List.getElem?_cons_zero] at  PB; obtain ⟨bP, oP, hPA, _, hcP⟩ := Bs.at' (Sl.alloc P.out (.cells #[.int .i64 (m : Int), .int .i64 (k : Int), .slice PA mk Pc] 30)) (by omega); subst hPA; have y1 := hcP (a + j) (by omega); rw [L1.out] at y1; clear hcP; clear hbel)
                      | (go_at_call 55; (with_reducible refine (MU.out _ _ ?_).mono ?_); (first | exact G.out | exact G.out.alloc _ | exact (G.out.alloc _).alloc _ | exact ((G.out.alloc _).alloc _).alloc _ | exact (((G.out.alloc _).alloc _).alloc _).alloc _); rintro e w4 ⟨rfl, nd, rfl⟩))
                    all_goals (go_ret; exact ⟨rfl, below_drewN (W.out.alloc _) _⟩)
                  · by_cases r2 : n = i
                    · have p1 : decide (m ≤ n) = false := decide_eq_false (by omega)
                      have p2 : (n == i) = true := by rw [beq_iff_eq]; exact r2
                      have p3 : decide (n = i) = true := decide_eq_true r2
                      have p4 : ((n : Int) == (i : Int)) = true := by rw [beq_iff_eq]; omega
                      clear hnk
                      (try clear hb)
                      clear C2 C3 L2 L3 B3 B4
                      (try (have r1n := r1; clear r1))
                      (try clear r1n)
                      (try clear r2)
                      have W := Lib.hid (Since.refl w)
                      go_enter Try.func10, Try.ntmps10
                      go_wp2_with (first
                        | (go_at_call 36; (with_reducible refine (awake5 _).mono ?_); rintro e W1 ⟨rfl, hb⟩; have hbel : Below _ _ W1 := hb; (first | have W := Lib.hid (Since.below W.out hbel) | have W := Lib.hid (Since.below (W.out.alloc _) hbel) | have W := Lib.hid (Since.below ((W.out.alloc _).alloc _) hbel) | have W := Lib.hid (Since.below (((W.out.alloc _).alloc _).alloc _) hbel) | skip); (first | have G := Lib.hid (GfAt.below G.out hbel) | have G := Lib.hid (GfAt.below (G.out.alloc _) hbel) | have G := Lib.hid (GfAt.below ((G.out.alloc _).alloc _) hbel) | have G := Lib.hid (GfAt.below (((G.out.alloc _).alloc _).alloc _) hbel) | skip); (first | have P := Lib.hid (Sl.below P.out hbel) | have P := Lib.hid (Sl.below (P.out.alloc _) hbel) | have P := Lib.hid (Sl.below ((P.out.alloc _).alloc _) hbel) | have P := Lib.hid (Sl.below (((P.out.alloc _).alloc _).alloc _) hbel) | skip); clear hbel)
                        | (go_at_call 37; (with_reducible refine (new_any _).mono ?_); rintro e W2 ⟨rfl, hb, hg⟩; have hbel : Below _ _ W2 := hb; (first | have W := Lib.hid (Since.below W.out hbel) | have W := Lib.hid (Since.below (W.out.alloc _) hbel) | have W := Lib.hid (Since.below ((W.out.alloc _).alloc _) hbel) | have W := Lib.hid (Since.below (((W.out.alloc _).alloc _).alloc _) hbel) | skip); (first | have G := Lib.hid (GfAt.below G.out hbel) | have G := Lib.hid (GfAt.below (G.out.alloc _) hbel) | have G := Lib.hid (GfAt.below ((G.out.alloc _).alloc _) hbel) | have G := Lib.hid (GfAt.below (((G.out.alloc _).alloc _).alloc _) hbel) | skip); (first | have P := Lib.hid (Sl.below P.out hbel) | have P := Lib.hid (Sl.below (P.out.alloc _) hbel) | have P := Lib.hid (Sl.below ((P.out.alloc _).alloc _) hbel) | have P := Lib.hid (Sl.below (((P.out.alloc _).alloc _).alloc _) hbel) | skip); have G : Hid (GfAt W2 _) := hg; clear hbel)
                        | (go_at_call 38; (with_reducible refine (CK.out _).mono ?_); rintro e wx ⟨rfl, rfl⟩)
                        | (go_at_call 41; (with_reducible refine (PAR.out _ _ ?_).mono ?_); (first | exact G.out | exact G.out.alloc _ | exact (G.out.alloc _).alloc _ | exact ((G.out.alloc _).alloc _).alloc _ | exact (((G.out.alloc _).alloc _).alloc _).alloc _); rintro e W3 ⟨PA, Pc, rfl, hbs, hb⟩; have hbel : Below _ _ W3 := hb; (first | have W := Lib.hid (Since.below W.out hbel) | have W := Lib.hid (Since.below (W.out.alloc _) hbel) | have W := Lib.hid (Since.below ((W.out.alloc _).alloc _) hbel) | have W := Lib.hid (Since.below (((W.out.alloc _).alloc _).alloc _) hbel) | skip); (first | have G := Lib.hid (GfAt.below G.out hbel) | have G := Lib.hid (GfAt.below (G.out.alloc _) hbel) | have G := Lib.hid (GfAt.below ((G.out.alloc _).alloc _) hbel) | have G := Lib.hid (GfAt.below (((G.out.alloc _).alloc _).alloc _) hbel) | skip); (first | have P := Lib.hid (Sl.below P.out hbel) | have P := Lib.hid (Sl.below (P.out.alloc _) hbel) | have P := Lib.hid (Sl.below ((P.out.alloc _).alloc _) hbel) | have P := Lib.hid (Sl.below (((P.out.alloc _).alloc _).alloc _) hbel) | skip); have P : Hid (Bs W3 PA Pc L) := hbs; have PB := (Blk.new W3 #[.int .i64 (m : Int), .int .i64 (k : Int), .slice PA mk Pc] 30).cell 2; simp only [List.getElem?_toArray, List.getElem?_cons_succ, List.getElem?_cons_zero] at  PB; obtain ⟨bP, oP, hPA, _, hcP⟩ := Bs.at' (Sl.alloc P.out (.cells #[.int .i64 (m : Int), .int .i64 (k : Int), .slice PA mk Pc] 30)) (by omega); subst hPA; have y1 := hcP (a + j) (by omega); rw [L1.out] at y1; clear hcP; clear hbel)
                        | (go_at_call 55; (with_reducible refine (MU.out _ _ ?_).mono ?_); (first | exact G.out | exact G.out.alloc _ | exact (G.out.alloc _).alloc _ | exact ((G.out.alloc _).alloc _).alloc _ | exact (((G.out.alloc _).alloc _).alloc _).alloc _); rintro e w4 ⟨rfl, nd, rfl⟩))
                      all_goals (go_ret; exact ⟨rfl, below_drewN (W.out.alloc _) _⟩)
                    · have p1 : decide (m ≤ n) = false := decide_eq_false (by omega)
                      have p2 : (n == i) = false := by rw [beq_eq_false_iff_ne]; exact r2
                      have p3 : decide (n = i) = false := decide_eq_false r2
                      have p4 : ((n : Int) == (i : Int)) = false := by rw [beq_eq_false_iff_ne]; omega
                      have c3 := C3.out n (by omega) r2
                      have l3 := L3.out n (by omega)
                      obtain ⟨v3, hv3⟩ : ∃ x, parF k n j = x := ⟨_, rfl⟩
                      rw [hv3] at c3 l3
                      rw [hb] at l3
                      have d3 := nne_n c3
                      have N3 := Lib.hid l3
                      have hbd3 := B3.out n (by omega)
                      rw [hb] at hbd3
                      clear hv3 c3 l3
                      (try clear hb)
                      clear C2 C3 L2 L3 B3 B4
                      (try (have r1n := r1; clear r1))
                      (try clear r1n)
                      (try clear r2)
                      have W := Lib.hid (Since.refl w)
                      go_enter Try.func10, Try.ntmps10
                      go_wp2_with (first
                        | (go_at_call 36; (with_reducible refine (awake5 _).mono ?_); rintro e W1 ⟨rfl, hb⟩; have hbel : Below _ _ W1 := hb; (first | have W := Lib.hid (Since.below W.out hbel) | have W := Lib.hid (Since.below (W.out.alloc _) hbel) | have W := Lib.hid (Since.below ((W.out.alloc _).alloc _) hbel) | have W := Lib.hid (Since.below (((W.out.alloc _).alloc _).alloc _) hbel) | skip); (first | have G := Lib.hid (GfAt.below G.out hbel) | have G := Lib.hid (GfAt.below (G.out.alloc _) hbel) | have G := Lib.hid (GfAt.below ((G.out.alloc _).alloc _) hbel) | have G := Lib.hid (GfAt.below (((G.out.alloc _).alloc _).alloc _) hbel) | skip); (first | have P := Lib.hid (Sl.below P.out hbel) | have P := Lib.hid (Sl.below (P.out.alloc _) hbel) | have P := Lib.hid (Sl.below ((P.out.alloc _).alloc _) hbel) | have P := Lib.hid (Sl.below (((P.out.alloc _).alloc _).alloc _) hbel) | skip); clear hbel)
                        | (go_at_call 37; (with_reducible refine (new_any _).mono ?_); rintro e W2 ⟨rfl, hb, hg⟩; have hbel : Below _ _ W2 := hb; (first | have W := Lib.hid (Since.below W.out hbel) | have W := Lib.hid (Since.below (W.out.alloc _) hbel) | have W := Lib.hid (Since.below ((W.out.alloc _).alloc _) hbel) | have W := Lib.hid (Since.below (((W.out.alloc _).alloc _).alloc _) hbel) | skip); (first | have G := Lib.hid (GfAt.below G.out hbel) | have G := Lib.hid (GfAt.below (G.out.alloc _) hbel) | have G := Lib.hid (GfAt.below ((G.out.alloc _).alloc _) hbel) | have G := Lib.hid (GfAt.below (((G.out.alloc _).alloc _).alloc _) hbel) | skip); (first | have P := Lib.hid (Sl.below P.out hbel) | have P := Lib.hid (Sl.below (P.out.alloc _) hbel) | have P := Lib.hid (Sl.below ((P.out.alloc _).alloc _) hbel) | have P := Lib.hid (Sl.below (((P.out.alloc _).alloc _).alloc _) hbel) | skip); have G : Hid (GfAt W2 _) := hg; clear hbel)
                        | (go_at_call 38; (with_reducible refine (CK.out _).mono ?_); rintro e wx ⟨rfl, rfl⟩)
                        | (go_at_call 41; (with_reducible refine (PAR.out _ _ ?_).mono ?_); (first | exact G.out | exact G.out.alloc _ | exact (G.out.alloc _).alloc _ | exact ((G.out.alloc _).alloc _).alloc _ | exact (((G.out.alloc _).alloc _).alloc _).alloc _); rintro e W3 ⟨PA, Pc, rfl, hbs, hb⟩; have hbel : Below _ _ W3 := hb; (first | have W := Lib.hid (Since.below W.out hbel) | have W := Lib.hid (Since.below (W.out.alloc _) hbel) | have W := Lib.hid (Since.below ((W.out.alloc _).alloc _) hbel) | have W := Lib.hid (Since.below (((W.out.alloc _).alloc _).alloc _) hbel) | skip); (first | have G := Lib.hid (GfAt.below G.out hbel) | have G := Lib.hid (GfAt.below (G.out.alloc _) hbel) | have G := Lib.hid (GfAt.below ((G.out.alloc _).alloc _) hbel) | have G := Lib.hid (GfAt.below (((G.out.alloc _).alloc _).alloc _) hbel) | skip); (first | have P := Lib.hid (Sl.below P.out hbel) | have P := Lib.hid (Sl.below (P.out.alloc _) hbel) | have P := Lib.hid (Sl.below ((P.out.alloc _).alloc _) hbel) | have P := Lib.hid (Sl.below (((P.out.alloc _).alloc _).alloc _) hbel) | skip); have P : Hid (Bs W3 PA Pc L) := hbs; have PB := (Blk.new W3 #[.int .i64 (m : Int), .int .i64 (k : Int), .slice PA mk Pc] 30).cell 2; simp only [List.getElem?_toArray, List.getElem?_cons_succ, List.getElem?_cons_zero] at  PB; obtain ⟨bP, oP, hPA, _, hcP⟩ := Bs.at' (Sl.alloc P.out (.cells #[.int .i64 (m : Int), .int .i64 (k : Int), .slice PA mk Pc] 30)) (by omega); subst hPA; have y1 := hcP (a + j) (by omega); rw [L1.out] at y1; have y3 := hcP (b + j) (by omega); rw [N3.out] at y3; clear hcP; clear hbel)
                        | (go_at_call 55; (with_reducible refine (MU.out _ _ ?_).mono ?_); (first | exact G.out | exact G.out.alloc _ | exact (G.out.alloc _).alloc _ | exact ((G.out.alloc _).alloc _).alloc _ | exact (((G.out.alloc _).alloc _).alloc _).alloc _); rintro e w4 ⟨rfl, nd, rfl⟩))
                      all_goals (go_ret; exact ⟨rfl, below_drewN (W.out.alloc _) _⟩)
                · by_cases r1 : n = j
                  · have q1 : decide (n < k) = true := decide_eq_true (by omega)
                    have q2 : (n != j) = false := by rw [bne_eq_false_iff_eq]; exact r1
                    have q3 : decide (n = j) = true := decide_eq_true r1
                    have q4 : ((n : Int) != (j : Int)) = false := by rw [bne_eq_false_iff_eq]; omega
                    by_cases r20 : m ≤ n
                    · have p1 : decide (m ≤ n) = true := decide_eq_true (by omega)
                      (try clear hb)
                      clear C2 C3 L2 L3 B3 B4
                      (try (have r1n := r1; clear r1))
                      (try clear r1n)
                      (try clear r2)
                      have W := Lib.hid (Since.refl w)
                      go_enter Try.func10, Try.ntmps10
                      go_wp2_with (first
                        | (go_at_call 36; (with_reducible refine (awake5 _).mono ?_); rintro e W1 ⟨rfl, hb⟩; have hbel : Below _ _ W1 := hb; (first | have W := Lib.hid (Since.below W.out hbel) | have W := Lib.hid (Since.below (W.out.alloc _) hbel) | have W := Lib.hid (Since.below ((W.out.alloc _).alloc _) hbel) | have W := Lib.hid (Since.below (((W.out.alloc _).alloc _).alloc _) hbel) | skip); (first | have G := Lib.hid (GfAt.below G.out hbel) | have G := Lib.hid (GfAt.below (G.out.alloc _) hbel) | have G := Lib.hid (GfAt.below ((G.out.alloc _).alloc _) hbel) | have G := Lib.hid (GfAt.below (((G.out.alloc _).alloc _).alloc _) hbel) | skip); (first | have P := Lib.hid (Sl.below P.out hbel) | have P := Lib.hid (Sl.below (P.out.alloc _) hbel) | have P := Lib.hid (Sl.below ((P.out.alloc _).alloc _) hbel) | have P := Lib.hid (Sl.below (((P.out.alloc _).alloc _).alloc _) hbel) | skip); clear hbel)
                        | (go_at_call 37; (with_reducible refine (new_any _).mono ?_); rintro e W2 ⟨rfl, hb, hg⟩; have hbel : Below _ _ W2 := hb; (first | have W := Lib.hid (Since.below W.out hbel) | have W := Lib.hid (Since.below (W.out.alloc _) hbel) | have W := Lib.hid (Since.below ((W.out.alloc _).alloc _) hbel) | have W := Lib.hid (Since.below (((W.out.alloc _).alloc _).alloc _) hbel) | skip); (first | have G := Lib.hid (GfAt.below G.out hbel) | have G := Lib.hid (GfAt.below (G.out.alloc _) hbel) | have G := Lib.hid (GfAt.below ((G.out.alloc _).alloc _) hbel) | have G := Lib.hid (GfAt.below (((G.out.alloc _).alloc _).alloc _) hbel) | skip); (first | have P := Lib.hid (Sl.below P.out hbel) | have P := Lib.hid (Sl.below (P.out.alloc _) hbel) | have P := Lib.hid (Sl.below ((P.out.alloc _).alloc _) hbel) | have P := Lib.hid (Sl.below (((P.out.alloc _).alloc _).alloc _) hbel) | skip); have G : Hid (GfAt W2 _) := hg; clear hbel)
                        | (go_at_call 38; (with_reducible refine (CK.out _).mono ?_); rintro e wx ⟨rfl, rfl⟩)
                        | (go_at_call 41; (with_reducible refine (PAR.out _ _ ?_).mono ?_); (first | exact G.out | exact G.out.alloc _ | exact (G.out.alloc _).alloc _ | exact ((G.out.alloc _).alloc _).alloc _ | exact (((G.out.alloc _).alloc _).alloc _).alloc _); rintro e W3 ⟨PA, Pc, rfl, hbs, hb⟩; have hbel : Below _ _ W3 := hb; (first | have W := Lib.hid (Since.below W.out hbel) | have W := Lib.hid (Since.below (W.out.alloc _) hbel) | have W := Lib.hid (Since.below ((W.out.alloc _).alloc _) hbel) | have W := Lib.hid (Since.below (((W.out.alloc _).alloc _).alloc _) hbel) | skip); (first | have G := Lib.hid (GfAt.below G.out hbel) | have G := Lib.hid (GfAt.below (G.out.alloc _) hbel) | have G := Lib.hid (GfAt.below ((G.out.alloc _).alloc _) hbel) | have G := Lib.hid (GfAt.below (((G.out.alloc _).alloc _).alloc _) hbel) | skip); (first | have P := Lib.hid (Sl.below P.out hbel) | have P := Lib.hid (Sl.below (P.out.alloc _) hbel) | have P := Lib.hid (Sl.below ((P.out.alloc _).alloc _) hbel) | have P := Lib.hid (Sl.below (((P.out.alloc _).alloc _).alloc _) hbel) | skip); have P : Hid (Bs W3 PA Pc L) := hbs; have PB := (Blk.new W3 #[.int .i64 (m : Int), .int .i64 (k : Int), .slice PA mk Pc] 30).cell 2; simp only [List.getElem?_toArray, List.getElem?_cons_succ, List.getElem?_cons_zero] at  PB; obtain ⟨bP, oP, hPA, _, hcP⟩ := Bs.at' (Sl.alloc P.out (.cells #[.int .i64 (m : Int), .int .i64 (k : Int), .slice PA mk Pc] 30)) (by omega); subst hPA; have y1 := hcP (a + j) (by omega); rw [L1.out] at y1; clear hcP; clear hbel)
                        | (go_at_call 55; (with_reducible refine (MU.out _ _ ?_).mono ?_); (first | exact G.out | exact G.out.alloc _ | exact (G.out.alloc _).alloc _ | exact ((G.out.alloc _).alloc _).alloc _ | exact (((G.out.alloc _).alloc _).alloc _).alloc _); rintro e w4 ⟨rfl, nd, rfl⟩))
                      all_goals (go_ret; exact ⟨rfl, below_drewN (W.out.alloc _) _⟩)
                    · by_cases r2 : n = i
                      · have p1 : decide (m ≤ n) = false := decide_eq_false (by omega)
                        have p2 : (n == i) = true := by rw [beq_iff_eq]; exact r2
                        have p3 : decide (n = i) = true := decide_eq_true r2
                        have p4 : ((n : Int) == (i : Int)) = true := by rw [beq_iff_eq]; omega
                        clear hnk
                        (try clear hb)
                        clear C2 C3 L2 L3 B3 B4
                        (try (have r1n := r1; clear r1))
                        (try clear r1n)
                        (try clear r2)
                        have W := Lib.hid (Since.refl w)
                        go_enter Try.func10, Try.ntmps10
                        go_wp2_with (first
                          | (go_at_call 36; (with_reducible refine (awake5 _).mono ?_); rintro e W1 ⟨rfl, hb⟩; have hbel : Below _ _ W1 := hb; (first | have W := Lib.hid (Since.below W.out hbel) | have W := Lib.hid (Since.below (W.out.alloc _) hbel) | have W := Lib.hid (Since.below ((W.out.alloc _).alloc _) hbel) | have W := Lib.hid (Since.below (((W.out.alloc _).alloc _).alloc _) hbel) | skip); (first | have G := Lib.hid (GfAt.below G.out hbel) | have G := Lib.hid (GfAt.below (G.out.alloc _) hbel) | have G := Lib.hid (GfAt.below ((G.out.alloc _).alloc _) hbel) | have G := Lib.hid (GfAt.below (((G.out.alloc _).alloc _).alloc _) hbel) | skip); (first | have P := Lib.hid (Sl.below P.out hbel) | have P := Lib.hid (Sl.below (P.out.alloc _) hbel) | have P := Lib.hid (Sl.below ((P.out.alloc _).alloc _) hbel) | have P := Lib.hid (Sl.below (((P.out.alloc _).alloc _).alloc _) hbel) | skip); clear hbel)
                          | (go_at_call 37; (with_reducible refine (new_any _).mono ?_); rintro e W2 ⟨rfl, hb, hg⟩; have hbel : Below _ _ W2 := hb; (first | have W := Lib.hid (Since.below W.out hbel) | have W := Lib.hid (Since.below (W.out.alloc _) hbel) | have W := Lib.hid (Since.below ((W.out.alloc _).alloc _) hbel) | have W := Lib.hid (Since.below (((W.out.alloc _).alloc _).alloc _) hbel) | skip); (first | have G := Lib.hid (GfAt.below G.out hbel) | have G := Lib.hid (GfAt.below (G.out.alloc _) hbel) | have G := Lib.hid (GfAt.below ((G.out.alloc _).alloc _) hbel) | have G := Lib.hid (GfAt.below (((G.out.alloc _).alloc _).alloc _) hbel) | skip); (first | have P := Lib.hid (Sl.below P.out hbel) | have P := Lib.hid (Sl.below (P.out.alloc _) hbel) | have P := Lib.hid (Sl.below ((P.out.alloc _).alloc _) hbel) | have P := Lib.hid (Sl.below (((P.out.alloc _).alloc _).alloc _) hbel) | skip); have G : Hid (GfAt W2 _) := hg; clear hbel)
                          | (go_at_call 38; (with_reducible refine (CK.out _).mono ?_); rintro e wx ⟨rfl, rfl⟩)
                          | (go_at_call 41; (with_reducible refine (PAR.out _ _ ?_).mono ?_); (first | exact G.out | exact G.out.alloc _ | exact (G.out.alloc _).alloc _ | exact ((G.out.alloc _).alloc _).alloc _ | exact (((G.out.alloc _).alloc _).alloc _).alloc _); rintro e W3 ⟨PA, Pc, rfl, hbs, hb⟩; have hbel : Below _ _ W3 := hb; (first | have W := Lib.hid (Since.below W.out hbel) | have W := Lib.hid (Since.below (W.out.alloc _) hbel) | have W := Lib.hid (Since.below ((W.out.alloc _).alloc _) hbel) | have W := Lib.hid (Since.below (((W.out.alloc _).alloc _).alloc _) hbel) | skip); (first | have G := Lib.hid (GfAt.below G.out hbel) | have G := Lib.hid (GfAt.below (G.out.alloc _) hbel) | have G := Lib.hid (GfAt.below ((G.out.alloc _).alloc _) hbel) | have G := Lib.hid (GfAt.below (((G.out.alloc _).alloc _).alloc _) hbel) | skip); (first | have P := Lib.hid (Sl.below P.out hbel) | have P := Lib.hid (Sl.below (P.out.alloc _) hbel) | have P := Lib.hid (Sl.below ((P.out.alloc _).alloc _) hbel) | have P := Lib.hid (Sl.below (((P.out.alloc _).alloc _).alloc _) hbel) | skip); have P : Hid (Bs W3 PA Pc L) := hbs; have PB := (Blk.new W3 #[.int .i64 (m : Int), .int .i64 (k : Int), .slice PA mk Pc] 30).cell 2; simp only [List.getElem?_toArray, List.getElem?_cons_succ, List.getElem?_cons_zero] at  PB; obtain ⟨bP, oP, hPA, _, hcP⟩ := Bs.at' (Sl.alloc P.out (.cells #[.int .i64 (m : Int), .int .i64 (k : Int), .slice PA mk Pc] 30)) (by omega); subst hPA; have y1 := hcP (a + j) (by omega); rw [L1.out] at y1; clear hcP; clear hbel)
                          | (go_at_call 55; (with_reducible refine (MU.out _ _ ?_).mono ?_); (first | exact G.out | exact G.out.alloc _ | exact (G.out.alloc _).alloc _ | exact ((G.out.alloc _).alloc _).alloc _ | exact (((G.out.alloc _).alloc _).alloc _).alloc _); rintro e w4 ⟨rfl, nd, rfl⟩))
                        all_goals (go_ret; exact ⟨rfl, below_drewN (W.out.alloc _) _⟩)
                      · have p1 : decide (m ≤ n) = false := decide_eq_false (by omega)
                        have p2 : (n == i) = false := by rw [beq_eq_false_iff_ne]; exact r2
                        have p3 : decide (n = i) = false := decide_eq_false r2
                        have p4 : ((n : Int) == (i : Int)) = false := by rw [beq_eq_false_iff_ne]; omega
                        have c3 := C3.out n (by omega) r2
                        have l3 := L3.out n (by omega)
                        obtain ⟨v3, hv3⟩ : ∃ x, parF k n j = x := ⟨_, rfl⟩
                        rw [hv3] at c3 l3
                        rw [hb] at l3
                        have d3 := nne_n c3
                        have N3 := Lib.hid l3
                        have hbd3 := B3.out n (by omega)
                        rw [hb] at hbd3
                        clear hv3 c3 l3
                        (try clear hb)
                        clear C2 C3 L2 L3 B3 B4
                        (try (have r1n := r1; clear r1))
                        (try clear r1n)
                        (try clear r2)
                        have W := Lib.hid (Since.refl w)
                        go_enter Try.func10, Try.ntmps10
                        go_wp2_with (first
                          | (go_at_call 36; (with_reducible refine (awake5 _).mono ?_); rintro e W1 ⟨rfl, hb⟩; have hbel : Below _ _ W1 := hb; (first | have W := Lib.hid (Since.below W.out hbel) | have W := Lib.hid (Since.below (W.out.alloc _) hbel) | have W := Lib.hid (Since.below ((W.out.alloc _).alloc _) hbel) | have W := Lib.hid (Since.below (((W.out.alloc _).alloc _).alloc _) hbel) | skip); (first | have G := Lib.hid (GfAt.below G.out hbel) | have G := Lib.hid (GfAt.below (G.out.alloc _) hbel) | have G := Lib.hid (GfAt.below ((G.out.alloc _).alloc _) hbel) | have G := Lib.hid (GfAt.below (((G.out.alloc _).alloc _).alloc _) hbel) | skip); (first | have P := Lib.hid (Sl.below P.out hbel) | have P := Lib.hid (Sl.below (P.out.alloc _) hbel) | have P := Lib.hid (Sl.below ((P.out.alloc _).alloc _) hbel) | have P := Lib.hid (Sl.below (((P.out.alloc _).alloc _).alloc _) hbel) | skip); clear hbel)
                          | (go_at_call 37; (with_reducible refine (new_any _).mono ?_); rintro e W2 ⟨rfl, hb, hg⟩; have hbel : Below _ _ W2 := hb; (first | have W := Lib.hid (Since.below W.out hbel) | have W := Lib.hid (Since.below (W.out.alloc _) hbel) | have W := Lib.hid (Since.below ((W.out.alloc _).alloc _) hbel) | have W := Lib.hid (Since.below (((W.out.alloc _).alloc _).alloc _) hbel) | skip); (first | have G := Lib.hid (GfAt.below G.out hbel) | have G := Lib.hid (GfAt.below (G.out.alloc _) hbel) | have G := Lib.hid (GfAt.below ((G.out.alloc _).alloc _) hbel) | have G := Lib.hid (GfAt.below (((G.out.alloc _).alloc _).alloc _) hbel) | skip); (first | have P := Lib.hid (Sl.below P.out hbel) | have P := Lib.hid (Sl.below (P.out.alloc _) hbel) | have P := Lib.hid (Sl.below ((P.out.alloc _).alloc _) hbel) | have P := Lib.hid (Sl.below (((P.out.alloc _).alloc _).alloc _) hbel) | skip); have G : Hid (GfAt W2 _) := hg; clear hbel)
                          | (go_at_call 38; (with_reducible refine (CK.out _).mono ?_); rintro e wx ⟨rfl, rfl⟩)
                          | (go_at_call 41; (with_reducible refine (PAR.out _ _ ?_).mono ?_); (first | exact G.out | exact G.out.alloc _ | exact (G.out.alloc _).alloc _ | exact ((G.out.alloc _).alloc _).alloc _ | exact (((G.out.alloc _).alloc _).alloc _).alloc _); rintro e W3 ⟨PA, Pc, rfl, hbs, hb⟩; have hbel : Below _ _ W3 := hb; (first | have W := Lib.hid (Since.below W.out hbel) | have W := Lib.hid (Since.below (W.out.alloc _) hbel) | have W := Lib.hid (Since.below ((W.out.alloc _).alloc _) hbel) | have W := Lib.hid (Since.below (((W.out.alloc _).alloc _).alloc _) hbel) | skip); (first | have G := Lib.hid (GfAt.below G.out hbel) | have G := Lib.hid (GfAt.below (G.out.alloc _) hbel) | have G := Lib.hid (GfAt.below ((G.out.alloc _).alloc _) hbel) | have G := Lib.hid (GfAt.below (((G.out.alloc _).alloc _).alloc _) hbel) | skip); (first | have P := Lib.hid (Sl.below P.out hbel) | have P := Lib.hid (Sl.below (P.out.alloc _) hbel) | have P := Lib.hid (Sl.below ((P.out.alloc _).alloc _) hbel) | have P := Lib.hid (Sl.below (((P.out.alloc _).alloc _).alloc _) hbel) | skip); have P : Hid (Bs W3 PA Pc L) := hbs; have PB := (Blk.new W3 #[.int .i64 (m : Int), .int .i64 (k : Int), .slice PA mk Pc] 30).cell 2; simp only [List.getElem?_toArray, List.getElem?_cons_succ, List.getElem?_cons_zero] at  PB; obtain ⟨bP, oP, hPA, _, hcP⟩ := Bs.at' (Sl.alloc P.out (.cells #[.int .i64 (m : Int), .int .i64 (k : Int), .slice PA mk Pc] 30)) (by omega); subst hPA; have y1 := hcP (a + j) (by omega); rw [L1.out] at y1; have y3 := hcP (b + j) (by omega); rw [N3.out] at y3; clear hcP; clear hbel)
                          | (go_at_call 55; (with_reducible refine (MU.out _ _ ?_).mono ?_); (first | exact G.out | exact G.out.alloc _ | exact (G.out.alloc _).alloc _ | exact ((G.out.alloc _).alloc _).alloc _ | exact (((G.out.alloc _).alloc _).alloc _).alloc _); rintro e w4 ⟨rfl, nd, rfl⟩))
                        all_goals (go_ret; exact ⟨rfl, below_drewN (W.out.alloc _) _⟩)
                  · have q1 : decide (n < k) = true := decide_eq_true (by omega)
                    have q2 : (n != j) = true := by rw [bne_iff_ne]; exact r1
                    have q3 : decide (n = j) = false := decide_eq_false r1
                    have q4 : ((n : Int) != (j : Int)) = true := by rw [bne_iff_ne]; omega
                    have c2 := C2.out n (by omega) r1
                    have l2 := L2.out n (by omega)
                    obtain ⟨v2, hv2⟩ : ∃ x, parF k i n = x := ⟨_, rfl⟩
                    rw [hv2] at c2 l2
                    have d2 := bne_n c2
                    have N2 := Lib.hid l2
                    have hbd2 : a + n < mk := B4.out n (by omega)
                    clear hv2 c2 l2
                    by_cases r20 : m ≤ n
                    · have p1 : decide (m ≤ n) = true := decide_eq_true (by omega)
                      (try clear hb)
                      clear C2 C3 L2 L3 B3 B4
                      (try (have r1n := r1; clear r1))
                      (try clear r1n)
                      (try clear r2)
                      have W := Lib.hid (Since.refl w)
                      go_enter Try.func10, Try.ntmps10
                      go_wp2_with (first
                        | (go_at_call 36; (with_reducible refine (awake5 _).mono ?_); rintro e W1 ⟨rfl, hb⟩; have hbel : Below _ _ W1 := hb; (first | have W := Lib.hid (Since.below W.out hbel) | have W := Lib.hid (Since.below (W.out.alloc _) hbel) | have W := Lib.hid (Since.below ((W.out.alloc _).alloc _) hbel) | have W := Lib.hid (Since.below (((W.out.alloc _).alloc _).alloc _) hbel) | skip); (first | have G := Lib.hid (GfAt.below G.out hbel) | have G := Lib.hid (GfAt.below (G.out.alloc _) hbel) | have G := Lib.hid (GfAt.below ((G.out.alloc _).alloc _) hbel) | have G := Lib.hid (GfAt.below (((G.out.alloc _).alloc _).alloc _) hbel) | skip); (first | have P := Lib.hid (Sl.below P.out hbel) | have P := Lib.hid (Sl.below (P.out.alloc _) hbel) | have P := Lib.hid (Sl.below ((P.out.alloc _).alloc _) hbel) | have P := Lib.hid (Sl.below (((P.out.alloc _).alloc _).alloc _) hbel) | skip); clear hbel)
                        | (go_at_call 37; (with_reducible refine (new_any _).mono ?_); rintro e W2 ⟨rfl, hb, hg⟩; have hbel : Below _ _ W2 := hb; (first | have W := Lib.hid (Since.below W.out hbel) | have W := Lib.hid (Since.below (W.out.alloc _) hbel) | have W := Lib.hid (Since.below ((W.out.alloc _).alloc _) hbel) | have W := Lib.hid (Since.below (((W.out.alloc _).alloc _).alloc _) hbel) | skip); (first | have G := Lib.hid (GfAt.below G.out hbel) | have G := Lib.hid (GfAt.below (G.out.alloc _) hbel) | have G := Lib.hid (GfAt.below ((G.out.alloc _).alloc _) hbel) | have G := Lib.hid (GfAt.below (((G.out.alloc _).alloc _).alloc _) hbel) | skip); (first | have P := Lib.hid (Sl.below P.out hbel) | have P := Lib.hid (Sl.below (P.out.alloc _) hbel) | have P := Lib.hid (Sl.below ((P.out.alloc _).alloc _) hbel) | have P := Lib.hid (Sl.below (((P.out.alloc _).alloc _).alloc _) hbel) | skip); have G : Hid (GfAt W2 _) := hg; clear hbel)
                        | (go_at_call 38; (with_reducible refine (CK.out _).mono ?_); rintro e wx ⟨rfl, rfl⟩)
                        | (go_at_call 41; (with_reducible refine (PAR.out _ _ ?_).mono ?_); (first | exact G.out | exact G.out.alloc _ | exact (G.out.alloc _).alloc _ | exact ((G.out.alloc _).alloc _).alloc _ | exact (((G.out.alloc _).alloc _).alloc _).alloc _); rintro e W3 ⟨PA, Pc, rfl, hbs, hb⟩; have hbel : Below _ _ W3 := hb; (first | have W := Lib.hid (Since.below W.out hbel) | have W := Lib.hid (Since.below (W.out.alloc _) hbel) | have W := Lib.hid (Since.below ((W.out.alloc _).alloc _) hbel) | have W := Lib.hid (Since.below (((W.out.alloc _).alloc _).alloc _) hbel) | skip); (first | have G := Lib.hid (GfAt.below G.out hbel) | have G := Lib.hid (GfAt.below (G.out.alloc _) hbel) | have G := Lib.hid (GfAt.below ((G.out.alloc _).alloc _) hbel) | have G := Lib.hid (GfAt.below (((G.out.alloc _).alloc _).alloc _) hbel) | skip); (first | have P := Lib.hid (Sl.below P.out hbel) | have P := Lib.hid (Sl.below (P.out.alloc _) hbel) | have P := Lib.hid (Sl.below ((P.out.alloc _).alloc _) hbel) | have P := Lib.hid (Sl.below (((P.out.alloc _).alloc _).alloc _) hbel) | skip); have P : Hid (Bs W3 PA Pc L) := hbs; have PB := (Blk.new W3 #[.int .i64 (m : Int), .int .i64 (k : Int), .slice PA mk Pc] 30).cell 2; simp only [List.getElem?_toArray, List.getElem?_cons_succ, List.getElem?_cons_zero] at  PB; obtain ⟨bP, oP, hPA, _, hcP⟩ := Bs.at' (Sl.alloc P.out (.cells #[.int .i64 (m : Int), .int .i64 (k : Int), .slice PA mk Pc] 30)) (by omega); subst hPA; have y1 := hcP (a + j) (by omega); rw [L1.out] at y1; have y2 := hcP (a + n) (by omega); rw [N2.out] at y2; clear hcP; clear hbel)
                        | (go_at_call 55; (with_reducible refine (MU.out _ _ ?_).mono ?_); (first | exact G.out | exact G.out.alloc _ | exact (G.out.alloc _).alloc _ | exact ((G.out.alloc _).alloc _).alloc _ | exact (((G.out.alloc _).alloc _).alloc _).alloc _); rintro e w4 ⟨rfl, nd, rfl⟩))
                      all_goals (go_ret; exact ⟨rfl, below_drewN (W.out.alloc _) _⟩)
                    · by_cases r2 : n = i
                      · have p1 : decide (m ≤ n) = false := decide_eq_false (by omega)
                        have p2 : (n == i) = true := by rw [beq_iff_eq]; exact r2
                        have p3 : decide (n = i) = true := decide_eq_true r2
                        have p4 : ((n : Int) == (i : Int)) = true := by rw [beq_iff_eq]; omega
                        clear hnk
                        (try clear hb)
                        clear C2 C3 L2 L3 B3 B4
                        (try (have r1n := r1; clear r1))
                        (try clear r1n)
                        (try clear r2)
                        have W := Lib.hid (Since.refl w)
                        go_enter Try.func10, Try.ntmps10
                        go_wp2_with (first
                          | (go_at_call 36; (with_reducible refine (awake5 _).mono ?_); rintro e W1 ⟨rfl, hb⟩; have hbel : Below _ _ W1 := hb; (first | have W := Lib.hid (Since.below W.out hbel) | have W := Lib.hid (Since.below (W.out.alloc _) hbel) | have W := Lib.hid (Since.below ((W.out.alloc _).alloc _) hbel) | have W := Lib.hid (Since.below (((W.out.alloc _).alloc _).alloc _) hbel) | skip); (first | have G := Lib.hid (GfAt.below G.out hbel) | have G := Lib.hid (GfAt.below (G.out.alloc _) hbel) | have G := Lib.hid (GfAt.below ((G.out.alloc _).alloc _) hbel) | have G := Lib.hid (GfAt.below (((G.out.alloc _).alloc _).alloc _) hbel) | skip); (first | have P := Lib.hid (Sl.below P.out hbel) | have P := Lib.hid (Sl.below (P.out.alloc _) hbel) | have P := Lib.hid (Sl.below ((P.out.alloc _).alloc _) hbel) | have P := Lib.hid (Sl.below (((P.out.alloc _).alloc _).alloc _) hbel) | skip); clear hbel)
                          | (go_at_call 37; (with_reducible refine (new_any _).mono ?_); rintro e W2 ⟨rfl, hb, hg⟩; have hbel : Below _ _ W2 := hb; (first | have W := Lib.hid (Since.below W.out hbel) | have W := Lib.hid (Since.below (W.out.alloc _) hbel) | have W := Lib.hid (Since.below ((W.out.alloc _).alloc _) hbel) | have W := Lib.hid (Since.below (((W.out.alloc _).alloc _).alloc _) hbel) | skip); (first | have G := Lib.hid (GfAt.below G.out hbel) | have G := Lib.hid (GfAt.below (G.out.alloc _) hbel) | have G := Lib.hid (GfAt.below ((G.out.alloc _).alloc _) hbel) | have G := Lib.hid (GfAt.below (((G.out.alloc _).alloc _).alloc _) hbel) | skip); (first | have P := Lib.hid (Sl.below P.out hbel) | have P := Lib.hid (Sl.below (P.out.alloc _) hbel) | have P := Lib.hid (Sl.below ((P.out.alloc _).alloc _) hbel) | have P := Lib.hid (Sl.below (((P.out.alloc _).alloc _).alloc _) hbel) | skip); have G : Hid (GfAt W2 _) := hg; clear hbel)
                          | (go_at_call 38; (with_reducible refine (CK.out _).mono ?_); rintro e wx ⟨rfl, rfl⟩)
                          | (go_at_call 41; (with_reducible refine (PAR.out _ _ ?_).mono ?_); (first | exact G.out | exact G.out.alloc _ | exact (G.out.alloc _).alloc _ | exact ((G.out.alloc _).alloc _).alloc _ | exact (((G.out.alloc _).alloc _).alloc _).alloc _); rintro e W3 ⟨PA, Pc, rfl, hbs, hb⟩; have hbel : Below _ _ W3 := hb; (first | have W := Lib.hid (Since.below W.out hbel) | have W := Lib.hid (Since.below (W.out.alloc _) hbel) | have W := Lib.hid (Since.below ((W.out.alloc _).alloc _) hbel) | have W := Lib.hid (Since.below (((W.out.alloc _).alloc _).alloc _) hbel) | skip); (first | have G := Lib.hid (GfAt.below G.out hbel) | have G := Lib.hid (GfAt.below (G.out.alloc _) hbel) | have G := Lib.hid (GfAt.below ((G.out.alloc _).alloc _) hbel) | have G := Lib.hid (GfAt.below (((G.out.alloc _).alloc _).alloc _) hbel) | skip); (first | have P := Lib.hid (Sl.below P.out hbel) | have P := Lib.hid (Sl.below (P.out.alloc _) hbel) | have P := Lib.hid (Sl.below ((P.out.alloc _).alloc _) hbel) | have P := Lib.hid (Sl.below (((P.out.alloc _).alloc _).alloc _) hbel) | skip); have P : Hid (Bs W3 PA Pc L) := hbs; have PB := (Blk.new W3 #[.int .i64 (m : Int), .int .i64 (k : Int), .slice PA mk Pc] 30).cell 2; simp only [List.getElem?_toArray, List.getElem?_cons_succ, List.getElem?_cons_zero] at  PB; obtain ⟨bP, oP, hPA, _, hcP⟩ := Bs.at' (Sl.alloc P.out (.cells #[.int .i64 (m : Int), .int .i64 (k : Int), .slice PA mk Pc] 30)) (by omega); subst hPA; have y1 := hcP (a + j) (by omega); rw [L1.out] at y1; have y2 := hcP (a + n) (by omega); rw [N2.out] at y2; clear hcP; clear hbel)
                          | (go_at_call 55; (with_reducible refine (MU.out _ _ ?_).mono ?_); (first | exact G.out | exact G.out.alloc _ | exact (G.out.alloc _).alloc _ | exact ((G.out.alloc _).alloc _).alloc _ | exact (((G.out.alloc _).alloc _).alloc _).alloc _); rintro e w4 ⟨rfl, nd, rfl⟩))
                        all_goals (go_ret; exact ⟨rfl, below_drewN (W.out.alloc _) _⟩)
                      · have p1 : decide (m ≤ n) = false := decide_eq_false (by omega)
                        have p2 : (n == i) = false := by rw [beq_eq_false_iff_ne]; exact r2
                        have p3 : decide (n = i) = false := decide_eq_false r2
                        have p4 : ((n : Int) == (i : Int)) = false := by rw [beq_eq_false_iff_ne]; omega
                        have c3 := C3.out n (by omega) r2
                        have l3 := L3.out n (by omega)
                        obtain ⟨v3, hv3⟩ : ∃ x, parF k n j = x := ⟨_, rfl⟩
                        rw [hv3] at c3 l3
                        rw [hb] at l3
                        have d3 := nne_n c3
                        have N3 := Lib.hid l3
                        have hbd3 := B3.out n (by omega)
                        rw [hb] at hbd3
                        clear hv3 c3 l3
                        (try clear hb)
                        clear C2 C3 L2 L3 B3 B4
                        (try (have r1n := r1; clear r1))
                        (try clear r1n)
                        (try clear r2)
                        have W := Lib.hid (Since.refl w)
                        go_enter Try.func10, Try.ntmps10
                        go_wp2_with (first
                          | (go_at_call 36; (with_reducible refine (awake5 _).mono ?_); rintro e W1 ⟨rfl, hb⟩; have hbel : Below _ _ W1 := hb; (first | have W := Lib.hid (Since.below W.out hbel) | have W := Lib.hid (Since.below (W.out.alloc _) hbel) | have W := Lib.hid (Since.below ((W.out.alloc _).alloc _) hbel) | have W := Lib.hid (Since.below (((W.out.alloc _).alloc _).alloc _) hbel) | skip); (first | have G := Lib.hid (GfAt.below G.out hbel) | have G := Lib.hid (GfAt.below (G.out.alloc _) hbel) | have G := Lib.hid (GfAt.below ((G.out.alloc _).alloc _) hbel) | have G := Lib.hid (GfAt.below (((G.out.alloc _).alloc _).alloc _) hbel) | skip); (first | have P := Lib.hid (Sl.below P.out hbel) | have P := Lib.hid (Sl.below (P.out.alloc _) hbel) | have P := Lib.hid (Sl.below ((P.out.alloc _).alloc _) hbel) | have P := Lib.hid (Sl.below (((P.out.alloc _).alloc _).alloc _) hbel) | skip); clear hbel)
                          | (go_at_call 37; (with_reducible refine (new_any _).mono ?_); rintro e W2 ⟨rfl, hb, hg⟩; have hbel : Below _ _ W2 := hb; (first | have W := Lib.hid (Since.below W.out hbel) | have W := Lib.hid (Since.below (W.out.alloc _) hbel) | have W := Lib.hid (Since.below ((W.out.alloc _).alloc _) hbel) | have W := Lib.hid (Since.below (((W.out.alloc _).alloc _).alloc _) hbel) | skip); (first | have G := Lib.hid (GfAt.below G.out hbel) | have G := Lib.hid (GfAt.below (G.out.alloc _) hbel) | have G := Lib.hid (GfAt.below ((G.out.alloc _).alloc _) hbel) | have G := Lib.hid (GfAt.below (((G.out.alloc _).alloc _).alloc _) hbel) | skip); (first | have P := Lib.hid (Sl.below P.out hbel) | have P := Lib.hid (Sl.below (P.out.alloc _) hbel) | have P := Lib.hid (Sl.below ((P.out.alloc _).alloc _) hbel) | have P := Lib.hid (Sl.below (((P.out.alloc _).alloc _).alloc _) hbel) | skip); have G : Hid (GfAt W2 _) := hg; clear hbel)
                          | (go_at_call 38; (with_reducible refine (CK.out _).mono ?_); rintro e wx ⟨rfl, rfl⟩)
                          | (go_at_call 41; (with_reducible refine (PAR.out _ _ ?_).mono ?_); (first | exact G.out | exact G.out.alloc _ | exact (G.out.alloc _).alloc _ | exact ((G.out.alloc _).alloc _).alloc _ | exact (((G.out.alloc _).alloc _).alloc _).alloc _); rintro e W3 ⟨PA, Pc, rfl, hbs, hb⟩; have hbel : Below _ _ W3 := hb; (first | have W := Lib.hid (Since.below W.out hbel) | have W := Lib.hid (Since.below (W.out.alloc _) hbel) | have W := Lib.hid (Since.below ((W.out.alloc _).alloc _) hbel) | have W := Lib.hid (Since.below (((W.out.alloc _).alloc _).alloc _) hbel) | skip); (first | have G := Lib.hid (GfAt.below G.out hbel) | have G := Lib.hid (GfAt.below (G.out.alloc _) hbel) | have G := Lib.hid (GfAt.below ((G.out.alloc _).alloc _) hbel) | have G := Lib.hid (GfAt.below (((G.out.alloc _).alloc _).alloc _) hbel) | skip); (first | have P := Lib.hid (Sl.below P.out hbel) | have P := Lib.hid (Sl.below (P.out.alloc _) hbel) | have P := Lib.hid (Sl.below ((P.out.alloc _).alloc _) hbel) | have P := Lib.hid (Sl.below (((P.out.alloc _).alloc _).alloc _) hbel) | skip); have P : Hid (Bs W3 PA Pc L) := hbs; have PB := (Blk.new W3 #[.int .i64 (m : Int), .int .i64 (k : Int), .slice PA mk Pc] 30).cell 2; simp only [List.getElem?_toArray, List.getElem?_cons_succ, List.getElem?_cons_zero] at  PB; obtain ⟨bP, oP, hPA, _, hcP⟩ := Bs.at' (Sl.alloc P.out (.cells #[.int .i64 (m : Int), .int .i64 (k : Int), .slice PA mk Pc] 30)) (by omega); subst hPA; have y1 := hcP (a + j) (by omega); rw [L1.out] at y1; have y2 := hcP (a + n) (by omega); rw [N2.out] at y2; have y3 := hcP (b + j) (by omega); rw [N3.out] at y3; clear hcP; clear hbel)
                          | (go_at_call 55; (with_reducible refine (MU.out _ _ ?_).mono ?_); (first | exact G.out | exact G.out.alloc _ | exact (G.out.alloc _).alloc _ | exact ((G.out.alloc _).alloc _).alloc _ | exact (((G.out.alloc _).alloc _).alloc _).alloc _); rintro e w4 ⟨rfl, nd, rfl⟩))
                        all_goals (go_ret; exact ⟨rfl, below_drewN (W.out.alloc _) _⟩)
  · have CK : Hid (∀ w, Calls Try.prog 38 #[.int .i64 k, .int .i64 m] w fun e w' => e = .returned (.int .i64 50) ∧ w = w') := fun w => cauchy_check_bad k m hk hm h w
    clear h
    have W := Lib.hid (Since.refl w)
    go_enter Try.func10, Try.ntmps10
    go_wp2_with (first
      | (go_at_call 36; (with_reducible refine (awake5 _).mono ?_); rintro e W1 ⟨rfl, hb⟩; have hbel : Below _ _ W1 := hb; (first | have W := Lib.hid (Since.below W.out hbel) | have W := Lib.hid (Since.below (W.out.alloc _) hbel) | have W := Lib.hid (Since.below ((W.out.alloc _).alloc _) hbel) | have W := Lib.hid (Since.below (((W.out.alloc _).alloc _).alloc _) hbel) | skip); (first | have G := Lib.hid (GfAt.below G.out hbel) | have G := Lib.hid (GfAt.below (G.out.alloc _) hbel) | have G := Lib.hid (GfAt.below ((G.out.alloc _).alloc _) hbel) | have G := Lib.hid (GfAt.below (((G.out.alloc _).alloc _).alloc _) hbel) | skip); clear hbel)
      | (go_at_call 37; (with_reducible refine (new_any _).mono ?_); rintro e W2 ⟨rfl, hb, hg⟩; have hbel : Below _ _ W2 := hb; (first | have W := Lib.hid (Since.below W.out hbel) | have W := Lib.hid (Since.below (W.out.alloc _) hbel) | have W := Lib.hid (Since.below ((W.out.alloc _).alloc _) hbel) | have W := Lib.hid (Since.below (((W.out.alloc _).alloc _).alloc _) hbel) | skip); (first | have G := Lib.hid (GfAt.below G.out hbel) | have G := Lib.hid (GfAt.below (G.out.alloc _) hbel) | have G := Lib.hid (GfAt.below ((G.out.alloc _).alloc _) hbel) | have G := Lib.hid (GfAt.below (((G.out.alloc _).alloc _).alloc _) hbel) | skip); have G : Hid (GfAt W2 _) := hg; clear hbel)
      | (go_at_call 38; (with_reducible refine (CK.out _).mono ?_); rintro e wx ⟨rfl, rfl⟩))
    all_goals (go_ret; exact ⟨rfl, W.out⟩)
end Go.Proofs.Ytmkjplpnoohfnaa
