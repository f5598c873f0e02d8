/- The laws of layer 1, walked: each call returns true, and nothing that was there has turned. -/
import Derived.Test.YtoofmblmbgdeeaaRef01
namespace Go.Proofs.Ytoofmblmbgdeeaa
open Go.RowKit
set_option maxRecDepth 100000 in
theorem awake1 (w : World) : Calls Try.prog 29 #[] w fun e w' => e = .returned (.bool true) ∧ Below w.heap.size w w' := by
  have c1 : ∀ b w, GfAt w b → Calls Try.prog 34 #[fp b, .int .u8 2] w fun e w' => e = .returned (.tuple #[.int .u8 142, .int .i64 0]) ∧ ∃ n, w' = w.drewN n := fun b w h => by
    have := gf_inv b (F.of 2) w h
    rwa [show ((F.inv (F.of 2)).n : Int) = 142 by kernel_rfl, show ((if F.of 2 = 0 then 10 else 0) : Int) = 0 by kernel_rfl] at this
  have c2 : ∀ b w, GfAt w b → Calls Try.prog 34 #[fp b, .int .u8 0] w fun e w' => e = .returned (.tuple #[.int .u8 0, .int .i64 10]) ∧ ∃ n, w' = w.drewN n := fun b w h => gf_inv b (F.of 0) w h
  have c3 : ∀ b w, GfAt w b → Calls Try.prog 33 #[fp b, .int .u8 2, .int .i64 8] w fun e w' => e = .returned (.tuple #[.int .u8 29, .int .i64 0]) ∧ ∃ n, w' = w.drewN n := fun b w h => by
    have := gf_pow b (F.of 2) 8 w h
    rwa [show ((powR (F.of 2) 8).1.n : Int) = 29 by kernel_rfl, show (powR (F.of 2) 8).2 = 0 by kernel_rfl] at this
  have c4 : ∀ b w, GfAt w b → Calls Try.prog 32 #[fp b, .int .u8 29] w fun e w' => e = .returned (.tuple #[.int .i64 8, .int .i64 0]) ∧ ∃ n, w' = w.drewN n := fun b w h => by
    have := gf_log_nz b (F.of 29) (by decide) w h
    rwa [show ((F.of 29).log : Int) = 8 by kernel_rfl] at this
  have c5 : ∀ b w, GfAt w b → Calls Try.prog 31 #[fp b, .int .u8 2, .int .u8 128] w fun e w' => e = .returned (.int .u8 29) ∧ ∃ n, w' = w.drewN n := fun b w h => by
    have := gf_mul b (F.of 2) (F.of 128) w h
    rwa [show ((F.of 2 * F.of 128).n : Int) = 29 by kernel_rfl] at this
  have c6 : ∀ b w, GfAt w b → Calls Try.prog 31 #[fp b, .int .u8 3, .int .u8 7] w fun e w' => e = .returned (.int .u8 9) ∧ ∃ n, w' = w.drewN n := fun b w h => by
    have := gf_mul b (F.of 3) (F.of 7) w h
    rwa [show ((F.of 3 * F.of 7).n : Int) = 9 by kernel_rfl] at this
  have H1 := Lib.hid c1
  have H2 := Lib.hid c2
  have H3 := Lib.hid c3
  have H4 := Lib.hid c4
  have H5 := Lib.hid c5
  have H6 := Lib.hid c6
  clear c1 c2 c3 c4 c5 c6
  go_enter Try.func29, Try.ntmps29
  go_wp2_with (first
    | (go_at_call 30; (with_reducible refine (new_any _).mono ?_); rintro e w1 ⟨rfl, hb, hg⟩; have HB := Lib.hid hb; have HG := Lib.hid hg; clear hb hg)
    | (go_at_call 34; (with_reducible refine (H1.out _ _ ?_).mono ?_); (first | exact HG.out | exact HG.out.drewN _); rintro e w2 ⟨rfl, n, rfl⟩)
    | (go_at_call 34; (with_reducible refine (H2.out _ _ ?_).mono ?_); (first | exact HG.out | exact HG.out.drewN _); rintro e w2 ⟨rfl, n, rfl⟩)
    | (go_at_call 33; (with_reducible refine (H3.out _ _ ?_).mono ?_); (first | exact HG.out | exact HG.out.drewN _); rintro e w2 ⟨rfl, n, rfl⟩)
    | (go_at_call 32; (with_reducible refine (H4.out _ _ ?_).mono ?_); (first | exact HG.out | exact HG.out.drewN _); rintro e w2 ⟨rfl, n, rfl⟩)
    | (go_at_call 31; (with_reducible refine (H5.out _ _ ?_).mono ?_); (first | exact HG.out | exact HG.out.drewN _); rintro e w2 ⟨rfl, n, rfl⟩)
    | (go_at_call 31; (with_reducible refine (H6.out _ _ ?_).mono ?_); (first | exact HG.out | exact HG.out.drewN _); rintro e w2 ⟨rfl, n, rfl⟩)
    )
  go_goals
  go_ret
  exact ⟨rfl, below_drewN HB.out _⟩
theorem walk_GfNames (w : World) : Calls Try.prog 3 #[] w fun e w' => e = .returned (.bool true) ∧ Below w.heap.size w w' := by
  go_enter Try.func3, Try.ntmps3
  go_wp2_with (go_at_call 29; (with_reducible refine (awake1 _).mono ?_); rintro e w0 ⟨rfl, hb0⟩; have HB0 := Lib.hid hb0; clear hb0)
  go_ret
  exact ⟨rfl, HB0.out⟩

set_option maxRecDepth 100000 in
theorem walk_GfField (a b c : F) (w : World) : Calls Try.prog 4 #[.int .u8 a.n, .int .u8 b.n, .int .u8 c.n] w fun e w' => e = .returned (.bool true) ∧ Below w.heap.size w w' := by
  have m1 : ∀ p w, GfAt w p → Calls Try.prog 31 #[fp p, .int .u8 a.n, .int .u8 1] w fun e w' => e = .returned (.int .u8 a.n) ∧ ∃ n, w' = w.drewN n := fun p w h => by
    have := gf_mul p a 1 w h
    rwa [F.mul_one] at this
  have m0 : ∀ p w, GfAt w p → Calls Try.prog 31 #[fp p, .int .u8 a.n, .int .u8 0] w fun e w' => e = .returned (.int .u8 0) ∧ ∃ n, w' = w.drewN n := fun p w h => by
    have := gf_mul p a 0 w h
    rwa [F.mul_zero] at this
  have M1 := Lib.hid m1
  have M0 := Lib.hid m0
  clear m1 m0
  have q1 : b * a = a * b := F.mul_comm b a
  have q2 : a * b * c = a * (b * c) := F.mul_assoc a b c
  have q3 : a * (b + c) = a * b + a * c := F.mul_add a b c
  have hxor := xor_n
  have hz : ((a.n : Int) == 0) = true ∧ (((a * b).n : Int) == 0) = true ∨ ((a.n : Int) == 0) = false ∧ ((b.n : Int) == 0) = true ∧ (((a * b).n : Int) == 0) = true ∨ ((a.n : Int) == 0) = false ∧ ((b.n : Int) == 0) = false ∧ (((a * b).n : Int) == 0) = false := by
    by_cases ha : a = 0
    · exact .inl ⟨beq_n (y := 0) ha, beq_n (y := 0) (by rw [ha, F.zero_mul])⟩
    · by_cases hb : b = 0
      · exact .inr (.inl ⟨bne_n (y := 0) ha, beq_n (y := 0) hb, beq_n (y := 0) (by rw [hb, F.mul_zero])⟩)
      · exact .inr (.inr ⟨bne_n (y := 0) ha, bne_n (y := 0) hb, bne_n (y := 0) (F.mul_ne_zero ha hb)⟩)
  rcases hz with ⟨z1, z2⟩ | ⟨z1, z3, z2⟩ | ⟨z1, z3, z2⟩
  all_goals
    go_enter Try.func4, Try.ntmps4
    go_wp2_with (first
      | (go_at_call 29; (with_reducible refine (awake1 _).mono ?_); rintro e w0 ⟨rfl, hb0⟩; have HB0 := Lib.hid hb0; clear hb0)
      | (go_at_call 30; (with_reducible refine (new_any _).mono ?_); rintro e w1 ⟨rfl, hb, hg⟩; have HB := Lib.hid hb; have HG := Lib.hid hg; clear hb hg)
      | (go_at_call 31; (with_reducible refine (gf_mul _ _ _ _ ?_).mono ?_); (first | exact HG.out | exact HG.out.drewN _); rintro e w2 ⟨rfl, n, rfl⟩)
      | (go_at_call 31; (with_reducible refine (M1.out _ _ ?_).mono ?_); (first | exact HG.out | exact HG.out.drewN _); rintro e w2 ⟨rfl, n, rfl⟩)
      | (go_at_call 31; (with_reducible refine (M0.out _ _ ?_).mono ?_); (first | exact HG.out | exact HG.out.drewN _); rintro e w2 ⟨rfl, n, rfl⟩))
    go_ret
    exact ⟨rfl, below_drewN (HB0.out.trans (HB.out.mono HB0.out.size)) _⟩
def powZ (x : F) (n : Int) : F := (powR x n).1
theorem powZ_nz {x : F} (hx : x ≠ 0) (n : Int) : powZ x n = F.g (x.log * (n % 255).toNat) := by unfold powZ powR; rw [if_neg hx]
theorem gf_powZ (b : Nat) (x : F) (n : Int) (hx : x ≠ 0) (w : World) (h : GfAt w b) :
    Calls Try.prog 33 #[fp b, .int .u8 x.n, .int .i64 n] w fun e w' => e = .returned (.tuple #[.int .u8 (powZ x n).n, .int .i64 0]) ∧ ∃ n, w' = w.drewN n := by
  rw [powZ_nz hx]; exact gf_pow_nz b x n hx w h
theorem g_mul_mod (l a b c : Nat) (h : (a + b) % 255 = c % 255) : F.g (l * a) * F.g (l * b) = F.g (l * c) := by
  rw [F.g_mul, ← F.g_mod, ← F.g_mod (l * c), ← Nat.mul_add, Nat.mul_mod, h, ← Nat.mul_mod]
theorem powZ_add {x : F} (hx : x ≠ 0) (m n : Int) : powZ x m * powZ x n = powZ x (m + n) := by
  rw [powZ_nz hx, powZ_nz hx, powZ_nz hx]
  refine g_mul_mod _ _ _ _ ?_
  omega
theorem powZ_255 {x : F} (hx : x ≠ 0) (m : Int) : powZ x (m + 255) = powZ x m := by
  rw [powZ_nz hx, powZ_nz hx]; congr 3; omega
theorem powZ_log {x : F} (hx : x ≠ 0) : powZ (F.of 2) x.log = x := by
  have h2 : F.of 2 ≠ 0 := by decide
  rw [powZ_nz h2]
  have e : (F.of 2).log = 1 := by decide
  have hl := x.log_lt
  have e2 : ((x.log : Int) % 255).toNat = x.log := by omega
  rw [e, e2, Nat.one_mul, F.g_log hx]
theorem tmod_bd (m : Int) : -999 ≤ m.tmod 1000 ∧ m.tmod 1000 ≤ 999 := by
  rcases Int.le_total 0 m with h | h
  · rw [Int.tmod_eq_emod_of_nonneg h]; omega
  · have : m.tmod 1000 = -((-m).tmod 1000) := by rw [Int.neg_tmod]; omega
    rw [this, Int.tmod_eq_emod_of_nonneg (by omega)]; omega
set_option maxRecDepth 100000 in
theorem walk_GfPowers (a : F) (m : Int) (_ : -9223372036854775808 ≤ m ∧ m ≤ 9223372036854775807) (n : Int) (_ : -9223372036854775808 ≤ n ∧ n ≤ 9223372036854775807) (w : World) :
    Calls Try.prog 5 #[.int .u8 a.n, .int .i64 m, .int .i64 n] w fun e w' => e = .returned (.bool true) ∧ Below w.heap.size w w' := by
  by_cases ha : a = 0
  · subst ha
    have hz : (((0 : F).n : Int) == 0) = true := rfl
    have l0 : ∀ p w, Calls Try.prog 32 #[fp p, .int .u8 (0 : F).n] w fun e w' => e = .returned (.tuple #[.int .i64 0, .int .i64 10]) ∧ w = w' := fun p w => gf_log_z p w
    have L0 := Lib.hid l0
    clear l0
    go_enter Try.func5, Try.ntmps5
    go_wp2_with (first
      | (go_at_call 29; (with_reducible refine (awake1 _).mono ?_); rintro e w0 ⟨rfl, hb0⟩; have HB0 := Lib.hid hb0; clear hb0)
      | (go_at_call 30; (with_reducible refine (new_any _).mono ?_); rintro e w1 ⟨rfl, hb, hg⟩; have HB := Lib.hid hb; have HG := Lib.hid hg; clear hb hg)
      | (go_at_call 32; (with_reducible refine (L0.out _ _).mono ?_); rintro e w2 ⟨rfl, rfl⟩))
    go_ret
    exact ⟨rfl, HB0.out.trans (HB.out.mono HB0.out.size)⟩
  · have hz : ((a.n : Int) == 0) = false := bne_n (y := 0) ha
    have HA := Lib.hid ha
    have p2 : ∀ p w, GfAt w p → Calls Try.prog 33 #[fp p, .int .u8 2, .int .i64 a.log] w fun e w' => e = .returned (.tuple #[.int .u8 a.n, .int .i64 0]) ∧ ∃ n, w' = w.drewN n := fun p w h => by
      have := gf_powZ p (F.of 2) a.log (by decide) w h
      rwa [powZ_log ha] at this
    have P2 := Lib.hid p2
    have t1 := tmod_bd m
    have t2 := tmod_bd n
    obtain ⟨t1, t3⟩ := t1
    obtain ⟨t2, t4⟩ := t2
    have q1 := powZ_add ha (m.tmod 1000) (n.tmod 1000)
    have q2 := powZ_255 ha (m.tmod 1000)
    have hl := a.log_lt
    clear ha p2
    go_enter Try.func5, Try.ntmps5
    go_wp2_with (first
      | (go_at_call 29; (with_reducible refine (awake1 _).mono ?_); rintro e w0 ⟨rfl, hb0⟩; have HB0 := Lib.hid hb0; clear hb0)
      | (go_at_call 30; (with_reducible refine (new_any _).mono ?_); rintro e w1 ⟨rfl, hb, hg⟩; have HB := Lib.hid hb; have HG := Lib.hid hg; clear hb hg)
      | (go_at_call 32; (with_reducible refine (gf_log_nz _ _ HA.out _ ?_).mono ?_); (first | exact HG.out | exact HG.out.drewN _); rintro e w2 ⟨rfl, n, rfl⟩)
      | (go_at_call 33; (with_reducible refine (P2.out _ _ ?_).mono ?_); (first | exact HG.out | exact HG.out.drewN _); rintro e w2 ⟨rfl, n, rfl⟩)
      | (go_at_call 33; (with_reducible refine (gf_powZ _ _ _ HA.out _ ?_).mono ?_); (first | exact HG.out | exact HG.out.drewN _); rintro e w2 ⟨rfl, n, rfl⟩)
      | (go_at_call 31; (with_reducible refine (gf_mul _ _ _ _ ?_).mono ?_); (first | exact HG.out | exact HG.out.drewN _); rintro e w2 ⟨rfl, n, rfl⟩))
    go_ret
    exact ⟨rfl, below_drewN (HB0.out.trans (HB.out.mono HB0.out.size)) _⟩

/-! the rest of the laws of layer 1 -/
set_option maxRecDepth 100000 in
theorem walk_GfDoubles (a : F) (w : World) : Calls Try.prog 6 #[.int .u8 a.n] w fun e w' => e = .returned (.bool true) ∧ Below w.heap.size w w' := by
  have hx : (F.of 2 * a).n = xt a.n := by
    rw [F.n_mul, show (F.of 2).n = ex 1 from rfl, mulN_ex (by omega) a.lt]; rfl
  have hx2 : (a * F.of 2).n = xt a.n := by rw [F.mul_comm, hx]
  have m1 : ∀ p w, GfAt w p → Calls Try.prog 31 #[fp p, .int .u8 2, .int .u8 a.n] w fun e w' => e = .returned (.int .u8 (xt a.n)) ∧ ∃ n, w' = w.drewN n := fun p w h => by
    have := gf_mul p (F.of 2) a w h
    rwa [hx] at this
  have m2 : ∀ p w, GfAt w p → Calls Try.prog 31 #[fp p, .int .u8 a.n, .int .u8 2] w fun e w' => e = .returned (.int .u8 (xt a.n)) ∧ ∃ n, w' = w.drewN n := fun p w h => by
    have := gf_mul p a (F.of 2) w h
    rwa [hx2] at this
  have hi := xt_int a.n a.lt
  have hlt := xt_lt a.lt
  have ha := a.lt
  have M1 := Lib.hid m1
  have M2 := Lib.hid m2
  clear m1 m2 hx hx2
  generalize a.n = k at *
  by_cases hk : 255 < k * 2
  · rw [if_pos hk] at hi
    have e1 : bits .xor .i64 ((k : Int) * 2) 285 = ((xt k : Nat) : Int) := by
      rw [← hi, ← i64_xor_nat _ _ (by omega) (by omega)]; simp
    clear hi
    generalize xt k = v at *
    go_enter Try.func6, Try.ntmps6
    go_wp2_with (first
      | (go_at_call 29; (with_reducible refine (awake1 _).mono ?_); rintro e w0 ⟨rfl, hb0⟩; have HB0 := Lib.hid hb0; clear hb0)
      | (go_at_call 30; (with_reducible refine (new_any _).mono ?_); rintro e w1 ⟨rfl, hb, hg⟩; have HB := Lib.hid hb; have HG := Lib.hid hg; clear hb hg)
      | (go_at_call 31; (with_reducible refine (M1.out _ _ ?_).mono ?_); (first | exact HG.out | exact HG.out.drewN _); rintro e w2 ⟨rfl, n, rfl⟩)
      | (go_at_call 31; (with_reducible refine (M2.out _ _ ?_).mono ?_); (first | exact HG.out | exact HG.out.drewN _); rintro e w2 ⟨rfl, n, rfl⟩))
    go_ret
    exact ⟨rfl, below_drewN (HB0.out.trans (HB.out.mono HB0.out.size)) _⟩
  · rw [if_neg hk] at hi
    have e1 : (k : Int) * 2 = ((xt k : Nat) : Int) := by rw [← hi]; simp
    clear hi
    generalize xt k = v at *
    go_enter Try.func6, Try.ntmps6
    go_wp2_with (first
      | (go_at_call 29; (with_reducible refine (awake1 _).mono ?_); rintro e w0 ⟨rfl, hb0⟩; have HB0 := Lib.hid hb0; clear hb0)
      | (go_at_call 30; (with_reducible refine (new_any _).mono ?_); rintro e w1 ⟨rfl, hb, hg⟩; have HB := Lib.hid hb; have HG := Lib.hid hg; clear hb hg)
      | (go_at_call 31; (with_reducible refine (M1.out _ _ ?_).mono ?_); (first | exact HG.out | exact HG.out.drewN _); rintro e w2 ⟨rfl, n, rfl⟩)
      | (go_at_call 31; (with_reducible refine (M2.out _ _ ?_).mono ?_); (first | exact HG.out | exact HG.out.drewN _); rintro e w2 ⟨rfl, n, rfl⟩))
    go_ret
    exact ⟨rfl, below_drewN (HB0.out.trans (HB.out.mono HB0.out.size)) _⟩
theorem refLog_eq (x : F) : (if x = 0 then 0 else x.log : Nat) = (if x = 0 then 0 else x.log) := rfl
set_option maxRecDepth 100000 in
theorem walk_GfTells (a b : F) (n : Int) (hn : -9223372036854775808 ≤ n ∧ n ≤ 9223372036854775807) (w : World) :
    Calls Try.prog 8 #[.int .u8 a.n, .int .u8 b.n, .int .i64 n] w fun e w' => e = .returned (.bool true) ∧ Below w.heap.size w w' := by
  have c1 := fun p w h => gf_log p a w h
  have c2 := fun w => ref_log a w
  have c3 := fun p w h => gf_inv p a w h
  have c4 := fun w => ref_inv a w
  have c5 := fun p w h => gf_div p a b w h
  have c6 := fun w => ref_div a b w
  have c7 := fun p w h => gf_pow p a n w h
  have c8 := fun w => ref_pow a n hn.1 hn.2 w
  rw [refPow_eq] at c8
  generalize (if a = 0 then 0 else a.log : Nat) = q1 at *
  generalize (if a = 0 then (10 : Int) else 0) = q2 at *
  generalize (if b = 0 then (10 : Int) else 0) = q3 at *
  generalize (powR a n).1 = q4 at *
  generalize (powR a n).2 = q5 at *
  have C1 := Lib.hid c1
  have C2 := Lib.hid c2
  have C3 := Lib.hid c3
  have C4 := Lib.hid c4
  have C5 := Lib.hid c5
  have C6 := Lib.hid c6
  have C7 := Lib.hid c7
  have C8 := Lib.hid c8
  clear c1 c2 c3 c4 c5 c6 c7 c8 hn
  go_enter Try.func8, Try.ntmps8
  go_wp2_with (first
    | (go_at_call 29; (with_reducible refine (awake1 _).mono ?_); rintro e w0 ⟨rfl, hb0⟩; have HB0 := Lib.hid hb0; clear hb0)
    | (go_at_call 30; (with_reducible refine (new_any _).mono ?_); rintro e w1 ⟨rfl, hb, hg⟩; have HB := Lib.hid hb; have HG := Lib.hid hg; clear hb hg)
    | (go_at_call 32; (with_reducible refine (C1.out _ _ ?_).mono ?_); (first | exact HG.out | exact HG.out.drewN _); rintro e w2 ⟨rfl, n, rfl⟩)
    | (go_at_call 39; (with_reducible refine (C2.out _).mono ?_); rintro e w2 ⟨rfl, rfl⟩)
    | (go_at_call 34; (with_reducible refine (C3.out _ _ ?_).mono ?_); (first | exact HG.out | exact HG.out.drewN _); rintro e w2 ⟨rfl, n, rfl⟩)
    | (go_at_call 35; (with_reducible refine (C4.out _).mono ?_); rintro e w2 ⟨rfl, rfl⟩)
    | (go_at_call 36; (with_reducible refine (C5.out _ _ ?_).mono ?_); (first | exact HG.out | exact HG.out.drewN _); rintro e w2 ⟨rfl, n, rfl⟩)
    | (go_at_call 37; (with_reducible refine (C6.out _).mono ?_); rintro e w2 ⟨rfl, rfl⟩)
    | (go_at_call 33; (with_reducible refine (C7.out _ _ ?_).mono ?_); (first | exact HG.out | exact HG.out.drewN _); rintro e w2 ⟨rfl, n, rfl⟩)
    | (go_at_call 38; (with_reducible refine (C8.out _).mono ?_); rintro e w2 ⟨rfl, rfl⟩)
    | (go_at_call 31; (with_reducible refine (gf_mul _ _ _ _ ?_).mono ?_); (first | exact HG.out | exact HG.out.drewN _); rintro e w2 ⟨rfl, n, rfl⟩)
    | (go_at_call 40; (with_reducible refine (ref_mul _ _ _).mono ?_); rintro e w2 ⟨rfl, rfl⟩))
  go_ret
  exact ⟨rfl, below_drewN (HB0.out.trans (HB.out.mono HB0.out.size)) _⟩
set_option maxRecDepth 100000 in
theorem walk_GfInverse (a b : F) (w : World) : Calls Try.prog 9 #[.int .u8 a.n, .int .u8 b.n] w fun e w' => e = .returned (.bool true) ∧ Below w.heap.size w w' := by
  by_cases hb : b = 0
  · subst hb
    have hz : (((0 : F).n : Int) == 0) = true := rfl
    have c1 : ∀ p w, GfAt w p → Calls Try.prog 34 #[fp p, .int .u8 (0 : F).n] w fun e w' => e = .returned (.tuple #[.int .u8 0, .int .i64 10]) ∧ ∃ n, w' = w.drewN n := fun p w h => gf_inv p 0 w h
    have c2 : ∀ p w, GfAt w p → Calls Try.prog 36 #[fp p, .int .u8 a.n, .int .u8 (0 : F).n] w fun e w' => e = .returned (.tuple #[.int .u8 0, .int .i64 10]) ∧ ∃ n, w' = w.drewN n := fun p w h => by
      have := gf_div p a 0 w h
      rw [F.inv_zero, F.mul_zero] at this; exact this
    have C1 := Lib.hid c1
    have C2 := Lib.hid c2
    clear c1 c2
    go_enter Try.func9, Try.ntmps9
    go_wp2_with (first
      | (go_at_call 29; (with_reducible refine (awake1 _).mono ?_); rintro e w0 ⟨rfl, hb0⟩; have HB0 := Lib.hid hb0; clear hb0)
      | (go_at_call 30; (with_reducible refine (new_any _).mono ?_); rintro e w1 ⟨rfl, hb, hg⟩; have HB := Lib.hid hb; have HG := Lib.hid hg; clear hb hg)
      | (go_at_call 34; (with_reducible refine (C1.out _ _ ?_).mono ?_); (first | exact HG.out | exact HG.out.drewN _); rintro e w2 ⟨rfl, n, rfl⟩)
      | (go_at_call 36; (with_reducible refine (C2.out _ _ ?_).mono ?_); (first | exact HG.out | exact HG.out.drewN _); rintro e w2 ⟨rfl, n, rfl⟩))
    go_ret
    exact ⟨rfl, below_drewN (HB0.out.trans (HB.out.mono HB0.out.size)) _⟩
  · have hz : ((b.n : Int) == 0) = false := bne_n (y := 0) hb
    have q1 : F.inv (F.inv b) = b := F.inv_inv b
    have q2 : (((b * F.inv b).n : Int) == 1) = true := beq_n (y := 1) (F.mul_inv hb)
    have q3 : a * F.inv b * b = a := by rw [F.mul_assoc, F.inv_mul hb, F.mul_one]
    have HB1 := Lib.hid hb
    have HB2 := Lib.hid (F.inv_ne_zero hb)
    clear hb
    go_enter Try.func9, Try.ntmps9
    go_wp2_with (first
      | (go_at_call 29; (with_reducible refine (awake1 _).mono ?_); rintro e w0 ⟨rfl, hb0⟩; have HB0 := Lib.hid hb0; clear hb0)
      | (go_at_call 30; (with_reducible refine (new_any _).mono ?_); rintro e w1 ⟨rfl, hb, hg⟩; have HB := Lib.hid hb; have HG := Lib.hid hg; clear hb hg)
      | (go_at_call 34; (with_reducible refine (gf_inv_nz _ _ HB1.out _ ?_).mono ?_); (first | exact HG.out | exact HG.out.drewN _); rintro e w2 ⟨rfl, n, rfl⟩)
      | (go_at_call 34; (with_reducible refine (gf_inv_nz _ _ HB2.out _ ?_).mono ?_); (first | exact HG.out | exact HG.out.drewN _); rintro e w2 ⟨rfl, n, rfl⟩)
      | (go_at_call 36; (with_reducible refine (gf_div_nz _ _ _ HB1.out _ ?_).mono ?_); (first | exact HG.out | exact HG.out.drewN _); rintro e w2 ⟨rfl, n, rfl⟩)
      | (go_at_call 31; (with_reducible refine (gf_mul _ _ _ _ ?_).mono ?_); (first | exact HG.out | exact HG.out.drewN _); rintro e w2 ⟨rfl, n, rfl⟩))
    go_ret
    exact ⟨rfl, below_drewN (HB0.out.trans (HB.out.mono HB0.out.size)) _⟩
set_option maxRecDepth 100000 in
theorem walk_GfNil (a : F) (n : Int) (_ : -9223372036854775808 ≤ n ∧ n ≤ 9223372036854775807) (w : World) :
    Calls Try.prog 10 #[.int .u8 a.n, .int .i64 n] w fun e w' => e = .returned (.bool true) ∧ Below w.heap.size w w' := by
  go_enter Try.func10, Try.ntmps10
  go_wp2_with (first
    | (go_at_call 29; (with_reducible refine (awake1 _).mono ?_); rintro e w0 ⟨rfl, hb0⟩; have HB0 := Lib.hid hb0; clear hb0)
    | (go_at_call 34; (with_reducible refine (gf_inv_nil _ _).mono ?_); rintro e w2 ⟨rfl, rfl⟩)
    | (go_at_call 36; (with_reducible refine (gf_div_nil _ _ _).mono ?_); rintro e w2 ⟨rfl, rfl⟩)
    | (go_at_call 33; (with_reducible refine (gf_pow_nil _ _ _).mono ?_); rintro e w2 ⟨rfl, rfl⟩)
    | (go_at_call 32; (with_reducible refine (gf_log_nil _ _).mono ?_); rintro e w2 ⟨rfl, rfl⟩)
    | (go_at_call 31; (with_reducible refine (mul_nil _ _ _).mono ?_); rintro e w2 ⟨rfl, rfl⟩))
  go_ret
  exact ⟨rfl, HB0.out⟩
theorem log_div {x y : F} (hx : x ≠ 0) (hy : y ≠ 0) : (x * F.inv y).log = (x.log + (255 - y.log)) % 255 := by
  rw [F.log_mul hx (F.inv_ne_zero hy), F.inv, if_neg hy, F.log_g]; have := x.log_lt; omega
set_option maxRecDepth 100000 in
theorem walk_GfLogs (a b : F) (w : World) : Calls Try.prog 11 #[.int .u8 a.n, .int .u8 b.n] w fun e w' => e = .returned (.bool true) ∧ Below w.heap.size w w' := by
  by_cases hab : a = 0 ∨ b = 0
  · have hp : a * b = 0 := F.mul_eq_zero.2 hab
    have hz : ((a.n : Int) == 0) = true ∨ ((a.n : Int) == 0) = false ∧ ((b.n : Int) == 0) = true := by
      by_cases ha : a = 0
      · exact .inl (beq_n (y := 0) ha)
      · exact .inr ⟨bne_n (y := 0) ha, beq_n (y := 0) (by rcases hab with h | h; exact absurd h ha; exact h)⟩
    have c1 : ∀ p w, Calls Try.prog 32 #[fp p, .int .u8 (0 : F).n] w fun e w' => e = .returned (.tuple #[.int .i64 0, .int .i64 10]) ∧ w = w' := fun p w => gf_log_z p w
    have c2 := fun p w h => gf_log p a w h
    have c3 := fun p w h => gf_log p b w h
    generalize (if a = 0 then 0 else a.log : Nat) = q1 at *
    generalize (if a = 0 then (10 : Int) else 0) = q2 at *
    generalize (if b = 0 then 0 else b.log : Nat) = q3 at *
    generalize (if b = 0 then (10 : Int) else 0) = q4 at *
    have c4 := fun p w h => gf_mul p a b w h
    rw [hp] at c4
    have C1 := Lib.hid c1
    have C2 := Lib.hid c2
    have C3 := Lib.hid c3
    have C4 := Lib.hid c4
    clear c1 c2 c3 c4 hab hp
    rcases hz with hz1 | ⟨hz1, hz2⟩
    all_goals
      go_enter Try.func11, Try.ntmps11
      go_wp2_with (first
        | (go_at_call 29; (with_reducible refine (awake1 _).mono ?_); rintro e w0 ⟨rfl, hb0⟩; have HB0 := Lib.hid hb0; clear hb0)
        | (go_at_call 30; (with_reducible refine (new_any _).mono ?_); rintro e w1 ⟨rfl, hb, hg⟩; have HB := Lib.hid hb; have HG := Lib.hid hg; clear hb hg)
        | (go_at_call 32; (with_reducible refine (C1.out _ _).mono ?_); rintro e w2 ⟨rfl, rfl⟩)
        | (go_at_call 32; (with_reducible refine (C2.out _ _ ?_).mono ?_); (first | exact HG.out | exact HG.out.drewN _); rintro e w2 ⟨rfl, n, rfl⟩)
        | (go_at_call 32; (with_reducible refine (C3.out _ _ ?_).mono ?_); (first | exact HG.out | exact HG.out.drewN _); rintro e w2 ⟨rfl, n, rfl⟩)
        | (go_at_call 31; (with_reducible refine (C4.out _ _ ?_).mono ?_); (first | exact HG.out | exact HG.out.drewN _); rintro e w2 ⟨rfl, n, rfl⟩))
      go_ret
      exact ⟨rfl, below_drewN (HB0.out.trans (HB.out.mono HB0.out.size)) _⟩
  · have ha : a ≠ 0 := fun h => hab (.inl h)
    have hb : b ≠ 0 := fun h => hab (.inr h)
    have z1 : ((a.n : Int) == 0) = false := bne_n (y := 0) ha
    have z2 : ((b.n : Int) == 0) = false := bne_n (y := 0) hb
    have A1 := Lib.hid ha
    have A2 := Lib.hid hb
    have A3 := Lib.hid (F.mul_ne_zero ha hb)
    have A4 := Lib.hid (F.mul_ne_zero ha (F.inv_ne_zero hb))
    have l1 := F.log_mul ha hb
    have l2 := log_div ha hb
    have h1 := a.log_lt
    have h2 := b.log_lt
    have e1 : (((a * b).log : Int) == ((a.log : Int) + (b.log : Int)) % 255) = true := by rw [beq_iff_eq, l1]; omega
    have e2 : (((a * F.inv b).log : Int) == ((a.log : Int) - (b.log : Int)) % 255) = true := by rw [beq_iff_eq, l2]; omega
    clear ha hb hab l1 l2
    go_enter Try.func11, Try.ntmps11
    go_wp2_with (first
      | (go_at_call 29; (with_reducible refine (awake1 _).mono ?_); rintro e w0 ⟨rfl, hb0⟩; have HB0 := Lib.hid hb0; clear hb0)
      | (go_at_call 30; (with_reducible refine (new_any _).mono ?_); rintro e w1 ⟨rfl, hb, hg⟩; have HB := Lib.hid hb; have HG := Lib.hid hg; clear hb hg)
      | (go_at_call 32; (with_reducible refine (gf_log_nz _ _ A1.out _ ?_).mono ?_); (first | exact HG.out | exact HG.out.drewN _); rintro e w2 ⟨rfl, n, rfl⟩)
      | (go_at_call 32; (with_reducible refine (gf_log_nz _ _ A2.out _ ?_).mono ?_); (first | exact HG.out | exact HG.out.drewN _); rintro e w2 ⟨rfl, n, rfl⟩)
      | (go_at_call 32; (with_reducible refine (gf_log_nz _ _ A3.out _ ?_).mono ?_); (first | exact HG.out | exact HG.out.drewN _); rintro e w2 ⟨rfl, n, rfl⟩)
      | (go_at_call 32; (with_reducible refine (gf_log_nz _ _ A4.out _ ?_).mono ?_); (first | exact HG.out | exact HG.out.drewN _); rintro e w2 ⟨rfl, n, rfl⟩)
      | (go_at_call 36; (with_reducible refine (gf_div_nz _ _ _ A2.out _ ?_).mono ?_); (first | exact HG.out | exact HG.out.drewN _); rintro e w2 ⟨rfl, n, rfl⟩)
      | (go_at_call 31; (with_reducible refine (gf_mul _ _ _ _ ?_).mono ?_); (first | exact HG.out | exact HG.out.drewN _); rintro e w2 ⟨rfl, n, rfl⟩))
    go_ret
    exact ⟨rfl, below_drewN (HB0.out.trans (HB.out.mono HB0.out.size)) _⟩
theorem sq_add (a b : F) : (a + b) * (a + b) = a * a + b * b := by
  rw [F.mul_add, F.add_mul, F.add_mul, F.mul_comm b a, F.add_assoc, ← F.add_assoc (a * b), F.add_self, F.zero_add]
theorem sq_inj {a b : F} (h : a * a = b * b) : a = b := by
  have : (a + b) * (a + b) = 0 := by rw [sq_add, h, F.add_self]
  rcases F.mul_eq_zero.1 this with h | h <;> exact F.add_eq_zero.1 h
theorem pow_256 (a : F) : a.pow 256 = a := by
  by_cases h : a = 0
  · subst h; exact F.zero_pow (by omega)
  · rw [show (256 : Nat) = 255 + 1 from rfl, F.pow_add, F.pow_255 h, F.one_mul]; exact F.mul_one a
theorem powZ_256 (a : F) : powR a 256 = (a, 0) := by
  rw [← refPow_eq]; unfold refPow; rw [if_pos (by omega)]; congr 1; exact pow_256 a
set_option maxRecDepth 100000 in
theorem walk_GfSquares (a b : F) (w : World) : Calls Try.prog 7 #[.int .u8 a.n, .int .u8 b.n] w fun e w' => e = .returned (.bool true) ∧ Below w.heap.size w w' := by
  have q1 := sq_add a b
  have hxor := xor_n
  have p1 : ∀ p w, GfAt w p → Calls Try.prog 33 #[fp p, .int .u8 a.n, .int .i64 256] w fun e w' => e = .returned (.tuple #[.int .u8 a.n, .int .i64 0]) ∧ ∃ n, w' = w.drewN n := fun p w h => by
    have := gf_pow p a 256 w h; rwa [powZ_256] at this
  have P1 := Lib.hid p1
  clear p1
  have hz : (((a * a).n : Int) == ((b * b).n : Int)) = true ∧ ((a.n : Int) == (b.n : Int)) = true ∨ (((a * a).n : Int) == ((b * b).n : Int)) = false ∧ ((a.n : Int) == (b.n : Int)) = false := by
    by_cases h : a = b
    · exact .inl ⟨beq_n (by rw [h]), beq_n h⟩
    · exact .inr ⟨bne_n (fun h2 => h (sq_inj h2)), bne_n h⟩
  rcases hz with ⟨z1, z2⟩ | ⟨z1, z2⟩
  all_goals
    go_enter Try.func7, Try.ntmps7
    go_wp2_with (first
      | (go_at_call 29; (with_reducible refine (awake1 _).mono ?_); rintro e w0 ⟨rfl, hb0⟩; have HB0 := Lib.hid hb0; clear hb0)
      | (go_at_call 30; (with_reducible refine (new_any _).mono ?_); rintro e w1 ⟨rfl, hb, hg⟩; have HB := Lib.hid hb; have HG := Lib.hid hg; clear hb hg)
      | (go_at_call 31; (with_reducible refine (gf_mul _ _ _ _ ?_).mono ?_); (first | exact HG.out | exact HG.out.drewN _); rintro e w2 ⟨rfl, n, rfl⟩))
    have HX := Lib.hid (HB0.out.trans (HB.out.mono HB0.out.size))
    go_loopw [10, 11] (fun c k wr => ∃ i : Nat, i ≤ 8 ∧ k = .int .i64 i ∧ c = .int .u8 (a.pow (2 ^ i)).n ∧ Below w.heap.size w wr ∧ GfAt wr w0.heap.size) (fun _ k _ => 8 - (intOf k).toNat)
    case atStart => exact ⟨0, by omega, rfl, by rw [Nat.pow_zero, F.pow_succ, F.pow_zero, F.mul_one], by first | exact below_drewN HX.out _ | exact HX.out, by first | exact HG.out.drewN _ | exact HG.out⟩
    case round =>
      clear HG HB HB0 HX
      obtain ⟨i, hi, rfl, rfl, hb, hg⟩ := hrel
      have HB := Lib.hid hb
      have HG := Lib.hid hg
      clear hb hg
      have hs : a.pow (2 ^ (i + 1)) = a.pow (2 ^ i) * a.pow (2 ^ i) := by rw [← F.pow_add, Nat.pow_succ, Nat.mul_two]
      have HS := Lib.hid hs
      clear hs
      by_cases hlt : i < 8
      · generalize a.pow (2 ^ i) = c at *
        go_wp2_with (go_at_call 31; (with_reducible refine (gf_mul _ _ _ _ ?_).mono ?_); (first | exact HG.out | exact HG.out.drewN _); rintro e w2 ⟨rfl, n, rfl⟩)
        go_roundw
        case rel => exact ⟨i + 1, by omega, by go_num, by rw [HS.out], below_drewN HB.out _, HG.out.drewN _⟩
        case measure => simp [intOf]; omega
      · have h8 : i = 8 := by omega
        subst h8
        clear HS
        have h9 : a.pow (2 ^ 8) = a := pow_256 a
        rw [h9]
        clear h9
        go_wp2_with (first
          | (go_at_call 33; (with_reducible refine (P1.out _ _ ?_).mono ?_); (first | exact HG.out | exact HG.out.drewN _); rintro e w2 ⟨rfl, n, rfl⟩))
        go_ret
        exact ⟨rfl, below_drewN HB.out _⟩
end Go.Proofs.Ytoofmblmbgdeeaa
