/- The document's answer for layer 1 (aumbryref01), walked: it answers what the field says. And small words for what follows. -/
import Derived.Test.YtbepadepepoilaaGf
import Derived.RowKit3
namespace Go.Proofs.Ytbepadepepoilaa
open Go.RowKit
theorem bit_all : allB 8 (fun i => allB 256 fun y => (y % 2 ^ (i + 1) == (y % 2 ^ i ^^^ (if (y / 2 ^ i) % 2 = 1 then 2 ^ i else 0)))) = true := by kernel_rfl
theorem ex_two_all : allB 8 (fun i => (ex i == 2 ^ i)) = true := by kernel_rfl
theorem mulN_bit {x y i : Nat} (hx : x < 256) (hy : y < 256) (hi : i < 8) :
    mulN x (y % 2 ^ (i + 1)) = if (y / 2 ^ i) % 2 = 1 then mulN x (y % 2 ^ i) ^^^ xts i x else mulN x (y % 2 ^ i) := by
  have e : y % 2 ^ (i + 1) = (y % 2 ^ i ^^^ (if (y / 2 ^ i) % 2 = 1 then 2 ^ i else 0)) := by simpa using allB_of (allB_of bit_all i hi) y hy
  have e2 : ex i = 2 ^ i := by simpa using allB_of ex_two_all i hi
  have h1 : y % 2 ^ i < 256 := Nat.lt_of_le_of_lt (Nat.mod_le _ _) hy
  rw [e]
  split
  · rw [mulN_add hx h1 (by rw [← e2]; exact ex_lt (by omega)), ← e2, mulN_comm x (ex i), mulN_ex (by omega) hx]
  · rw [Nat.xor_zero]
theorem and_one_u8 (a i : Nat) (ha : a < 256) : bits .and .u8 ((a : Int) / 2 ^ i) 1 = (((a / 2 ^ i) % 2 : Nat) : Int) := by
  have e : ((a : Int) / 2 ^ i) = ((a / 2 ^ i : Nat) : Int) := by simp
  have hle : a / 2 ^ i < 256 := Nat.lt_of_le_of_lt (Nat.div_le_self _ _) ha
  rw [e]
  generalize a / 2 ^ i = q at *
  show IntKind.u8.wrap ((BitVec.ofInt 8 (q : Int) &&& BitVec.ofInt 8 1).toNat : Int) = _
  rw [BitVec.ofInt_natCast]
  have e1 : (BitVec.ofNat 8 q &&& BitVec.ofInt 8 1).toNat = q % 2 := by
    rw [BitVec.toNat_and, BitVec.toNat_ofNat, Nat.mod_eq_of_lt (by omega)]
    show q &&& 1 = q % 2
    exact Nat.and_one_is_mod q
  rw [e1, wrapu8 _ (by omega)]
set_option maxRecDepth 100000 in
theorem ref_mul (x y : F) (w : World) :
    Calls Try.prog 28 #[.int .u8 x.n, .int .u8 y.n] w fun e w' => e = .returned (.int .u8 (x * y).n) ∧ w = w' := by
  rw [F.n_mul]
  have hx := x.lt
  have hy := y.lt
  generalize x.n = a at *
  generalize y.n = b at *
  go_enter Try.func28, Try.ntmps28
  go_wp2
  go_loop [5, 6, 7] (fun u o k => ∃ i : Nat, i ≤ 8 ∧ k = .int .i64 i ∧ u = .int .i64 (xts i a) ∧ o = .int .i64 (mulN a (b % 2 ^ i))) (fun _ _ k => 8 - (intOf k).toNat)
  case atStart => exact ⟨0, by omega, rfl, rfl, by simp [Nat.mod_one, mulN_zero]⟩
  case round =>
    obtain ⟨i, hi, rfl, rfl, rfl⟩ := hrel
    have hxi := xts_lt i hx
    have hm := mulN_lt a (b % 2 ^ i)
    by_cases hlt : i < 8
    · have O1 : (bits .and .u8 ((b : Int) / 2 ^ i) 1 == 1) = true → bits .xor .i64 (mulN a (b % 2 ^ i)) (xts i a) = ((mulN a (b % 2 ^ (i + 1)) : Nat) : Int) := fun h => by
        rw [and_one_u8 b i hy] at h
        rw [mulN_bit hx hy hlt, if_pos (by have := eq_of_beq h; exact_mod_cast this), i64_xor_nat _ _ (by omega) (by omega)]
      have O2 : (bits .and .u8 ((b : Int) / 2 ^ i) 1 == 1) = false → ((mulN a (b % 2 ^ i) : Nat) : Int) = ((mulN a (b % 2 ^ (i + 1)) : Nat) : Int) := fun h => by
        rw [and_one_u8 b i hy] at h
        rw [mulN_bit hx hy hlt, if_neg (by intro h2; rw [h2] at h; exact absurd h (by decide))]
      have A1 : 256 ≤ ((xts i a : Nat) : Int) * 2 → bits .xor .i64 (((xts i a : Nat) : Int) * 2) 285 = ((xts (i + 1) a : Nat) : Int) := fun h => by
        have e := i64_xor_nat (xts i a * 2) 285 (by omega) (by omega)
        simp only [xts]
        rw [← xt_int _ hxi, if_pos (by omega), ← e]; simp
      have A2 : ((xts i a : Nat) : Int) * 2 < 256 → ((xts i a : Nat) : Int) * 2 = ((xts (i + 1) a : Nat) : Int) := fun h => by
        simp only [xts]
        rw [← xt_int _ hxi, if_neg (by omega)]; simp
      have HO1 := Lib.hid O1
      have HO2 := Lib.hid O2
      have HA1 := Lib.hid A1
      have HA2 := Lib.hid A2
      clear O1 O2 A1 A2
      go_wp2
      all_goals
        go_round
        case rel => exact ⟨i + 1, by omega, by go_num, by first | rw [HA1.out ‹_›] | rw [HA2.out ‹_›], by first | rw [HO1.out ‹_›] | rw [HO2.out ‹_›]⟩
        case measure => simp [intOf]; omega
    · have : i = 8 := by omega
      subst this
      have e : b % 2 ^ 8 = b := Nat.mod_eq_of_lt (by omega)
      rw [e] at hm ⊢
      go_wp2
      go_ret
      exact ⟨rfl, rfl⟩
theorem beq_n {x y : F} (h : x = y) : ((x.n : Int) == (y.n : Int)) = true := by subst h; simp
theorem bne_n {x y : F} (h : x ≠ y) : ((x.n : Int) == (y.n : Int)) = false := by
  rw [beq_eq_false_iff_ne]; intro h2; exact h (F.ext (by exact_mod_cast h2))
theorem ret2 {k l : IntKind} {a b c d : Int} (h1 : a = c) (h2 : b = d) : Ending.returned (.tuple #[.int k a, .int l b]) = .returned (.tuple #[.int k c, .int l d]) := by rw [h1, h2]
theorem ret1 {k : IntKind} {a c : Int} (h1 : a = c) : Ending.returned (.int k a) = .returned (.int k c) := by rw [h1]
set_option maxRecDepth 100000 in
theorem ref_inv (x : F) (w : World) :
    Calls Try.prog 45 #[.int .u8 x.n] w fun e w' => e = .returned (.tuple #[.int .u8 (F.inv x).n, .int .i64 (if x = 0 then 10 else 0)]) ∧ w = w' := by
  go_enter Try.func45, Try.ntmps45
  go_wp2
  go_loop [4] (fun k => ∃ i : Nat, 1 ≤ i ∧ i ≤ 256 ∧ k = .int .i64 i ∧ (x = 0 ∨ i ≤ (F.inv x).n)) (fun k => 256 - (intOf k).toNat)
  case atStart =>
    refine ⟨1, by omega, by omega, rfl, ?_⟩
    by_cases h : x = 0
    · exact .inl h
    · exact .inr (by have := F.n_ne_zero.2 (F.inv_ne_zero h); omega)
  case round =>
    obtain ⟨i, h1, h2, rfl, h3⟩ := hrel
    have H3 := Lib.hid h3
    clear h3
    by_cases hlt : i < 256
    · have hc : ∀ w, Calls Try.prog 28 #[.int .u8 x.n, .int .u8 i] w fun e w' => e = .returned (.int .u8 (x * F.of i).n) ∧ w = w' := fun w => by
        have h := ref_mul x (F.of i) w
        rwa [F.n_of hlt] at h
      by_cases hm : x * F.of i = 1
      · have e := F.inv_eq hm
        have hx : ¬ x = 0 := by rintro rfl; rw [F.zero_mul] at hm; exact F.one_ne_zero hm.symm
        have e2 : (F.inv x).n = i := by rw [e, F.n_of hlt]
        have ht : (((x * F.of i).n : Int) == 1) = true := beq_n hm
        have E2 := Lib.hid e2
        have HX := Lib.hid hx
        have HC := Lib.hid hc
        clear hc e e2 hm hx
        go_wp2_with (go_at_call 28; refine (HC.out _).mono ?_; rintro e w' ⟨rfl, rfl⟩)
        go_ret2
        exact ⟨ret2 (by rw [E2.out]) (by first | rfl | rw [if_neg HX.out]), rfl⟩
      · have ht : (((x * F.of i).n : Int) == 1) = false := bne_n hm
        have H4 : Hid (x = 0 ∨ i + 1 ≤ (F.inv x).n) := by
          rcases H3.out with h | h
          · exact .inl h
          · by_cases hx : x = 0
            · exact .inl hx
            · refine .inr (Nat.lt_of_le_of_ne h fun h5 => hm ?_)
              have : F.of i = F.inv x := by rw [h5, F.of_n]
              rw [this, F.mul_inv hx]
        have HC := Lib.hid hc
        clear hc hm
        go_wp2_with (go_at_call 28; refine (HC.out _).mono ?_; rintro e w' ⟨rfl, rfl⟩)
        go_round
        case rel => exact ⟨i + 1, by omega, by omega, by go_num, H4.out⟩
        case measure => simp [intOf]; omega
    · have hx : x = 0 := by
        rcases H3.out with h | h
        · exact h
        · have := (F.inv x).lt; omega
      have : i = 256 := by omega
      subst this
      have HX := Lib.hid hx
      clear H3 hx
      go_wp2
      go_ret2
      exact ⟨ret2 (by first | rfl | (rw [HX.out]; rfl)) (by first | rfl | rw [if_pos HX.out]), rfl⟩
theorem pow_bit (x : F) (n i : Nat) : x.pow (n % 2 ^ (i + 1)) = if (n / 2 ^ i) % 2 = 1 then x.pow (n % 2 ^ i) * x.pow (2 ^ i) else x.pow (n % 2 ^ i) := by
  have e : n % 2 ^ (i + 1) = n % 2 ^ i + 2 ^ i * ((n / 2 ^ i) % 2) := by rw [Nat.pow_succ, Nat.mod_mul]
  rw [e]
  rcases Nat.mod_two_eq_zero_or_one (n / 2 ^ i) with h | h
  · rw [h, if_neg (by omega)]; simp
  · rw [h, if_pos rfl, F.pow_add, Nat.mul_one]
theorem and_one_i64 (a i : Nat) (ha : a < 9223372036854775808) : bits .and .i64 ((a : Int) / 2 ^ i) 1 = (((a / 2 ^ i) % 2 : Nat) : Int) := by
  have e : ((a : Int) / 2 ^ i) = ((a / 2 ^ i : Nat) : Int) := by simp
  have hle : a / 2 ^ i < 9223372036854775808 := Nat.lt_of_le_of_lt (Nat.div_le_self _ _) ha
  rw [e]
  generalize a / 2 ^ i = q at *
  show IntKind.i64.wrap ((BitVec.ofInt 64 (q : Int) &&& BitVec.ofInt 64 1).toNat : Int) = _
  have e1 : (BitVec.ofInt 64 (q : Int) &&& BitVec.ofInt 64 1).toNat = q % 2 := by
    rw [BitVec.toNat_and, ofInt_i64 q hle]
    show q &&& 1 = q % 2
    exact Nat.and_one_is_mod q
  rw [e1, IntKind.wrap_i64]
  omega
theorem ref_div (x y : F) (w : World) :
    Calls Try.prog 33 #[.int .u8 x.n, .int .u8 y.n] w fun e w' => e = .returned (.tuple #[.int .u8 (x * F.inv y).n, .int .i64 (if y = 0 then 10 else 0)]) ∧ w = w' := by
  have h := ref_inv y
  by_cases hy : y = 0
  · subst hy
    simp only [if_true, F.inv_zero] at h
    have H := Lib.hid h
    clear h
    have e0 : ((x * F.inv 0).n : Int) = 0 := by rw [F.inv_zero, F.mul_zero]; rfl
    have E0 := Lib.hid e0
    clear e0
    go_enter Try.func33, Try.ntmps33
    go_wp2_with (go_at_call 45; (with_reducible refine (H.out _).mono ?_); rintro e w' ⟨rfl, rfl⟩)
    go_ret2
    exact ⟨ret2 (by first | rfl | rw [E0.out]) (by first | rfl | simp), rfl⟩
  · simp only [if_neg hy] at h
    have H := Lib.hid h
    have HY := Lib.hid hy
    clear h hy
    go_enter Try.func33, Try.ntmps33
    go_wp2_with (first | (go_at_call 45; (with_reducible refine (H.out _).mono ?_); rintro e w' ⟨rfl, rfl⟩) | (go_at_call 28; (with_reducible refine (ref_mul _ _ _).mono ?_); rintro e w' ⟨rfl, rfl⟩))
    go_ret2
    exact ⟨ret2 (by rfl) (by first | rfl | rw [if_neg HY.out]), rfl⟩
/-- what the document's power is -/
def refPow (x : F) (n : Int) : F × Int := if 0 ≤ n then (x.pow n.toNat, 0) else if x = 0 then (0, 10) else ((F.inv x).pow (-(n.tmod 255)).toNat, 0)
theorem refPow_eq (x : F) (n : Int) : refPow x n = powR x n := by
  unfold refPow powR
  by_cases hn : 0 ≤ n
  · rw [if_pos hn]
    by_cases hx : x = 0
    · rw [if_pos hx, if_neg (by omega)]
      subst hx
      by_cases h0 : 0 < n
      · rw [if_pos h0, F.zero_pow (by omega)]
      · rw [if_neg h0]; have : n = 0 := by omega
        subst this; rfl
    · rw [if_neg hx, F.pow_eq hx]
      congr 1
      rw [← F.g_mod, ← F.g_mod (x.log * (n % 255).toNat)]
      congr 1
      have : (n % 255).toNat = n.toNat % 255 := by omega
      rw [this, Nat.mul_mod, Nat.mul_mod x.log (n.toNat % 255), Nat.mod_mod]
  · rw [if_neg hn]
    by_cases hx : x = 0
    · rw [if_pos hx, if_pos hx, if_pos (by omega)]
    · rw [if_neg hx, if_neg hx, F.pow_eq (F.inv_ne_zero hx)]
      congr 1
      have e : n.tmod 255 = -((-n) % 255) := by
        have : n.tmod 255 = -((-n).tmod 255) := by rw [Int.neg_tmod]; omega
        rw [this, Int.tmod_eq_emod_of_nonneg (by omega)]
      have hl := x.log_lt
      have e2 : (F.inv x).log = (255 - x.log) % 255 := by rw [F.inv, if_neg hx, F.log_g]
      have e3 : (-(n.tmod 255)).toNat = ((-n) % 255).toNat := by omega
      obtain ⟨a, ha⟩ : ∃ a : Nat, a = ((-n) % 255).toNat := ⟨_, rfl⟩
      have h4 : (n % 255).toNat = (255 - a) % 255 := by omega
      have hla : a < 255 := by omega
      rw [e2, e3, h4, ← ha, ← F.g_mod, ← F.g_mod (x.log * ((255 - a) % 255))]
      congr 1
      generalize x.log = l at *
      rw [Nat.mod_mul_mod, Nat.mul_mod_mod]
      -- (255 - l) * a = l * (255 - a) mod 255
      have h5 : (255 - l) * a + l * a = 255 * a := by rw [← Nat.add_mul]; congr 1; omega
      have h6 : l * (255 - a) + l * a = 255 * l := by rw [← Nat.mul_add, Nat.mul_comm]; congr 1; omega
      omega
theorem GfAt.drewN {w : World} {b : Nat} (h : GfAt w b) (n : Nat) : GfAt (w.drewN n) b := ⟨h.lt, h.e, h.l⟩
theorem f_of_wf {x : Int} (h : (Lit.int .u8 x).wf = true) : ∃ f : F, x = f.n := by
  have h2 : 0 ≤ x ∧ x ≤ 255 := by
    simp [Lit.wf, IntKind.min, IntKind.max, IntKind.bits, IntKind.signed] at h; exact h
  exact ⟨F.of x.toNat, by rw [F.n_of (by omega)]; omega⟩
theorem bd_i64 {x : Int} (h : (Lit.int .i64 x).wf = true) : -9223372036854775808 ≤ x ∧ x ≤ 9223372036854775807 := by
  simp [Lit.wf, IntKind.min, IntKind.max, IntKind.bits, IntKind.signed] at h; exact h
theorem xor_n (x y : F) : bits .xor .u8 (x.n : Int) (y.n : Int) = ((x + y).n : Int) := by
  show IntKind.u8.wrap ((BitVec.ofInt 8 (x.n : Int) ^^^ BitVec.ofInt 8 (y.n : Int)).toNat : Int) = _
  rw [BitVec.ofInt_natCast, BitVec.ofInt_natCast, BitVec.toNat_xor, BitVec.toNat_ofNat, BitVec.toNat_ofNat, Nat.mod_eq_of_lt x.lt, Nat.mod_eq_of_lt y.lt, wrapu8 _ (xor_lt x.lt y.lt), F.n_add]
theorem gf_inv_nz (b : Nat) (x : F) (hx : x ≠ 0) (w : World) (h : GfAt w b) :
    Calls Try.prog 29 #[fp b, .int .u8 x.n] w fun e w' => e = .returned (.tuple #[.int .u8 (F.inv x).n, .int .i64 0]) ∧ ∃ n, w' = w.drewN n := by
  have := gf_inv b x w h; rwa [if_neg hx] at this
end Go.Proofs.Ytbepadepepoilaa
