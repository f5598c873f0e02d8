/- The field of 256 numbers, in plain Lean: tables of powers and logarithms, sum, product, inverse, power, and their laws. No program in sight. -/
import Derived.KernelRfl
namespace Go.Proofs.Ytbepadepepoilaa

/-- a number times 2 -/
def xt (a : Nat) : Nat := if a < 128 then 2 * a else (2 * a) ^^^ 285
def pow2 : Nat → Nat
  | 0 => 1
  | n + 1 => xt (pow2 n)
def exTab : List Nat := [1, 2, 4, 8, 16, 32, 64, 128, 29, 58, 116, 232, 205, 135, 19, 38, 76, 152, 45, 90, 180, 117, 234, 201, 143, 3, 6, 12, 24, 48, 96, 192, 157, 39, 78, 156, 37, 74, 148, 53, 106, 212, 181, 119, 238, 193, 159, 35, 70, 140, 5, 10, 20, 40, 80, 160, 93, 186, 105, 210, 185, 111, 222, 161, 95, 190, 97, 194, 153, 47, 94, 188, 101, 202, 137, 15, 30, 60, 120, 240, 253, 231, 211, 187, 107, 214, 177, 127, 254, 225, 223, 163, 91, 182, 113, 226, 217, 175, 67, 134, 17, 34, 68, 136, 13, 26, 52, 104, 208, 189, 103, 206, 129, 31, 62, 124, 248, 237, 199, 147, 59, 118, 236, 197, 151, 51, 102, 204, 133, 23, 46, 92, 184, 109, 218, 169, 79, 158, 33, 66, 132, 21, 42, 84, 168, 77, 154, 41, 82, 164, 85, 170, 73, 146, 57, 114, 228, 213, 183, 115, 230, 209, 191, 99, 198, 145, 63, 126, 252, 229, 215, 179, 123, 246, 241, 255, 227, 219, 171, 75, 150, 49, 98, 196, 149, 55, 110, 220, 165, 87, 174, 65, 130, 25, 50, 100, 200, 141, 7, 14, 28, 56, 112, 224, 221, 167, 83, 166, 81, 162, 89, 178, 121, 242, 249, 239, 195, 155, 43, 86, 172, 69, 138, 9, 18, 36, 72, 144, 61, 122, 244, 245, 247, 243, 251, 235, 203, 139, 11, 22, 44, 88, 176, 125, 250, 233, 207, 131, 27, 54, 108, 216, 173, 71, 142]
def lgTab : List Nat := [0, 0, 1, 25, 2, 50, 26, 198, 3, 223, 51, 238, 27, 104, 199, 75, 4, 100, 224, 14, 52, 141, 239, 129, 28, 193, 105, 248, 200, 8, 76, 113, 5, 138, 101, 47, 225, 36, 15, 33, 53, 147, 142, 218, 240, 18, 130, 69, 29, 181, 194, 125, 106, 39, 249, 185, 201, 154, 9, 120, 77, 228, 114, 166, 6, 191, 139, 98, 102, 221, 48, 253, 226, 152, 37, 179, 16, 145, 34, 136, 54, 208, 148, 206, 143, 150, 219, 189, 241, 210, 19, 92, 131, 56, 70, 64, 30, 66, 182, 163, 195, 72, 126, 110, 107, 58, 40, 84, 250, 133, 186, 61, 202, 94, 155, 159, 10, 21, 121, 43, 78, 212, 229, 172, 115, 243, 167, 87, 7, 112, 192, 247, 140, 128, 99, 13, 103, 74, 222, 237, 49, 197, 254, 24, 227, 165, 153, 119, 38, 184, 180, 124, 17, 68, 146, 217, 35, 32, 137, 46, 55, 63, 209, 91, 149, 188, 207, 205, 144, 135, 151, 178, 220, 252, 190, 97, 242, 86, 211, 171, 20, 42, 93, 158, 132, 60, 57, 83, 71, 109, 65, 162, 31, 45, 67, 216, 183, 123, 164, 118, 196, 23, 73, 236, 127, 12, 111, 246, 108, 161, 59, 82, 41, 157, 85, 170, 251, 96, 134, 177, 187, 204, 62, 90, 203, 89, 95, 176, 156, 169, 160, 81, 11, 245, 22, 235, 122, 117, 44, 215, 79, 174, 213, 233, 230, 231, 173, 232, 116, 214, 244, 234, 168, 80, 88, 175]
def ex (i : Nat) : Nat := exTab.getD i 0
def lg (a : Nat) : Nat := lgTab.getD a 0

/-! ### facts by counting -/
def allB (n : Nat) (p : Nat → Bool) : Bool := Nat.rec true (fun i r => p i && r) n
theorem allB_of {p : Nat → Bool} : ∀ {n : Nat}, allB n p = true → ∀ i, i < n → p i = true
  | 0, _, i, h => absurd h (Nat.not_lt_zero i)
  | n + 1, h, i, hi => by
    have h' : (p n && allB n p) = true := h
    rw [Bool.and_eq_true] at h'
    rcases Nat.lt_succ_iff_lt_or_eq.1 hi with hlt | rfl
    · exact allB_of h'.2 i hlt
    · exact h'.1

theorem xt_add_all : allB 256 (fun a => allB 256 fun b => xt (a ^^^ b) == (xt a ^^^ xt b)) = true := by kernel_rfl
theorem xt_lt_all : allB 256 (fun a => decide (xt a < 256)) = true := by kernel_rfl
theorem ex_all : allB 254 (fun i => (ex (i + 1) == xt (ex i))) = true := by kernel_rfl
theorem ex_wrap : xt (ex 254) = 1 := by kernel_rfl
theorem ex_lt_all : allB 255 (fun i => decide (ex i < 256) && decide (0 < ex i) && (lg (ex i) == i)) = true := by kernel_rfl
theorem lg_all : allB 256 (fun a => decide (lg a < 255) && (a == 0 || ex (lg a) == a)) = true := by kernel_rfl

theorem xt_add {a b : Nat} (ha : a < 256) (hb : b < 256) : xt (a ^^^ b) = xt a ^^^ xt b := by
  simpa using allB_of (allB_of xt_add_all a ha) b hb
theorem xt_lt {a : Nat} (ha : a < 256) : xt a < 256 := by simpa using allB_of xt_lt_all a ha
theorem ex_succ {i : Nat} (h : i < 254) : ex (i + 1) = xt (ex i) := by simpa using allB_of ex_all i h
theorem ex_lt {i : Nat} (h : i < 255) : ex i < 256 := by have := allB_of ex_lt_all i h; simp at this; omega
theorem ex_pos {i : Nat} (h : i < 255) : 0 < ex i := by have := allB_of ex_lt_all i h; simp at this; omega
theorem lg_ex {i : Nat} (h : i < 255) : lg (ex i) = i := by have := allB_of ex_lt_all i h; simp at this; omega
theorem lg_lt {a : Nat} (h : a < 256) : lg a < 255 := by have := allB_of lg_all a h; simp at this; omega
theorem ex_lg {a : Nat} (h : a < 256) (h0 : a ≠ 0) : ex (lg a) = a := by
  have := allB_of lg_all a h
  simp at this
  rcases this.2 with e | e
  · exact absurd e h0
  · exact e
theorem xor_lt {a b : Nat} (ha : a < 256) (hb : b < 256) : a ^^^ b < 256 := Nat.xor_lt_two_pow (n := 8) ha hb

/-- xt as often -/
def xts : Nat → Nat → Nat
  | 0, a => a
  | n + 1, a => xt (xts n a)
theorem xts_lt : ∀ (n : Nat) {a : Nat}, a < 256 → xts n a < 256
  | 0, _, h => h
  | n + 1, _, h => xt_lt (xts_lt n h)
theorem xts_add : ∀ (n : Nat) {a b : Nat}, a < 256 → b < 256 → xts n (a ^^^ b) = xts n a ^^^ xts n b
  | 0, _, _, _, _ => rfl
  | n + 1, a, b, ha, hb => by simp only [xts]; rw [xts_add n ha hb, xt_add (xts_lt n ha) (xts_lt n hb)]
theorem xts_zero : ∀ n : Nat, xts n 0 = 0
  | 0 => rfl
  | n + 1 => by simp only [xts]; rw [xts_zero n]; rfl
theorem xts_ex : ∀ (n : Nat) {j : Nat}, j < 255 → xts n (ex j) = ex ((n + j) % 255)
  | 0, j, h => by simp only [xts]; rw [Nat.zero_add, Nat.mod_eq_of_lt h]
  | n + 1, j, h => by
    simp only [xts]
    rw [xts_ex n h]
    rcases Nat.lt_or_ge ((n + j) % 255) 254 with h1 | h1
    · rw [← ex_succ h1]; congr 1; omega
    · have e : (n + j) % 255 = 254 := by omega
      have e2 : (n + 1 + j) % 255 = 0 := by omega
      rw [e, e2, ex_wrap]; rfl

/-- the product -/
def mulN (a b : Nat) : Nat := if a = 0 ∨ b = 0 then 0 else ex ((lg a + lg b) % 255)
theorem mulN_lt (a b : Nat) : mulN a b < 256 := by
  unfold mulN
  split
  · omega
  · exact ex_lt (Nat.mod_lt _ (by omega))
theorem mulN_zero (a : Nat) : mulN a 0 = 0 := by simp [mulN]
theorem zero_mulN (a : Nat) : mulN 0 a = 0 := by simp [mulN]
theorem mulN_comm (a b : Nat) : mulN a b = mulN b a := by
  unfold mulN
  rw [Nat.add_comm]
  by_cases ha : a = 0 <;> by_cases hb : b = 0 <;> simp [ha, hb]
theorem mulN_ex {i b : Nat} (hi : i < 255) (hb : b < 256) : mulN (ex i) b = xts i b := by
  unfold mulN
  by_cases h : b = 0
  · subst h; simp [xts_zero]
  · rw [if_neg (by have := ex_pos hi; omega), lg_ex hi]
    conv => rhs; rw [← ex_lg hb h]
    rw [xts_ex i (lg_lt hb)]
theorem mulN_add {a b c : Nat} (ha : a < 256) (hb : b < 256) (hc : c < 256) : mulN a (b ^^^ c) = mulN a b ^^^ mulN a c := by
  by_cases h : a = 0
  · subst h; simp [zero_mulN]
  · have e := ex_lg ha h
    have hl := lg_lt ha
    generalize lg a = i at e hl
    subst e
    rw [mulN_ex hl (xor_lt hb hc), mulN_ex hl hb, mulN_ex hl hc, xts_add i hb hc]
theorem mulN_pos {a b : Nat} (ha : a ≠ 0) (hb : b ≠ 0) : mulN a b ≠ 0 := by
  unfold mulN
  rw [if_neg (by omega)]
  have := ex_pos (i := (lg a + lg b) % 255) (Nat.mod_lt _ (by omega))
  omega
theorem mulN_assoc (a b c : Nat) : mulN (mulN a b) c = mulN a (mulN b c) := by
  by_cases ha : a = 0
  · subst ha; simp [zero_mulN]
  by_cases hb : b = 0
  · subst hb; simp [zero_mulN, mulN_zero]
  by_cases hc : c = 0
  · subst hc; simp [mulN_zero]
  have h1 := mulN_pos ha hb
  have h2 := mulN_pos hb hc
  have e1 : lg (mulN a b) = (lg a + lg b) % 255 := by
    rw [mulN, if_neg (by omega)]; exact lg_ex (Nat.mod_lt _ (by omega))
  have e2 : lg (mulN b c) = (lg b + lg c) % 255 := by
    rw [mulN, if_neg (by omega)]; exact lg_ex (Nat.mod_lt _ (by omega))
  rw [mulN, if_neg (by omega), e1]
  rw [mulN, if_neg (by omega), e2]
  congr 1
  omega
theorem one_mulN {a : Nat} (ha : a < 256) : mulN 1 a = a := by
  have e : (1 : Nat) = ex 0 := rfl
  rw [e, mulN_ex (by omega) ha]
  rfl

/-! ### the type of numbers -/
def F : Type := Fin 256
namespace F
def n (x : F) : Nat := Fin.val x
def of (k : Nat) : F := Fin.ofNat 256 k
theorem lt (x : F) : x.n < 256 := Fin.isLt x
theorem ext {x y : F} (h : x.n = y.n) : x = y := Fin.ext h
instance : DecidableEq F := fun x y => decidable_of_iff (x.n = y.n) ⟨ext, fun h => by rw [h]⟩
theorem n_of {k : Nat} (h : k < 256) : (of k).n = k := Nat.mod_eq_of_lt h
theorem of_n (x : F) : of x.n = x := ext (n_of x.lt)
instance : Inhabited F := ⟨of 0⟩
instance : OfNat F 0 := ⟨of 0⟩
instance : OfNat F 1 := ⟨of 1⟩
instance : Add F := ⟨fun x y => of (x.n ^^^ y.n)⟩
instance : Mul F := ⟨fun x y => of (mulN x.n y.n)⟩
theorem n_zero : (0 : F).n = 0 := rfl
theorem n_one : (1 : F).n = 1 := rfl
theorem n_add (x y : F) : (x + y).n = x.n ^^^ y.n := n_of (xor_lt x.lt y.lt)
theorem n_mul (x y : F) : (x * y).n = mulN x.n y.n := n_of (mulN_lt _ _)
theorem n_eq_zero {x : F} : x.n = 0 ↔ x = 0 := ⟨fun h => ext h, fun h => by rw [h]; rfl⟩
theorem n_ne_zero {x : F} : x.n ≠ 0 ↔ x ≠ 0 := not_congr n_eq_zero

theorem add_comm (x y : F) : x + y = y + x := ext (by rw [n_add, n_add, Nat.xor_comm])
theorem add_assoc (x y z : F) : x + y + z = x + (y + z) := ext (by rw [n_add, n_add, n_add, n_add, Nat.xor_assoc])
theorem add_zero (x : F) : x + 0 = x := ext (by rw [n_add, n_zero, Nat.xor_zero])
theorem zero_add (x : F) : 0 + x = x := by rw [add_comm, add_zero]
theorem add_self (x : F) : x + x = 0 := ext (by rw [n_add, Nat.xor_self, n_zero])
theorem add_left_comm (x y z : F) : x + (y + z) = y + (x + z) := by rw [← add_assoc, add_comm x y, add_assoc]
theorem add_add_cancel (x y : F) : x + y + y = x := by rw [add_assoc, add_self, add_zero]
theorem add_cancel_left (x y : F) : x + (x + y) = y := by rw [← add_assoc, add_self, zero_add]
theorem add_eq_zero {x y : F} : x + y = 0 ↔ x = y :=
  ⟨fun h => by rw [← add_add_cancel x y, h, zero_add], fun h => by rw [h, add_self]⟩
theorem mul_comm (x y : F) : x * y = y * x := ext (by rw [n_mul, n_mul, mulN_comm])
theorem mul_assoc (x y z : F) : x * y * z = x * (y * z) := ext (by rw [n_mul, n_mul, n_mul, n_mul, mulN_assoc])
theorem mul_left_comm (x y z : F) : x * (y * z) = y * (x * z) := by rw [← mul_assoc, mul_comm x y, mul_assoc]
theorem mul_add (x y z : F) : x * (y + z) = x * y + x * z := ext (by rw [n_mul, n_add, n_add, n_mul, n_mul, mulN_add x.lt y.lt z.lt])
theorem add_mul (x y z : F) : (x + y) * z = x * z + y * z := by rw [mul_comm, mul_add, mul_comm z x, mul_comm z y]
theorem mul_zero (x : F) : x * 0 = 0 := ext (by rw [n_mul, n_zero, mulN_zero])
theorem zero_mul (x : F) : 0 * x = 0 := by rw [mul_comm, mul_zero]
theorem one_mul (x : F) : 1 * x = x := ext (by rw [n_mul, n_one, one_mulN x.lt])
theorem mul_one (x : F) : x * 1 = x := by rw [mul_comm, one_mul]
theorem mul_ne_zero {x y : F} (hx : x ≠ 0) (hy : y ≠ 0) : x * y ≠ 0 :=
  n_ne_zero.1 (by rw [n_mul]; exact mulN_pos (n_ne_zero.2 hx) (n_ne_zero.2 hy))
theorem mul_eq_zero {x y : F} : x * y = 0 ↔ x = 0 ∨ y = 0 := by
  constructor
  · intro h
    by_cases hx : x = 0
    · exact .inl hx
    · by_cases hy : y = 0
      · exact .inr hy
      · exact absurd h (mul_ne_zero hx hy)
  · rintro (h | h) <;> subst h <;> simp [mul_zero, zero_mul]
theorem one_ne_zero : (1 : F) ≠ 0 := by decide

/-- 2's power of i -/
def g (i : Nat) : F := of (ex (i % 255))
theorem n_g (i : Nat) : (g i).n = ex (i % 255) := n_of (ex_lt (Nat.mod_lt _ (by omega)))
theorem g_ne_zero (i : Nat) : g i ≠ 0 := n_ne_zero.1 (by rw [n_g]; have := ex_pos (i := i % 255) (Nat.mod_lt _ (by omega)); omega)
/-- which power of 2 a number is -/
def log (x : F) : Nat := lg x.n
theorem log_lt (x : F) : x.log < 255 := lg_lt x.lt
theorem g_log {x : F} (h : x ≠ 0) : g x.log = x := ext (by rw [n_g, Nat.mod_eq_of_lt (log_lt x)]; exact ex_lg x.lt (n_ne_zero.2 h))
theorem log_g (i : Nat) : (g i).log = i % 255 := by unfold log; rw [n_g]; exact lg_ex (Nat.mod_lt _ (by omega))
theorem g_mod (i : Nat) : g (i % 255) = g i := by unfold g; rw [Nat.mod_mod]
theorem g_mul (i j : Nat) : g i * g j = g (i + j) := ext (by
  have h1 : (g i).n ≠ 0 := n_ne_zero.2 (g_ne_zero i)
  have h2 : (g j).n ≠ 0 := n_ne_zero.2 (g_ne_zero j)
  rw [n_mul, mulN, if_neg (by omega), n_g (i + j)]
  have e1 : lg (g i).n = i % 255 := log_g i
  have e2 : lg (g j).n = j % 255 := log_g j
  rw [e1, e2]; congr 1; omega)
theorem g_zero : g 0 = 1 := rfl
theorem g_255 : g 255 = 1 := rfl
theorem log_mul {x y : F} (hx : x ≠ 0) (hy : y ≠ 0) : (x * y).log = (x.log + y.log) % 255 := by
  conv => lhs; rw [← g_log hx, ← g_log hy, g_mul]
  exact log_g _

/-- the inverse (of 0: 0) -/
def inv (x : F) : F := if x = 0 then 0 else g (255 - x.log)
theorem inv_zero : inv 0 = 0 := rfl
theorem mul_inv {x : F} (h : x ≠ 0) : x * inv x = 1 := by
  have hl := log_lt x
  rw [inv, if_neg h]
  conv => lhs; rw [← g_log h]
  rw [log_g, g_mul, Nat.mod_eq_of_lt hl]
  have e : x.log + (255 - x.log) = 255 := by omega
  rw [e, g_255]
theorem inv_mul {x : F} (h : x ≠ 0) : inv x * x = 1 := by rw [mul_comm, mul_inv h]
theorem inv_ne_zero {x : F} (h : x ≠ 0) : inv x ≠ 0 := by rw [inv, if_neg h]; exact g_ne_zero _
theorem mul_cancel {x y z : F} (hx : x ≠ 0) (h : x * y = x * z) : y = z := by
  have := congrArg (inv x * ·) h
  simpa [← mul_assoc, inv_mul hx, one_mul] using this
theorem inv_eq {x y : F} (h : x * y = 1) : inv x = y := by
  have hx : x ≠ 0 := by rintro rfl; rw [zero_mul] at h; exact one_ne_zero h.symm
  exact mul_cancel hx (by rw [mul_inv hx, h])
theorem inv_inv (x : F) : inv (inv x) = x := by
  by_cases h : x = 0
  · subst h; rfl
  · exact inv_eq (inv_mul h)
theorem inv_one : inv (1 : F) = 1 := inv_eq (by rw [mul_one])
theorem inv_mul_inv (x y : F) : inv (x * y) = inv x * inv y := by
  by_cases hx : x = 0
  · subst hx; rw [zero_mul, inv_zero, zero_mul]
  by_cases hy : y = 0
  · subst hy; rw [mul_zero, inv_zero, mul_zero]
  refine inv_eq ?_
  rw [mul_assoc, mul_left_comm y, mul_inv hy, mul_one, mul_inv hx]

/-- a power (natural) -/
def pow (x : F) : Nat → F
  | 0 => 1
  | k + 1 => x * pow x k
theorem pow_zero (x : F) : x.pow 0 = 1 := rfl
theorem pow_succ (x : F) (k : Nat) : x.pow (k + 1) = x * x.pow k := rfl
theorem pow_add (x : F) (a b : Nat) : x.pow (a + b) = x.pow a * x.pow b := by
  induction a with
  | zero => rw [Nat.zero_add, pow_zero, one_mul]
  | succ a ih => rw [Nat.succ_add, pow_succ, pow_succ, ih, mul_assoc]
theorem zero_pow {k : Nat} (h : k ≠ 0) : (0 : F).pow k = 0 := by
  cases k with
  | zero => exact absurd rfl h
  | succ k => rw [pow_succ, zero_mul]
theorem pow_g (i k : Nat) : (g i).pow k = g (i * k) := by
  induction k with
  | zero => rw [pow_zero, Nat.mul_zero, g_zero]
  | succ k ih => rw [pow_succ, ih, g_mul, Nat.mul_succ, Nat.add_comm]
theorem pow_eq {x : F} (h : x ≠ 0) (k : Nat) : x.pow k = g (x.log * k) := by
  conv => lhs; rw [← g_log h]
  exact pow_g _ _
theorem pow_255 {x : F} (h : x ≠ 0) : x.pow 255 = 1 := by
  rw [pow_eq h, ← g_mod]
  have e : x.log * 255 % 255 = 0 := by omega
  rw [e, g_zero]
theorem pow_ne_zero {x : F} (h : x ≠ 0) (k : Nat) : x.pow k ≠ 0 := by rw [pow_eq h]; exact g_ne_zero _
theorem mul_pow (x y : F) (k : Nat) : (x * y).pow k = x.pow k * y.pow k := by
  induction k with
  | zero => rw [pow_zero, pow_zero, pow_zero, one_mul]
  | succ k ih => rw [pow_succ, pow_succ, pow_succ, ih, mul_assoc, mul_assoc, mul_left_comm y]
theorem pow_mul (x : F) (a b : Nat) : x.pow (a * b) = (x.pow a).pow b := by
  induction b with
  | zero => rw [Nat.mul_zero, pow_zero, pow_zero]
  | succ b ih => rw [Nat.mul_succ, Nat.add_comm, pow_add, ih, pow_succ]
instance : Std.Associative (α := F) (· + ·) := ⟨add_assoc⟩
instance : Std.Commutative (α := F) (· + ·) := ⟨add_comm⟩
instance : Std.Associative (α := F) (· * ·) := ⟨mul_assoc⟩
instance : Std.Commutative (α := F) (· * ·) := ⟨mul_comm⟩
end F
end Go.Proofs.Ytbepadepepoilaa
