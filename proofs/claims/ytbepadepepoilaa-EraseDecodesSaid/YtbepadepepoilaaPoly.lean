/- Polynomials over the field, in plain Lean: series S with their ring laws, lists as polynomials, norm, degree, values, derivatives, division. No program in sight. -/
import Derived.Test.YtbepadepepoilaaField
namespace Go.Proofs.Ytbepadepepoilaa

/-! ### series: what polynomials are as functions of a place -/
def S : Type := Nat → F
namespace S
def at' (f : S) (i : Nat) : F := f i
theorem ext {f g : S} (h : ∀ i, f.at' i = g.at' i) : f = g := funext h
def add (f g : S) : S := fun i => f.at' i + g.at' i
def tail (f : S) : S := fun i => f.at' (i + 1)
def conv (f g : S) : Nat → F
  | 0 => f.at' 0 * g.at' 0
  | n + 1 => f.at' 0 * g.at' (n + 1) + conv f.tail g n
def mul (f g : S) : S := conv f g
def C (a : F) : S := fun i => if i = 0 then a else 0
def X (f : S) : S := fun i => match i with | 0 => 0 | i + 1 => f.at' i
instance : Add S := ⟨add⟩
instance : Mul S := ⟨mul⟩
instance : OfNat S 0 := ⟨fun _ => 0⟩
instance : OfNat S 1 := ⟨C 1⟩
theorem at_add (f g : S) (i : Nat) : (f + g).at' i = f.at' i + g.at' i := rfl
theorem at_zero (i : Nat) : (0 : S).at' i = 0 := rfl
theorem at_C (a : F) (i : Nat) : (C a).at' i = if i = 0 then a else 0 := rfl
theorem at_X0 (f : S) : (X f).at' 0 = 0 := rfl
theorem at_X (f : S) (i : Nat) : (X f).at' (i + 1) = f.at' i := rfl
theorem at_tail (f : S) (i : Nat) : f.tail.at' i = f.at' (i + 1) := rfl
theorem at_mul0 (f g : S) : (f * g).at' 0 = f.at' 0 * g.at' 0 := rfl
theorem at_mul (f g : S) (n : Nat) : (f * g).at' (n + 1) = f.at' 0 * g.at' (n + 1) + (f.tail * g).at' n := rfl
theorem one_def : (1 : S) = C 1 := rfl

theorem add_comm (f g : S) : f + g = g + f := ext fun i => by rw [at_add, at_add, F.add_comm]
theorem add_assoc (f g h : S) : f + g + h = f + (g + h) := ext fun i => by simp only [at_add]; rw [F.add_assoc]
theorem add_left_comm (f g h : S) : f + (g + h) = g + (f + h) := by rw [← add_assoc, add_comm f, add_assoc]
theorem add_zero (f : S) : f + 0 = f := ext fun i => by rw [at_add, at_zero, F.add_zero]
theorem zero_add (f : S) : 0 + f = f := by rw [add_comm, add_zero]
theorem add_self (f : S) : f + f = 0 := ext fun i => by rw [at_add, F.add_self, at_zero]
theorem add_add_cancel (f g : S) : f + g + g = f := by rw [add_assoc, add_self, add_zero]
theorem add_eq_zero {f g : S} : f + g = 0 ↔ f = g :=
  ⟨fun h => by rw [← add_add_cancel f g, h, zero_add], fun h => by rw [h, add_self]⟩
instance : Std.Associative (α := S) (· + ·) := ⟨add_assoc⟩
instance : Std.Commutative (α := S) (· + ·) := ⟨add_comm⟩

theorem tail_add (f g : S) : (f + g).tail = f.tail + g.tail := rfl
theorem tail_zero : (0 : S).tail = 0 := rfl
theorem tail_C (a : F) : (C a).tail = 0 := ext fun i => by rw [at_tail, at_C, if_neg (by omega), at_zero]
theorem tail_X (f : S) : (X f).tail = f := rfl

theorem conv_add_left : ∀ (n : Nat) (f g h : S), ((f + g) * h).at' n = (f * h).at' n + (g * h).at' n
  | 0, f, g, h => by simp only [at_mul0, at_add]; rw [F.add_mul]
  | n + 1, f, g, h => by
    simp only [at_mul, at_add]
    rw [tail_add, conv_add_left n, F.add_mul]; ac_rfl
theorem add_mul (f g h : S) : (f + g) * h = f * h + g * h := ext fun i => by rw [at_add]; exact conv_add_left i f g h
theorem conv_add_right : ∀ (n : Nat) (f g h : S), (f * (g + h)).at' n = (f * g).at' n + (f * h).at' n
  | 0, f, g, h => by simp only [at_mul0, at_add]; rw [F.mul_add]
  | n + 1, f, g, h => by
    simp only [at_mul, at_add]
    rw [conv_add_right n, F.mul_add]; ac_rfl
theorem mul_add (f g h : S) : f * (g + h) = f * g + f * h := ext fun i => by rw [at_add]; exact conv_add_right i f g h
theorem conv_zero_left : ∀ (n : Nat) (g : S), ((0 : S) * g).at' n = 0
  | 0, g => by rw [at_mul0, at_zero, F.zero_mul]
  | n + 1, g => by rw [at_mul, at_zero, F.zero_mul, tail_zero, conv_zero_left n, F.add_zero]
theorem zero_mul (g : S) : 0 * g = 0 := ext fun i => by rw [conv_zero_left, at_zero]
theorem at_C_mul (a : F) (g : S) (n : Nat) : (C a * g).at' n = a * g.at' n := by
  cases n with
  | zero => rfl
  | succ n => rw [at_mul, tail_C, zero_mul, at_zero, F.add_zero]; rfl
theorem X_mul (f g : S) : X f * g = X (f * g) := ext fun i => by
  cases i with
  | zero => rw [at_mul0, at_X0, F.zero_mul, at_X0]
  | succ i => rw [at_mul, at_X0, F.zero_mul, tail_X, F.zero_add, at_X]
theorem split (f : S) : f = C (f.at' 0) + X f.tail := ext fun i => by
  cases i with
  | zero => rw [at_add, at_X0, F.add_zero]; rfl
  | succ i => rw [at_add, at_X, at_C, if_neg (by omega), F.zero_add, at_tail]
theorem mul_split (f g : S) : f * g = C (f.at' 0) * g + X (f.tail * g) := by
  conv => lhs; rw [split f]
  rw [add_mul, X_mul]
theorem conv_mul_C : ∀ (n : Nat) (a : F) (f : S), (f * C a).at' n = f.at' n * a
  | 0, a, f => rfl
  | n + 1, a, f => by rw [at_mul, conv_mul_C n, at_C, if_neg (by omega), F.mul_zero, F.zero_add, at_tail]
theorem conv_mul_X : ∀ (n : Nat) (f g : S), (f * X g).at' n = (X (f * g)).at' n
  | 0, f, g => by rw [at_mul0, at_X0, F.mul_zero, at_X0]
  | n + 1, f, g => by
    rw [at_mul, conv_mul_X n, at_X, at_X]
    cases n with
    | zero => rw [at_X0, F.add_zero]; rfl
    | succ n => rw [at_X]; rfl
theorem mul_X (f g : S) : f * X g = X (f * g) := ext fun i => conv_mul_X i f g
theorem mul_C (f : S) (a : F) : f * C a = C a * f := ext fun i => by rw [conv_mul_C, at_C_mul, F.mul_comm]
theorem X_add (f g : S) : X (f + g) = X f + X g := ext fun i => by
  cases i with
  | zero => rw [at_X0, at_add, at_X0, at_X0, F.add_zero]
  | succ i => rfl
theorem X_zero : X 0 = 0 := ext fun i => by cases i <;> rfl
theorem conv_comm : ∀ (n : Nat) (f g : S), (f * g).at' n = (g * f).at' n
  | 0, f, g => by rw [at_mul0, at_mul0, F.mul_comm]
  | n + 1, f, g => by
    conv => lhs; rw [mul_split f g]
    conv => rhs; rw [split f, mul_add, mul_C, mul_X]
    rw [at_add, at_add, at_X, at_X, conv_comm n f.tail g]
theorem mul_comm (f g : S) : f * g = g * f := ext fun i => conv_comm i f g
theorem mul_zero (g : S) : g * 0 = 0 := by rw [mul_comm, zero_mul]
theorem C_mul_C (a b : F) : C a * C b = C (a * b) := ext fun i => by
  rw [at_C_mul, at_C, at_C]; split
  · rfl
  · rw [F.mul_zero]
theorem C_mul_assoc (a : F) (g h : S) : C a * g * h = C a * (g * h) := by
  refine ext fun i => ?_
  rw [at_C_mul]
  have : ∀ (n : Nat) (g : S), (C a * g * h).at' n = a * (g * h).at' n := fun n => by
    induction n with
    | zero => intro g; rw [at_mul0, at_C_mul, at_mul0, F.mul_assoc]
    | succ n ih =>
      intro g
      have e : (C a * g).tail = C a * g.tail := ext fun j => by rw [at_tail, at_C_mul, at_C_mul, at_tail]
      rw [at_mul, at_C_mul, e, ih, at_mul, F.mul_add, F.mul_assoc]
  exact this i g
theorem conv_assoc : ∀ (n : Nat) (f g h : S), (f * g * h).at' n = (f * (g * h)).at' n
  | 0, f, g, h => by simp only [at_mul0]; rw [F.mul_assoc]
  | n + 1, f, g, h => by
    rw [mul_split f g, add_mul, C_mul_assoc, X_mul, at_add, at_X, conv_assoc n, mul_split f (g * h), at_add, at_X]
theorem mul_assoc (f g h : S) : f * g * h = f * (g * h) := ext fun i => conv_assoc i f g h
theorem mul_left_comm (f g h : S) : f * (g * h) = g * (f * h) := by rw [← mul_assoc, mul_comm f, mul_assoc]
theorem one_mul (f : S) : 1 * f = f := ext fun i => by rw [one_def, at_C_mul, F.one_mul]
theorem mul_one (f : S) : f * 1 = f := by rw [mul_comm, one_mul]
instance : Std.Associative (α := S) (· * ·) := ⟨mul_assoc⟩
instance : Std.Commutative (α := S) (· * ·) := ⟨mul_comm⟩
theorem C_add (a b : F) : C (a + b) = C a + C b := ext fun i => by
  rw [at_add, at_C, at_C, at_C]; split
  · rfl
  · rw [F.add_zero]
theorem C_zero : C 0 = 0 := ext fun i => by rw [at_C, at_zero]; split <;> rfl
theorem mul_left_cancel_add {f g h : S} (e : f * g = f * h) : f * (g + h) = 0 := by rw [mul_add, e, add_self]

/-! derivative -/
def D (f : S) : S := fun i => if i % 2 = 0 then f.at' (i + 1) else 0
theorem at_D (f : S) (i : Nat) : (D f).at' i = if i % 2 = 0 then f.at' (i + 1) else 0 := rfl
theorem D_add (f g : S) : D (f + g) = D f + D g := ext fun i => by
  rw [at_add, at_D, at_D, at_D]; split
  · rfl
  · rw [F.add_zero]
theorem D_C (a : F) : D (C a) = 0 := ext fun i => by
  rw [at_D]; split
  · rw [at_C, if_neg (by omega), at_zero]
  · rfl
theorem D_zero : D 0 = 0 := by have := D_C 0; rwa [C_zero] at this
theorem D_X (f : S) : D (X f) = f + X (D f) := ext fun i => by
  rw [at_add, at_D, at_X]
  cases i with
  | zero => rw [if_pos rfl, at_X0, F.add_zero]
  | succ i =>
    rw [at_X, at_D]
    by_cases h : i % 2 = 0
    · rw [if_neg (by omega), if_pos h, F.add_self]
    · rw [if_pos (by omega), if_neg h, F.add_zero]
theorem D_C_mul (a : F) (f : S) : D (C a * f) = C a * D f := ext fun i => by
  rw [at_D, at_C_mul, at_C_mul, at_D]; split
  · rfl
  · rw [F.mul_zero]
end S
open S

/-! ### lists as polynomials -/
def cf (p : List F) : S := fun i => p.getD i 0
theorem at_cf (p : List F) (i : Nat) : (cf p).at' i = p.getD i 0 := rfl
theorem cf_nil : cf [] = 0 := rfl
theorem cf_cons (a : F) (p : List F) : cf (a :: p) = C a + X (cf p) := S.ext fun i => by
  cases i with
  | zero => rw [at_add, at_X0, F.add_zero]; rfl
  | succ i => rw [at_add, at_X, at_C, if_neg (by omega), F.zero_add]; rfl
theorem cf_ge {p : List F} {i : Nat} (h : p.length ≤ i) : (cf p).at' i = 0 := by
  rw [at_cf, List.getD_eq_getElem?_getD, List.getElem?_eq_none h]; rfl

def padd : List F → List F → List F
  | [], q => q
  | a :: p, [] => a :: p
  | a :: p, b :: q => (a + b) :: padd p q
theorem padd_nil (p : List F) : padd p [] = p := by cases p <;> rfl
theorem length_padd : ∀ (p q : List F), (padd p q).length = max p.length q.length
  | [], q => by simp [padd]
  | a :: p, [] => by simp [padd]
  | a :: p, b :: q => by simp only [padd, List.length_cons]; rw [length_padd p q]; omega
theorem cf_padd : ∀ (p q : List F), cf (padd p q) = cf p + cf q
  | [], q => by rw [cf_nil, S.zero_add]; rfl
  | a :: p, [] => by rw [cf_nil, S.add_zero]; rfl
  | a :: p, b :: q => by simp only [padd]; rw [cf_cons, cf_padd p q, cf_cons, cf_cons, C_add, X_add]; ac_rfl
def psmul (c : F) (p : List F) : List F := p.map (c * ·)
theorem cf_psmul (c : F) : ∀ (p : List F), cf (psmul c p) = C c * cf p
  | [] => by rw [show psmul c [] = [] from rfl, cf_nil, S.mul_zero]
  | a :: p => by
    rw [show psmul c (a :: p) = (c * a) :: psmul c p from rfl, cf_cons, cf_psmul c p, cf_cons, S.mul_add, mul_X, C_mul_C]
def shift (k : Nat) (p : List F) : List F := List.replicate k 0 ++ p
def Xs : Nat → S → S
  | 0, f => f
  | k + 1, f => X (Xs k f)
theorem cf_shift : ∀ (k : Nat) (p : List F), cf (shift k p) = Xs k (cf p)
  | 0, p => rfl
  | k + 1, p => by
    rw [show shift (k + 1) p = 0 :: shift k p from rfl, cf_cons, C_zero, S.zero_add, cf_shift k p]; rfl
theorem Xs_mul : ∀ (k : Nat) (f g : S), Xs k f * g = Xs k (f * g)
  | 0, _, _ => rfl
  | k + 1, f, g => by simp only [Xs]; rw [X_mul, Xs_mul k]
theorem Xs_add : ∀ (k : Nat) (f g : S), Xs k (f + g) = Xs k f + Xs k g
  | 0, _, _ => rfl
  | k + 1, f, g => by simp only [Xs]; rw [Xs_add k, X_add]
theorem Xs_X : ∀ (k : Nat) (f : S), Xs k (X f) = X (Xs k f)
  | 0, _ => rfl
  | k + 1, f => by simp only [Xs]; rw [Xs_X k]
theorem at_Xs : ∀ (k : Nat) (f : S) (i : Nat), (Xs k f).at' (k + i) = f.at' i
  | 0, f, i => by rw [Nat.zero_add]; rfl
  | k + 1, f, i => by rw [show k + 1 + i = (k + i) + 1 by omega]; simp only [Xs]; rw [at_X]; exact at_Xs k f i
theorem at_Xs_lt : ∀ (k : Nat) (f : S) (i : Nat), i < k → (Xs k f).at' i = 0
  | 0, _, _, h => absurd h (Nat.not_lt_zero _)
  | k + 1, f, 0, _ => rfl
  | k + 1, f, i + 1, h => by simp only [Xs]; rw [at_X]; exact at_Xs_lt k f i (by omega)
def pmul : List F → List F → List F
  | [], _ => []
  | a :: p, q => padd (psmul a q) (0 :: pmul p q)
theorem cf_pmul : ∀ (p q : List F), cf (pmul p q) = cf p * cf q
  | [], q => by rw [cf_nil, S.zero_mul]; rfl
  | a :: p, q => by
    simp only [pmul]
    rw [cf_padd, cf_psmul, cf_cons 0, C_zero, S.zero_add, cf_pmul p q, cf_cons, S.add_mul, X_mul]

/-! ### norm -/
def norm : List F → List F
  | [] => []
  | a :: p => if a = 0 ∧ norm p = [] then [] else a :: norm p
theorem cf_norm : ∀ (p : List F), cf (norm p) = cf p
  | [] => rfl
  | a :: p => by
    simp only [norm]
    split
    · rename_i h
      rw [cf_cons, ← cf_norm p, h.2, h.1, C_zero, S.zero_add, cf_nil, X_zero]
    · rw [cf_cons, cf_norm p, ← cf_cons]
theorem norm_nil_of : ∀ {p : List F}, cf p = 0 → norm p = []
  | [], _ => rfl
  | a :: p, h => by
    have ha : a = 0 := congrFun h 0
    have hp : cf p = 0 := S.ext fun i => congrFun h (i + 1)
    simp only [norm]
    rw [if_pos ⟨ha, norm_nil_of hp⟩]
theorem norm_congr : ∀ {p q : List F}, cf p = cf q → norm p = norm q
  | [], q, h => (norm_nil_of (h.symm.trans cf_nil)).symm
  | p, [], h => norm_nil_of (h.trans cf_nil)
  | a :: p, b :: q, h => by
    have ha : a = b := congrFun h 0
    have hp : cf p = cf q := S.ext fun i => congrFun h (i + 1)
    simp only [norm]
    rw [ha, norm_congr hp]
theorem norm_eq_iff {p q : List F} : norm p = norm q ↔ cf p = cf q :=
  ⟨fun h => by rw [← cf_norm p, ← cf_norm q, h], norm_congr⟩
theorem norm_norm (p : List F) : norm (norm p) = norm p := norm_congr (cf_norm p)
theorem length_norm_le : ∀ (p : List F), (norm p).length ≤ p.length
  | [] => Nat.le_refl _
  | a :: p => by
    simp only [norm]; split
    · simp
    · simp only [List.length_cons]; have := length_norm_le p; omega
theorem norm_eq_nil {p : List F} : norm p = [] ↔ cf p = 0 := ⟨fun h => by rw [← cf_norm p, h, cf_nil], norm_nil_of⟩
/-- above its length a normed list has noughts alone, and its last number is none -/
theorem norm_top : ∀ {p : List F}, norm p ≠ [] → (cf p).at' ((norm p).length - 1) ≠ 0
  | [], h => absurd rfl h
  | a :: p, h => by
    simp only [norm] at h ⊢
    split at h
    · exact absurd rfl h
    · rename_i hn
      rw [if_neg hn]
      by_cases hp : norm p = []
      · rw [hp]
        intro h0
        exact hn ⟨h0, hp⟩
      · have hl : 0 < (norm p).length := List.length_pos_iff.2 hp
        have := norm_top hp
        have e : (a :: norm p).length - 1 = ((norm p).length - 1) + 1 := by simp only [List.length_cons]; omega
        rw [e]
        exact this
theorem norm_above {p : List F} {i : Nat} (h : (norm p).length ≤ i) : (cf p).at' i = 0 := by rw [← cf_norm p]; exact cf_ge h
theorem length_norm_le_of {p : List F} {n : Nat} (h : ∀ i, n ≤ i → (cf p).at' i = 0) : (norm p).length ≤ n := by
  by_cases hp : norm p = []
  · rw [hp]; exact Nat.zero_le _
  · rcases Nat.lt_or_ge n (norm p).length with h1 | h1
    · exact absurd (h _ (by omega)) (norm_top hp)
    · exact h1
theorem length_norm_eq {p : List F} {n : Nat} (h : ∀ i, n ≤ i → (cf p).at' i = 0) (ht : (cf p).at' (n - 1) ≠ 0) (hn : 0 < n) : (norm p).length = n := by
  have h1 := length_norm_le_of h
  rcases Nat.lt_or_ge (norm p).length n with h2 | h2
  · exact absurd (norm_above (p := p) (i := n - 1) (by omega)) ht
  · omega
theorem norm_self_of {p : List F} (h : p ≠ [] → (cf p).at' (p.length - 1) ≠ 0) : norm p = p := by
  by_cases hp : p = []
  · subst hp; rfl
  · have hl : (norm p).length = p.length := length_norm_eq (fun i hi => cf_ge hi) (h hp) (List.length_pos_iff.2 hp)
    refine List.ext_getElem? fun i => ?_
    have e := congrFun (cf_norm p) i
    rcases Nat.lt_or_ge i p.length with h1 | h1
    · have e1 : (norm p).getD i 0 = p.getD i 0 := e
      rw [List.getD_eq_getElem?_getD, List.getD_eq_getElem?_getD, List.getElem?_eq_getElem h1, List.getElem?_eq_getElem (by omega)] at e1
      rw [List.getElem?_eq_getElem h1, List.getElem?_eq_getElem (by omega)]
      simpa using e1
    · rw [List.getElem?_eq_none h1, List.getElem?_eq_none (by omega)]
theorem norm_trim {p : List F} (h : cf (p.dropLast) = cf p) : norm p.dropLast = norm p := norm_congr h

/-! ### products' degrees -/
/-- noughts from n on -/
def Lim (f : S) (n : Nat) : Prop := ∀ i, n ≤ i → f.at' i = 0
theorem lim_cf (p : List F) : Lim (cf p) p.length := fun _ h => cf_ge h
theorem lim_norm (p : List F) : Lim (cf p) (norm p).length := fun _ h => norm_above h
theorem Lim.mono {f : S} {n m : Nat} (h : Lim f n) (hm : n ≤ m) : Lim f m := fun i hi => h i (by omega)
theorem Lim.add {f g : S} {n : Nat} (hf : Lim f n) (hg : Lim g n) : Lim (f + g) n := fun i hi => by rw [at_add, hf i hi, hg i hi, F.add_zero]
theorem Lim.tail {f : S} {n : Nat} (h : Lim f (n + 1)) : Lim f.tail n := fun i hi => h (i + 1) (by omega)
theorem Lim.zero {f : S} (h : Lim f 0) : f = 0 := S.ext fun i => h i (Nat.zero_le _)
theorem Lim.mul : ∀ (a : Nat) {f g : S} {b : Nat}, Lim f a → Lim g b → Lim (f * g) (a + b - 1)
  | 0, f, g, b, hf, _ => by rw [hf.zero, S.zero_mul]; intro _ _; rfl
  | a + 1, f, g, b, hf, hg => by
    intro i hi
    rw [mul_split, at_add, at_C_mul]
    have h1 : g.at' i = 0 := hg i (by omega)
    rw [h1, F.mul_zero, F.zero_add]
    cases i with
    | zero => rfl
    | succ i => rw [at_X]; exact Lim.mul a hf.tail hg i (by omega)
theorem top_mul : ∀ (a : Nat) {f g : S} {b : Nat}, Lim f (a + 1) → Lim g (b + 1) → (f * g).at' (a + b) = f.at' a * g.at' b
  | 0, f, g, b, hf, hg => by
    rw [mul_split, at_add, at_C_mul, Nat.zero_add]
    have h1 : f.tail = 0 := hf.tail.zero
    rw [h1, S.zero_mul, X_zero, at_zero, F.add_zero]
  | a + 1, f, g, b, hf, hg => by
    rw [mul_split, at_add, at_C_mul, show a + 1 + b = (a + b) + 1 by omega, at_X, top_mul a hf.tail hg]
    rw [hg (a + b + 1) (by omega), F.mul_zero, F.zero_add]
    rfl
theorem length_norm_mul {p q : List F} (hp : norm p ≠ []) (hq : norm q ≠ []) : (norm (pmul p q)).length = (norm p).length + (norm q).length - 1 := by
  have h1 : 0 < (norm p).length := List.length_pos_iff.2 hp
  have h2 : 0 < (norm q).length := List.length_pos_iff.2 hq
  refine length_norm_eq ?_ ?_ (by omega)
  · rw [cf_pmul]; exact Lim.mul _ (lim_norm p) (lim_norm q)
  · rw [cf_pmul, show (norm p).length + (norm q).length - 1 - 1 = ((norm p).length - 1) + ((norm q).length - 1) by omega]
    rw [top_mul _ ((lim_norm p).mono (by omega)) ((lim_norm q).mono (by omega))]
    exact F.mul_ne_zero (norm_top hp) (norm_top hq)
theorem pmul_eq_zero {p q : List F} (h : cf p * cf q = 0) : cf p = 0 ∨ cf q = 0 := by
  by_cases hp : norm p = []
  · exact .inl (norm_eq_nil.1 hp)
  by_cases hq : norm q = []
  · exact .inr (norm_eq_nil.1 hq)
  have := length_norm_mul hp hq
  have h0 : norm (pmul p q) = [] := norm_eq_nil.2 (by rw [cf_pmul, h])
  have h1 : 0 < (norm p).length := List.length_pos_iff.2 hp
  have h2 : 0 < (norm q).length := List.length_pos_iff.2 hq
  rw [h0] at this
  simp only [List.length_nil] at this
  omega

/-! ### values -/
def eval : List F → F → F
  | [], _ => 0
  | a :: p, x => a + x * eval p x
theorem eval_padd (x : F) : ∀ (p q : List F), eval (padd p q) x = eval p x + eval q x
  | [], q => by simp only [padd, eval]; rw [F.zero_add]
  | a :: p, [] => by simp only [padd, eval]; rw [F.add_zero]
  | a :: p, b :: q => by simp only [padd, eval]; rw [eval_padd x p q, F.mul_add]; ac_rfl
theorem eval_psmul (x c : F) : ∀ (p : List F), eval (psmul c p) x = c * eval p x
  | [] => by rw [show psmul c [] = [] from rfl, show eval [] x = 0 from rfl, F.mul_zero]
  | a :: p => by
    rw [show psmul c (a :: p) = (c * a) :: psmul c p from rfl]
    simp only [eval]; rw [eval_psmul x c p, F.mul_add, F.mul_left_comm x c]
theorem eval_pmul (x : F) : ∀ (p q : List F), eval (pmul p q) x = eval p x * eval q x
  | [], q => by simp only [pmul, eval]; rw [F.zero_mul]
  | a :: p, q => by
    simp only [pmul, eval]; rw [eval_padd, eval_psmul]; simp only [eval]; rw [eval_pmul x p q, F.zero_add, F.add_mul, F.mul_assoc]
theorem eval_norm (x : F) : ∀ (p : List F), eval (norm p) x = eval p x
  | [] => rfl
  | a :: p => by
    simp only [norm]
    split
    · rename_i h
      simp only [eval]
      rw [← eval_norm x p, h.2, h.1]; simp only [eval]; rw [F.mul_zero, F.add_zero]
    · simp only [eval]; rw [eval_norm x p]
theorem eval_congr {p q : List F} (h : cf p = cf q) (x : F) : eval p x = eval q x := by
  rw [← eval_norm x p, ← eval_norm x q, norm_congr h]
theorem eval_add {p q r : List F} (h : cf r = cf p + cf q) (x : F) : eval r x = eval p x + eval q x := by
  rw [← eval_padd]; exact eval_congr (by rw [h, cf_padd]) x
theorem eval_mul {p q r : List F} (h : cf r = cf p * cf q) (x : F) : eval r x = eval p x * eval q x := by
  rw [← eval_pmul]; exact eval_congr (by rw [h, cf_pmul]) x

/-! ### derivatives -/
theorem D_cf_mul (g : S) : ∀ (p : List F), D (cf p * g) = D (cf p) * g + cf p * D g
  | [] => by rw [cf_nil, S.zero_mul, D_zero, S.zero_mul, S.zero_mul, S.add_zero]
  | a :: p => by
    rw [cf_cons, S.add_mul, X_mul, D_add, D_X, D_cf_mul g p, D_C_mul, D_add, D_C, S.zero_add, D_X, S.add_mul, X_mul, S.add_mul, X_mul, X_add]
    ac_rfl
/-- the derivative's numbers, one place lower -/
def derivL (p : List F) : List F := (List.range p.length).map fun i => if i % 2 = 0 then p.getD (i + 1) 0 else 0
theorem cf_derivL (p : List F) : cf (derivL p) = D (cf p) := S.ext fun i => by
  rw [at_D, at_cf, derivL]
  rcases Nat.lt_or_ge i p.length with h | h
  · rw [List.getD_eq_getElem?_getD, List.getElem?_map, List.getElem?_range h]; rfl
  · rw [List.getD_eq_getElem?_getD, List.getElem?_map, List.getElem?_eq_none (by simpa using h)]
    have : (cf p).at' (i + 1) = 0 := cf_ge (by omega)
    rw [this]; split <;> rfl

/-! ### division -/
structure IsDiv (p q s r : List F) : Prop where
  ns : norm s = s
  nr : norm r = r
  eq : cf p = cf s * cf q + cf r
  lt : r.length < (norm q).length
theorem IsDiv.unique {p q s r s' r' : List F} (h : IsDiv p q s r) (h' : IsDiv p q s' r') : s = s' ∧ r = r' := by
  have e : (cf s + cf s') * cf q = cf r + cf r' := by
    have := h.eq.symm.trans h'.eq
    rw [S.add_mul]
    have e2 : cf s * cf q + cf r + (cf s' * cf q + cf r) = cf s' * cf q + cf r' + (cf s' * cf q + cf r) := by rw [this]
    have e3 : cf s * cf q + cf r + (cf s' * cf q + cf r) = cf s * cf q + cf s' * cf q := by
      rw [show cf s * cf q + cf r + (cf s' * cf q + cf r) = cf s * cf q + cf s' * cf q + cf r + cf r by ac_rfl, S.add_add_cancel]
    have e4 : cf s' * cf q + cf r' + (cf s' * cf q + cf r) = cf r + cf r' := by
      rw [show cf s' * cf q + cf r' + (cf s' * cf q + cf r) = cf r + cf r' + cf s' * cf q + cf s' * cf q by ac_rfl, S.add_add_cancel]
    rw [e3, e4] at e2; exact e2
  have hq : norm q ≠ [] := fun h0 => by have := h.lt; rw [h0] at this; exact absurd this (Nat.not_lt_zero _)
  have hs : norm (padd s s') = [] := by
    refine Classical.byContradiction fun hn => ?_
    have h1 := length_norm_mul hn hq
    have h2 : (norm (pmul (padd s s') q)).length ≤ max r.length r'.length := by
      rw [← length_padd]
      refine length_norm_le_of fun i hi => ?_
      rw [cf_pmul, cf_padd, e, ← cf_padd]; exact cf_ge hi
    have h3 := h.lt
    have h4 := h'.lt
    have h5 : 0 < (norm (padd s s')).length := List.length_pos_iff.2 hn
    omega
  have hs2 : cf s + cf s' = 0 := by rw [← cf_padd]; exact norm_eq_nil.1 hs
  have hr2 : cf r + cf r' = 0 := by rw [← e, hs2, S.zero_mul]
  exact ⟨by rw [← h.ns, ← h'.ns]; exact norm_congr (S.add_eq_zero.1 hs2), by rw [← h.nr, ← h'.nr]; exact norm_congr (S.add_eq_zero.1 hr2)⟩
theorem IsDiv.congr {p p' q q' s r : List F} (h : IsDiv p q s r) (hp : cf p = cf p') (hq : cf q = cf q') : IsDiv p' q' s r :=
  ⟨h.ns, h.nr, by rw [← hp, ← hq]; exact h.eq, by rw [← norm_congr hq]; exact h.lt⟩
end Go.Proofs.Ytbepadepepoilaa
