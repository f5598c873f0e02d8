/- Sums and matrices over the field, in plain Lean: products, inverses, rows that are turned into others, places that are roots. No program in sight. -/
import Derived.Test.YtbepadepepoilaaField
namespace Go.Proofs.Ytbepadepepoilaa
set_option linter.unusedVariables false

/-! ### sums -/
/-- f 0 + .. + f (n - 1) -/
def sumF : Nat → (Nat → F) → F
  | 0, _ => 0
  | n + 1, f => sumF n f + f n
theorem sumF_zero (f : Nat → F) : sumF 0 f = 0 := rfl
theorem sumF_succ (n : Nat) (f : Nat → F) : sumF (n + 1) f = sumF n f + f n := rfl
theorem sumF_congr : ∀ {n : Nat} {f g : Nat → F}, (∀ i, i < n → f i = g i) → sumF n f = sumF n g
  | 0, _, _, _ => rfl
  | n + 1, f, g, h => by rw [sumF_succ, sumF_succ, sumF_congr fun i hi => h i (by omega), h n (by omega)]
theorem sumF_none {n : Nat} {f : Nat → F} (h : ∀ i, i < n → f i = 0) : sumF n f = 0 := by
  induction n with
  | zero => rfl
  | succ n ih => rw [sumF_succ, ih fun i hi => h i (by omega), h n (by omega), F.add_zero]
theorem sumF_add (n : Nat) (f g : Nat → F) : sumF n (fun i => f i + g i) = sumF n f + sumF n g := by
  induction n with
  | zero => exact (F.add_zero 0).symm
  | succ n ih => rw [sumF_succ, ih, sumF_succ, sumF_succ, F.add_assoc, F.add_assoc, F.add_left_comm (sumF n g)]
theorem sumF_mul (n : Nat) (a : F) (f : Nat → F) : sumF n (fun i => a * f i) = a * sumF n f := by
  induction n with
  | zero => exact (F.mul_zero a).symm
  | succ n ih => rw [sumF_succ, ih, sumF_succ, F.mul_add]
theorem sumF_mul_right (n : Nat) (f : Nat → F) (a : F) : sumF n (fun i => f i * a) = sumF n f * a := by
  rw [F.mul_comm, ← sumF_mul]; exact sumF_congr fun i _ => F.mul_comm _ _
theorem sumF_comm (n m : Nat) (f : Nat → Nat → F) : sumF n (fun i => sumF m fun j => f i j) = sumF m fun j => sumF n fun i => f i j := by
  induction n with
  | zero => exact (sumF_none fun _ _ => rfl).symm
  | succ n ih => rw [sumF_succ, ih, ← sumF_add]; exact sumF_congr fun j _ => (sumF_succ n _).symm
theorem sumF_one {n : Nat} {f : Nat → F} (k : Nat) (hk : k < n) (h : ∀ i, i < n → i ≠ k → f i = 0) : sumF n f = f k := by
  induction n with
  | zero => omega
  | succ n ih =>
    rw [sumF_succ]
    by_cases e : k = n
    · subst e; rw [sumF_none fun i hi => h i (by omega) (by omega), F.zero_add]
    · rw [ih (by omega) fun i hi => h i (by omega), h n (by omega) (fun e2 => e e2.symm), F.add_zero]
theorem sumF_append (n m : Nat) (f : Nat → F) : sumF (n + m) f = sumF n f + sumF m fun i => f (n + i) := by
  induction m with
  | zero => rw [Nat.add_zero, sumF_zero, F.add_zero]
  | succ m ih => rw [← Nat.add_assoc, sumF_succ, ih, sumF_succ, F.add_assoc]
/-- 1 where two are one -/
def dlt (a b : Nat) : F := if a = b then 1 else 0
theorem dlt_n (a b : Nat) : ((dlt a b).n : Int) = if a = b then 1 else 0 := by unfold dlt; split <;> rfl
theorem dlt_self (a : Nat) : dlt a a = 1 := if_pos rfl
theorem dlt_ne {a b : Nat} (h : a ≠ b) : dlt a b = 0 := if_neg h
theorem dlt_comm (a b : Nat) : dlt a b = dlt b a := by unfold dlt; by_cases h : a = b <;> simp [h, eq_comm]
theorem sumF_dlt_left {n k : Nat} (f : Nat → F) (hk : k < n) : (sumF n fun i => dlt k i * f i) = f k := by
  rw [sumF_one k hk fun i _ h => by rw [dlt_ne (Ne.symm h), F.zero_mul], dlt_self, F.one_mul]
theorem sumF_dlt_right {n k : Nat} (f : Nat → F) (hk : k < n) : (sumF n fun i => f i * dlt i k) = f k := by
  rw [sumF_one k hk fun i _ h => by rw [dlt_ne h, F.mul_zero], dlt_self, F.mul_one]

/-! ### matrices -/
abbrev Mx := Nat → Nat → F
def EqM (a b : Nat) (f g : Mx) : Prop := ∀ r c, r < a → c < b → f r c = g r c
theorem EqM.refl (a b : Nat) (f : Mx) : EqM a b f f := fun _ _ _ _ => rfl
theorem EqM.symm {a b : Nat} {f g : Mx} (h : EqM a b f g) : EqM a b g f := fun r c hr hc => (h r c hr hc).symm
theorem EqM.trans {a b : Nat} {f g k : Mx} (h : EqM a b f g) (h' : EqM a b g k) : EqM a b f k := fun r c hr hc => (h r c hr hc).trans (h' r c hr hc)
/-- a product; n: how many columns the first one has -/
def mmul (n : Nat) (f g : Mx) : Mx := fun r c => sumF n fun i => f r i * g i c
theorem mmul_congr {a n b : Nat} {f f' g g' : Mx} (h : EqM a n f f') (h' : EqM n b g g') : EqM a b (mmul n f g) (mmul n f' g') := fun r c hr hc =>
  sumF_congr fun i hi => by rw [h r i hr hi, h' i c hi hc]
theorem mmul_assoc (n m : Nat) (f g k : Mx) (r c : Nat) : mmul m (mmul n f g) k r c = mmul n f (mmul m g k) r c := by
  show (sumF m fun i => (sumF n fun j => f r j * g j i) * k i c) = sumF n fun j => f r j * sumF m fun i => g j i * k i c
  rw [sumF_congr (g := fun i => sumF n fun j => f r j * g j i * k i c) fun i _ => (sumF_mul_right n _ _).symm]
  rw [sumF_comm]
  refine sumF_congr fun j _ => ?_
  rw [← sumF_mul]
  exact sumF_congr fun i _ => F.mul_assoc _ _ _
theorem mmul_add_right (n : Nat) (f g k : Mx) (r c : Nat) : mmul n f (fun i j => g i j + k i j) r c = mmul n f g r c + mmul n f k r c := by
  unfold mmul
  rw [← sumF_add]
  exact sumF_congr fun i _ => F.mul_add _ _ _
theorem mmul_add_left (n : Nat) (f g k : Mx) (r c : Nat) : mmul n (fun i j => f i j + g i j) k r c = mmul n f k r c + mmul n g k r c := by
  unfold mmul
  rw [← sumF_add]
  exact sumF_congr fun i _ => F.add_mul _ _ _
theorem mmul_one_left {n : Nat} (f : Mx) {r : Nat} (hr : r < n) (c : Nat) : mmul n dlt f r c = f r c := sumF_dlt_left (fun i => f i c) hr
theorem mmul_one_right {n : Nat} (f : Mx) (r : Nat) {c : Nat} (hc : c < n) : mmul n f dlt r c = f r c := sumF_dlt_right (fun i => f r i) hc
/-- an inverse, on both sides -/
structure IsInv (n : Nat) (f g : Mx) : Prop where
  right : EqM n n (mmul n f g) dlt
  left : EqM n n (mmul n g f) dlt
theorem IsInv.symm {n : Nat} {f g : Mx} (h : IsInv n f g) : IsInv n g f := ⟨h.left, h.right⟩
theorem IsInv.congr {n : Nat} {f f' g g' : Mx} (h : IsInv n f g) (hf : EqM n n f f') (hg : EqM n n g g') : IsInv n f' g' :=
  ⟨(mmul_congr hf hg).symm.trans h.right, (mmul_congr hg hf).symm.trans h.left⟩
theorem IsInv.unique {n : Nat} {f g g' : Mx} (h : IsInv n f g) (h' : IsInv n f g') : EqM n n g g' := fun r c hr hc => by
  rw [← mmul_one_right g r hc, ← mmul_congr (EqM.refl n n g) h'.right r c hr hc, ← mmul_assoc, mmul_congr h.left (EqM.refl n n g') r c hr hc, mmul_one_left g' hr]
theorem IsInv.mul {n : Nat} {f g f' g' : Mx} (h : IsInv n f g) (h' : IsInv n f' g') : IsInv n (mmul n f f') (mmul n g' g) := by
  have aux : ∀ {f g f' g' : Mx}, EqM n n (mmul n f g) dlt → EqM n n (mmul n f' g') dlt → EqM n n (mmul n (mmul n f f') (mmul n g' g)) dlt := by
    intro f g f' g' h h' r c hr hc
    rw [mmul_assoc, ← h r c hr hc]
    refine mmul_congr (EqM.refl n n f) (fun i j hi hj => ?_) r c hr hc
    rw [← mmul_assoc, mmul_congr h' (EqM.refl n n g) i j hi hj, mmul_one_left g hi]
  exact ⟨aux h.right h'.right, aux h'.left h.left⟩
theorem IsInv.one (n : Nat) : IsInv n dlt dlt := ⟨fun r c hr _ => mmul_one_left dlt hr c, fun r c hr _ => mmul_one_left dlt hr c⟩

/-! ### what a matrix makes 0 -/
def app (n : Nat) (f : Mx) (x : Nat → F) (r : Nat) : F := sumF n fun j => f r j * x j
def Ker (n m : Nat) (w : Mx) (x : Nat → F) : Prop := ∀ r, r < n → app m w x r = 0
/-- rows that say the same -/
def RowEq (n m : Nat) (w v : Mx) : Prop := ∀ x, Ker n m w x ↔ Ker n m v x
theorem RowEq.refl (n m : Nat) (w : Mx) : RowEq n m w w := fun _ => Iff.rfl
theorem RowEq.trans {n m : Nat} {u v w : Mx} (h : RowEq n m u v) (h' : RowEq n m v w) : RowEq n m u w := fun x => (h x).trans (h' x)
theorem RowEq.of_eq {n m : Nat} {w v : Mx} (h : EqM n m w v) : RowEq n m w v := fun x =>
  forall_congr' fun r => imp_congr_right fun hr => by
    rw [show app m w x r = app m v x r from sumF_congr fun j hj => by rw [h r j hr hj]]
theorem app_row {m : Nat} {w v : Mx} {r s : Nat} (x : Nat → F) (h : ∀ j, j < m → w r j = v s j) : app m w x r = app m v x s := sumF_congr fun j hj => by rw [h j hj]
/-- a row's multiple added to another one -/
theorem rowEq_add {n m : Nat} {w v : Mx} (r s : Nat) (c : F) (hr : r < n) (hs : s < n) (hrs : r ≠ s) (h1 : ∀ i, i < n → i ≠ r → ∀ j, j < m → w i j = v i j) (h2 : ∀ j, j < m → w r j = v r j + v s j * c) : RowEq n m w v := by
  intro x
  have e : app m w x r = app m v x r + c * app m v x s := by
    unfold app
    rw [← sumF_mul, ← sumF_add]
    exact sumF_congr fun j hj => by rw [h2 j hj, F.add_mul, F.mul_comm (v s j), F.mul_assoc]
  have es : app m w x s = app m v x s := app_row x (h1 s hs (Ne.symm hrs))
  constructor
  · intro h i hi
    by_cases e2 : i = r
    · subst e2
      have := h i hi
      rw [e, ← es, h s hs, F.mul_zero, F.add_zero] at this
      exact this
    · rw [← app_row x (h1 i hi e2)]; exact h i hi
  · intro h i hi
    by_cases e2 : i = r
    · subst e2; rw [e, h i hi, h s hs, F.mul_zero, F.add_zero]
    · rw [app_row x (h1 i hi e2)]; exact h i hi
theorem rowEq_scale {n m : Nat} {w v : Mx} (r : Nat) (c : F) (hc : c ≠ 0) (h1 : ∀ i, i < n → i ≠ r → ∀ j, j < m → w i j = v i j) (h2 : ∀ j, j < m → w r j = c * v r j) : RowEq n m w v := by
  intro x
  have e : app m w x r = c * app m v x r := by
    unfold app
    rw [← sumF_mul]
    exact sumF_congr fun j hj => by rw [h2 j hj, F.mul_assoc]
  constructor
  · intro h i hi
    by_cases e2 : i = r
    · subst e2
      have := h i hi
      rw [e] at this
      exact (F.mul_eq_zero.1 this).resolve_left hc
    · rw [← app_row x (h1 i hi e2)]; exact h i hi
  · intro h i hi
    by_cases e2 : i = r
    · subst e2; rw [e, h i hi, F.mul_zero]
    · rw [app_row x (h1 i hi e2)]; exact h i hi
theorem rowEq_swap {n m : Nat} {w v : Mx} (r s : Nat) (hr : r < n) (hs : s < n) (h1 : ∀ i, i < n → i ≠ r → i ≠ s → ∀ j, j < m → w i j = v i j) (h2 : ∀ j, j < m → w r j = v s j) (h3 : ∀ j, j < m → w s j = v r j) : RowEq n m w v := by
  intro x
  have e2 := app_row x h2
  have e3 := app_row x h3
  constructor
  · intro h i hi
    by_cases a : i = r
    · subst a; rw [← e3]; exact h s hs
    · by_cases b : i = s
      · subst b; rw [← e2]; exact h r hr
      · rw [← app_row x (h1 i hi a b)]; exact h i hi
  · intro h i hi
    by_cases a : i = r
    · subst a; rw [e2]; exact h s hs
    · by_cases b : i = s
      · subst b; rw [e3]; exact h r hr
      · rw [app_row x (h1 i hi a b)]; exact h i hi
/-- the row c's multiples by m added to the first k other rows -/
def clr (m : Nat → F) (w : Mx) (c k : Nat) : Mx := fun i j => if i < k ∧ i ≠ c then w i j + w c j * m i else w i j
theorem clr_zero (m : Nat → F) (w : Mx) (c : Nat) : clr m w c 0 = w := by funext i j; unfold clr; rw [if_neg (by omega)]
theorem clr_self (m : Nat → F) (w : Mx) (c k j : Nat) : clr m w c k c j = w c j := by unfold clr; rw [if_neg (by omega)]
theorem clr_ge (m : Nat → F) (w : Mx) (c : Nat) {k i : Nat} (h : k ≤ i) (j : Nat) : clr m w c k i j = w i j := by unfold clr; rw [if_neg (by omega)]
theorem clr_lt (m : Nat → F) (w : Mx) (c : Nat) {k i : Nat} (h : i < k) (hc : i ≠ c) (j : Nat) : clr m w c k i j = w i j + w c j * m i := by unfold clr; rw [if_pos ⟨h, hc⟩]
theorem clr_succ_ne (m : Nat → F) (w : Mx) (c : Nat) {k i : Nat} (h : i ≠ k) (j : Nat) : clr m w c (k + 1) i j = clr m w c k i j := by
  unfold clr
  by_cases e : i < k ∧ i ≠ c
  · rw [if_pos e, if_pos ⟨by omega, e.2⟩]
  · rw [if_neg e, if_neg (by omega)]
theorem clr_succ_col (m : Nat → F) (w : Mx) (c : Nat) : clr m w c (c + 1) = clr m w c c := by
  funext i j
  unfold clr
  by_cases e : i < c ∧ i ≠ c
  · rw [if_pos e, if_pos ⟨by omega, e.2⟩]
  · rw [if_neg e, if_neg (by omega)]
theorem rowEq_clr {n N : Nat} (m : Nat → F) (w : Mx) {c : Nat} (hc : c < n) : ∀ k, k ≤ n → RowEq n N (clr m w c k) w
  | 0, _ => by rw [clr_zero]; exact RowEq.refl n N w
  | k + 1, h => by
    refine RowEq.trans ?_ (rowEq_clr m w hc k (by omega))
    by_cases e : k = c
    · subst e; rw [clr_succ_col]; exact RowEq.refl _ _ _
    · exact rowEq_add k c (m k) (by omega) hc e (fun i _ hi j _ => clr_succ_ne m w c hi j) fun j _ => by
        rw [clr_lt m w c (by omega) e, clr_ge m w c (Nat.le_refl k), clr_self]

/-! ### Gauss and Jordan -/
/-- the first c columns are those of a diagonal -/
structure Gj (n c : Nat) (w v : Mx) : Prop where
  eqv : RowEq n (2 * n) w v
  off : ∀ j, j < c → ∀ r, r < n → r ≠ j → w r j = 0
  dia : ∀ j, j < c → w j j ≠ 0
/-- a matrix, and the identity beside it -/
def wide (n : Nat) (a : Mx) : Mx := fun r j => if j < n then a r j else dlt r (j - n)
theorem Gj.start (n : Nat) (v : Mx) : Gj n 0 v v := ⟨RowEq.refl _ _ _, fun j h => absurd h (Nat.not_lt_zero j), fun j h => absurd h (Nat.not_lt_zero j)⟩
theorem Gj.congr {n c : Nat} {w w' v : Mx} (h : Gj n c w v) (e : EqM n (2 * n) w' w) (hc : c ≤ n) : Gj n c w' v :=
  ⟨(RowEq.of_eq e).trans h.eqv, fun j hj r hr hne => by rw [e r j hr (by omega)]; exact h.off j hj r hr hne, fun j hj => by rw [e j j (by omega) (by omega)]; exact h.dia j hj⟩
theorem kerW {n : Nat} {w v : Mx} (h : RowEq n (2 * n) w v) (x : Nat → F) : (∀ r, r < n → app (2 * n) w x r = 0) ↔ (∀ r, r < n → app (2 * n) v x r = 0) := h x
theorem app_two (n : Nat) (w : Mx) (x : Nat → F) (r : Nat) : app (2 * n) w x r = (sumF n fun j => w r j * x j) + sumF n fun j => w r (n + j) * x (n + j) := by
  rw [show 2 * n = n + n by omega]; exact sumF_append n n _
theorem app_wide (n : Nat) (a : Mx) (x : Nat → F) (r : Nat) (hr : r < n) : app (2 * n) (wide n a) x r = app n a x r + x (n + r) := by
  rw [app_two]
  congr 1
  · exact sumF_congr fun j hj => by rw [wide, if_pos hj]
  · rw [sumF_congr (g := fun j => dlt r j * x (n + j)) fun j _ => by rw [wide, if_neg (by omega), Nat.add_sub_cancel_left]]
    exact sumF_dlt_left (fun j => x (n + j)) hr
/-- what a matrix does and what another one does: the other one's inverse -/
theorem inv_of_iff {n : Nat} {a g : Mx} (h : ∀ x y : Nat → F, (∀ r, r < n → app n a x r = y r) ↔ (∀ r, r < n → x r = app n g y r)) : IsInv n a g := by
  constructor
  · intro r c hr hc
    have := (h (fun j => g j c) (fun j => dlt j c)).2 (fun q hq => by
      show _ = sumF n fun j => g q j * dlt j c
      rw [sumF_dlt_right (fun j => g q j) hc])
    exact this r hr
  · intro r c hr hc
    have := (h (fun j => dlt j c) (fun j => a j c)).1 (fun q hq => by
      show (sumF n fun j => a q j * dlt j c) = _
      rw [sumF_dlt_right (fun j => a q j) hc])
    exact (this r hr).symm
theorem Gj.done {n : Nat} {a w : Mx} (h : Gj n n w (wide n a)) : IsInv n a fun r c => w r (n + c) * F.inv (w r r) := by
  refine inv_of_iff fun x y => ?_
  have key := kerW h.eqv fun j => if j < n then x j else y (j - n)
  have hw : ∀ r, r < n → app (2 * n) (wide n a) (fun j => if j < n then x j else y (j - n)) r = app n a x r + y r := fun r hr => by
    rw [app_wide n a _ r hr, if_neg (by omega), Nat.add_sub_cancel_left]
    congr 1
    exact sumF_congr fun j hj => by dsimp only; rw [if_pos hj]
  have hv : ∀ r, r < n → app (2 * n) w (fun j => if j < n then x j else y (j - n)) r = w r r * (x r + app n (fun r c => w r (n + c) * F.inv (w r r)) y r) := fun r hr => by
    rw [app_two]
    have e1 : (sumF n fun j => w r j * (if j < n then x j else y (j - n))) = w r r * x r := by
      rw [sumF_one r hr fun i hi hne => by rw [h.off i hi r hr (Ne.symm hne), F.zero_mul], if_pos hr]
    have e2 : (sumF n fun j => w r (n + j) * (if n + j < n then x (n + j) else y (n + j - n))) = w r r * app n (fun r c => w r (n + c) * F.inv (w r r)) y r := by
      unfold app
      rw [← sumF_mul]
      refine sumF_congr fun j _ => ?_
      dsimp only
      rw [if_neg (by omega), Nat.add_sub_cancel_left, F.mul_comm (w r (n + j)) (F.inv _), F.mul_assoc, ← F.mul_assoc, F.mul_inv (h.dia r hr), F.one_mul]
    rw [e1, e2, F.mul_add]
  constructor
  · intro hx r hr
    have := key.2 (fun r hr => by rw [hw r hr, hx r hr, F.add_self]) r hr
    rw [hv r hr] at this
    exact F.add_eq_zero.1 ((F.mul_eq_zero.1 this).resolve_left (h.dia r hr))
  · intro hx r hr
    have := key.1 (fun r hr => by rw [hv r hr, ← hx r hr, F.add_self, F.mul_zero]) r hr
    rw [hw r hr] at this
    exact F.add_eq_zero.1 this
theorem no_inv_of_ker {n : Nat} {a : Mx} {x : Nat → F} (hx : ∀ r, r < n → app n a x r = 0) (k : Nat) (hk : k < n) (h0 : x k ≠ 0) : ¬ ∃ g, IsInv n a g := by
  rintro ⟨g, hg⟩
  have e : app n (mmul n g a) x k = app n g (app n a x) k := by
    unfold app mmul
    rw [sumF_congr (g := fun j => sumF n fun i => g k i * a i j * x j) fun j _ => (sumF_mul_right n _ _).symm, sumF_comm]
    refine sumF_congr fun i _ => ?_
    rw [← sumF_mul]
    exact sumF_congr fun j _ => F.mul_assoc _ _ _
  have e1 : app n (mmul n g a) x k = x k := by
    unfold app
    rw [sumF_congr (g := fun j => dlt k j * x j) fun j hj => by rw [hg.left k j hk hj]]
    exact sumF_dlt_left x hk
  have e2 : app n g (app n a x) k = 0 := sumF_none fun i hi => by rw [hx i hi, F.mul_zero]
  exact h0 (by rw [← e1, e, e2])
theorem Gj.kernel {n c : Nat} {a w : Mx} (h : Gj n c w (wide n a)) (hc : c < n) (hp : ∀ p, c ≤ p → p < n → w p c = 0) : ∃ x : Nat → F, (∀ r, r < n → app n a x r = 0) ∧ ∃ k, k < n ∧ x k ≠ 0 := by
  have hk : ∀ r, r < n → app (2 * n) w (fun j => if j < c then w j c * F.inv (w j j) else if j = c then 1 else 0) r = 0 := fun r hr => by
    have hz : ∀ j, c < j → (fun j => if j < c then w j c * F.inv (w j j) else if j = c then (1 : F) else 0) j = 0 := fun j hj => by
      show (if j < c then w j c * F.inv (w j j) else if j = c then (1 : F) else 0) = 0
      rw [if_neg (by omega), if_neg (by omega)]
    unfold app
    rw [show 2 * n = c + (1 + (2 * n - c - 1)) by omega, sumF_append, sumF_append, sumF_succ, sumF_zero, F.zero_add]
    rw [sumF_none (n := 2 * n - c - 1) fun i _ => by rw [hz (c + (1 + i)) (by omega), F.mul_zero], F.add_zero]
    dsimp only
    rw [Nat.add_zero, if_neg (Nat.lt_irrefl c), if_pos rfl, F.mul_one]
    by_cases hrc : r < c
    · rw [sumF_one r hrc fun i hi hne => by rw [h.off i hi r hr (Ne.symm hne), F.zero_mul], if_pos hrc, F.mul_left_comm, F.mul_inv (h.dia r hrc), F.mul_one, F.add_self]
    · rw [sumF_none fun i hi => by rw [h.off i hi r hr (by omega), F.zero_mul], hp r (by omega) hr, F.add_zero]
  refine ⟨fun j => if j < c then w j c * F.inv (w j j) else if j = c then 1 else 0, fun r hr => ?_, c, hc, ?_⟩
  · have := (kerW h.eqv _).1 hk r hr
    rw [app_wide n a _ r hr, if_neg (by omega), if_neg (by omega), F.add_zero] at this
    exact this
  · show (if c < c then _ else if c = c then (1 : F) else 0) ≠ 0
    rw [if_neg (Nat.lt_irrefl c), if_pos rfl]
    exact F.one_ne_zero
theorem Gj.singular {n c : Nat} {a w : Mx} (h : Gj n c w (wide n a)) (hc : c < n) (hp : ∀ p, c ≤ p → p < n → w p c = 0) : ¬ ∃ g, IsInv n a g := by
  obtain ⟨x, hx, k, hk, h0⟩ := h.kernel hc hp
  exact no_inv_of_ker hx k hk h0
/-- a column more: the row c has a number of the column c, those of the other rows become 0 -/
theorem Gj.clear {n c : Nat} {w v : Mx} (m : Nat → F) (hc : c < n) (he : RowEq n (2 * n) w v) (h1 : ∀ j, j < c → ∀ r, r < n → r ≠ j → w r j = 0) (h2 : ∀ j, j < c → w j j ≠ 0) (h3 : w c c ≠ 0) (hm : ∀ i, i < n → i ≠ c → w i c + w c c * m i = 0) : Gj n (c + 1) (clr m w c n) v := by
  refine ⟨(rowEq_clr m w hc n (Nat.le_refl n)).trans he, fun j hj r hr hne => ?_, fun j hj => ?_⟩
  · by_cases e : r = c
    · subst e; rw [clr_self]; exact h1 j (by omega) r hr hne
    · rw [clr_lt m w c hr e]
      by_cases e2 : j = c
      · subst e2; exact hm r hr e
      · rw [h1 j (by omega) r hr hne, h1 j (by omega) c hc (Ne.symm e2), F.zero_mul, F.add_zero]
  · by_cases e : j = c
    · subst e; rw [clr_self]; exact h3
    · rw [clr_lt m w c (by omega) e, h1 j (by omega) c hc (Ne.symm e), F.zero_mul, F.add_zero]; exact h2 j (by omega)
/-- the row p added to the row c, where p is another one -/
def piv (u : Mx) (c p : Nat) : Mx := fun i j => if i = c ∧ p ≠ c then u c j + u p j * 1 else u i j
/-- the row c times the inverse of its number of the column c -/
def nrm (u : Mx) (c : Nat) : Mx := fun i j => if i = c then F.inv (u c c) * u c j else u i j
theorem piv_self (u : Mx) (c : Nat) : piv u c c = u := by funext i j; unfold piv; rw [if_neg (by omega)]
theorem piv_row {u : Mx} {c p : Nat} (h : p ≠ c) (j : Nat) : piv u c p c j = u c j + u p j * 1 := by unfold piv; rw [if_pos ⟨rfl, h⟩]
theorem piv_ne (u : Mx) {c p i : Nat} (h : i ≠ c) (j : Nat) : piv u c p i j = u i j := by unfold piv; rw [if_neg (by omega)]
theorem nrm_row (u : Mx) (c j : Nat) : nrm u c c j = F.inv (u c c) * u c j := if_pos rfl
theorem nrm_ne (u : Mx) {c i : Nat} (h : i ≠ c) (j : Nat) : nrm u c i j = u i j := if_neg h
/-- .. and the diagonal's are 1 -/
structure Gj1 (n c : Nat) (w v : Mx) : Prop where
  gj : Gj n c w v
  one : ∀ j, j < c → w j j = 1
theorem Gj1.start (n : Nat) (v : Mx) : Gj1 n 0 v v := ⟨Gj.start n v, fun j h => absurd h (Nat.not_lt_zero j)⟩
theorem piv_at {n c p : Nat} {u v : Mx} (h : Gj n c u v) (hp : c ≤ p) (hpn : p < n) (hz : ∀ q, c ≤ q → q < p → u q c = 0) : piv u c p c c = u p c := by
  by_cases e : p = c
  · subst e; rw [piv_self]
  · rw [piv_row e, hz c (Nat.le_refl c) (by omega), F.zero_add, F.mul_one]
theorem Gj1.step {n c p : Nat} {u v : Mx} (h : Gj1 n c u v) (hc : c < n) (hp : c ≤ p) (hpn : p < n) (hz : ∀ q, c ≤ q → q < p → u q c = 0) (h0 : u p c ≠ 0) :
    Gj1 n (c + 1) (clr (fun i => nrm (piv u c p) c i c) (nrm (piv u c p) c) c n) v := by
  have hpv := piv_at h.gj hp hpn hz
  have e1 : RowEq n (2 * n) (piv u c p) u := by
    by_cases e : p = c
    · subst e; rw [piv_self]; exact RowEq.refl _ _ _
    · exact rowEq_add c p 1 hc hpn (Ne.symm e) (fun i _ hi j _ => piv_ne u hi j) fun j _ => piv_row e j
  have e2 : RowEq n (2 * n) (nrm (piv u c p) c) (piv u c p) := rowEq_scale c (F.inv (piv u c p c c)) (F.inv_ne_zero (by rw [hpv]; exact h0)) (fun i _ hi j _ => nrm_ne _ hi j) fun j _ => nrm_row _ c j
  have h3 : nrm (piv u c p) c c c = 1 := by rw [nrm_row, hpv]; exact F.inv_mul h0
  have hrow : ∀ j, j < c → nrm (piv u c p) c c j = 0 := fun j hj => by
    rw [nrm_row]
    have : piv u c p c j = 0 := by
      by_cases e : p = c
      · subst e; rw [piv_self]; exact h.gj.off j hj p hpn (by omega)
      · rw [piv_row e, h.gj.off j hj c hc (by omega), h.gj.off j hj p hpn (by omega), F.zero_mul, F.add_zero]
    rw [this, F.mul_zero]
  have hoth : ∀ i j, i ≠ c → nrm (piv u c p) c i j = u i j := fun i j hi => by rw [nrm_ne _ hi, piv_ne u hi]
  refine ⟨Gj.clear _ hc ((e2.trans e1).trans h.gj.eqv) (fun j hj r hr hne => ?_) (fun j hj => ?_) (by rw [h3]; exact F.one_ne_zero) (fun i _ _ => by rw [h3, F.one_mul, F.add_self]), fun j hj => ?_⟩
  · by_cases e : r = c
    · subst e; exact hrow j hj
    · rw [hoth r j e]; exact h.gj.off j hj r hr hne
  · rw [hoth j j (by omega)]; exact h.gj.dia j hj
  · by_cases e : j = c
    · subst e; rw [clr_self]; exact h3
    · rw [clr_lt _ _ c (by omega) e, hrow j (by omega), F.zero_mul, F.add_zero, hoth j j e]; exact h.one j (by omega)
theorem Gj1.done {n : Nat} {a w : Mx} (h : Gj1 n n w (wide n a)) : IsInv n a fun r c => w r (n + c) :=
  h.gj.done.congr (EqM.refl _ _ _) fun r c hr _ => by dsimp only; rw [h.one r hr, F.inv_one, F.mul_one]
/-- two rows for each other -/
def swp (u : Mx) (c p : Nat) : Mx := fun i j => if i = c then u p j else if i = p then u c j else u i j
theorem Gj.swap {n c p : Nat} {u v : Mx} (h : Gj n c u v) (hc : c < n) (hp : c ≤ p) (hpn : p < n) (h0 : u p c ≠ 0) :
    Gj n (c + 1) (clr (fun i => swp u c p i c * F.inv (swp u c p c c)) (swp u c p) c n) v := by
  have e0 : ∀ j, swp u c p c j = u p j := fun j => if_pos rfl
  have e1 : ∀ j, swp u c p p j = u c j := fun j => by
    unfold swp
    by_cases e : p = c
    · subst e; rw [if_pos rfl]
    · rw [if_neg e, if_pos rfl]
  have e2 : ∀ i j, i ≠ c → i ≠ p → swp u c p i j = u i j := fun i j a b => by unfold swp; rw [if_neg a, if_neg b]
  refine Gj.clear _ hc ((rowEq_swap c p hc hpn (fun i _ a b j _ => e2 i j a b) (fun j _ => e0 j) fun j _ => e1 j).trans h.eqv) (fun j hj r hr hne => ?_) (fun j hj => ?_) (by rw [e0]; exact h0) (fun i _ _ => ?_)
  · by_cases a : r = c
    · subst a; rw [e0]; exact h.off j hj p hpn (by omega)
    · by_cases b : r = p
      · subst b; rw [e1]; exact h.off j hj c hc (by omega)
      · rw [e2 r j a b]; exact h.off j hj r hr hne
  · rw [e2 j j (by omega) (by omega)]; exact h.dia j hj
  · rw [F.mul_left_comm, e0, F.mul_inv h0, F.mul_one, F.add_self]
/-- a least number -/
theorem least_of {P : Nat → Prop} [DecidablePred P] {a b : Nat} (hab : a ≤ b) (hb : P b) : ∃ p, a ≤ p ∧ p ≤ b ∧ P p ∧ ∀ q, a ≤ q → q < p → ¬ P q := by
  induction h : b - a generalizing a with
  | zero => exact ⟨b, by omega, Nat.le_refl _, hb, fun q h1 h2 => by omega⟩
  | succ d ih =>
    by_cases ha : P a
    · exact ⟨a, Nat.le_refl _, hab, ha, fun q h1 h2 => by omega⟩
    · obtain ⟨p, h1, h2, h3, h4⟩ := ih (a := a + 1) (by omega) (by omega)
      exact ⟨p, by omega, h2, h3, fun q h5 h6 => by
        by_cases e : q = a
        · subst e; exact ha
        · exact h4 q (by omega) h6⟩
/-- a matrix that makes nothing but 0 to 0 has an inverse -/
theorem inv_of_ker {n : Nat} {a : Mx} (h : ∀ x, (∀ r, r < n → app n a x r = 0) → ∀ j, j < n → x j = 0) : ∃ g, IsInv n a g := by
  have key : ∀ c, c ≤ n → ∃ w, Gj1 n c w (wide n a) := by
    intro c
    induction c with
    | zero => intro _; exact ⟨_, Gj1.start n _⟩
    | succ c ih =>
      intro hc
      obtain ⟨w, hw⟩ := ih (by omega)
      by_cases e : ∃ p, c ≤ p ∧ p < n ∧ w p c ≠ 0
      · obtain ⟨p, h1, h2, h3⟩ := e
        obtain ⟨q, g1, g2, g3, g4⟩ := least_of (P := fun q => w q c ≠ 0) h1 h3
        exact ⟨_, hw.step (by omega) g1 (by omega) (fun i a b => Decidable.not_not.1 (g4 i a b)) g3⟩
      · have hk : ∀ p, c ≤ p → p < n → w p c = 0 := fun p h1 h2 => Decidable.not_not.1 fun h3 => e ⟨p, h1, h2, h3⟩
        exfalso
        obtain ⟨x, hx, k, hkn, h0⟩ := hw.gj.kernel (by omega) hk
        exact h0 (h x hx k hkn)
  obtain ⟨w, hw⟩ := key n (Nat.le_refl n)
  exact ⟨_, hw.done⟩
end Go.Proofs.Ytbepadepepoilaa
