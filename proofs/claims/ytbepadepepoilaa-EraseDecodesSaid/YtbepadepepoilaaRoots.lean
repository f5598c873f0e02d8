/- Polynomials as functions of their place: so many roots, so they are 0; products over places; Cauchy's rows. No program in sight. -/
import Derived.Test.YtbepadepepoilaaPoly
import Derived.Test.YtbepadepepoilaaMat
namespace Go.Proofs.Ytbepadepepoilaa
set_option linter.unusedVariables false

/-- what is left of p by x + a -/
def sdiv (a : F) : List F → List F
  | [] => []
  | _ :: p => padd p (psmul a (sdiv a p))
theorem length_psmul (a : F) (p : List F) : (psmul a p).length = p.length := by simp [psmul]
theorem length_sdiv (a : F) : ∀ p : List F, (sdiv a p).length = p.length - 1
  | [] => rfl
  | _ :: p => by rw [sdiv, length_padd, length_psmul, length_sdiv a p]; simp only [List.length_cons]; omega
theorem eval_sdiv (a x : F) : ∀ p : List F, eval p x = eval p a + (x + a) * eval (sdiv a p) x
  | [] => by simp only [sdiv, eval]; rw [F.mul_zero, F.add_zero]
  | c :: p => by
    simp only [sdiv, eval]
    rw [eval_padd, eval_psmul, F.add_assoc]
    congr 1
    have ih := eval_sdiv a x p
    generalize eval p x = P at *
    generalize eval p a = Q at *
    generalize eval (sdiv a p) x = s at *
    have e : a * P = a * Q + (x + a) * (a * s) := by rw [ih, F.mul_add, F.mul_left_comm (x + a)]
    rw [F.mul_add, F.add_mul x a P, e, F.add_assoc (x * P), F.add_assoc (a * Q), F.add_self, F.add_zero, F.add_left_comm, F.add_self, F.add_zero]
/-- more roots than its degree: it is 0 everywhere -/
theorem eval_roots : ∀ (xs : List F) (p : List F), p.length ≤ xs.length → xs.Nodup → (∀ x, x ∈ xs → eval p x = 0) → ∀ y, eval p y = 0
  | [], p, h, _, _, y => by
    have : p = [] := List.eq_nil_of_length_eq_zero (by simpa using h)
    subst this; rfl
  | a :: xs, p, h, hn, hr, y => by
    have h0 := hr a (by simp)
    have hn' := List.nodup_cons.1 hn
    have hq := eval_roots xs (sdiv a p) (by rw [length_sdiv]; simp only [List.length_cons] at h; omega) hn'.2 (fun x hx => by
      have := hr x (by simp [hx])
      rw [eval_sdiv a, h0, F.zero_add] at this
      refine (F.mul_eq_zero.1 this).resolve_left fun e => ?_
      have := F.add_eq_zero.1 e
      subst this
      exact hn'.1 hx) y
    rw [eval_sdiv a, h0, hq, F.mul_zero, F.add_zero]
/-- a function that is a polynomial's of at most n numbers -/
def PF (n : Nat) (g : F → F) : Prop := ∃ p : List F, p.length ≤ n ∧ ∀ x, eval p x = g x
theorem PF.zero (n : Nat) : PF n fun _ => 0 := ⟨[], Nat.zero_le _, fun _ => rfl⟩
theorem PF.const (n : Nat) (a : F) : PF (n + 1) fun _ => a := ⟨[a], by simp, fun x => by simp only [eval]; rw [F.mul_zero, F.add_zero]⟩
theorem PF.congr {n : Nat} {g h : F → F} (hg : PF n g) (e : ∀ x, g x = h x) : PF n h := by obtain ⟨p, h1, h2⟩ := hg; exact ⟨p, h1, fun x => (h2 x).trans (e x)⟩
theorem PF.mono {n m : Nat} {g : F → F} (hg : PF n g) (h : n ≤ m) : PF m g := by obtain ⟨p, h1, h2⟩ := hg; exact ⟨p, Nat.le_trans h1 h, h2⟩
theorem PF.add {n : Nat} {g h : F → F} (hg : PF n g) (hh : PF n h) : PF n fun x => g x + h x := by
  obtain ⟨p, h1, h2⟩ := hg
  obtain ⟨q, h3, h4⟩ := hh
  exact ⟨padd p q, by rw [length_padd]; omega, fun x => by rw [eval_padd, h2, h4]⟩
theorem PF.mul {n : Nat} {g : F → F} (a : F) (hg : PF n g) : PF n fun x => a * g x := by
  obtain ⟨p, h1, h2⟩ := hg
  exact ⟨psmul a p, by rw [length_psmul]; exact h1, fun x => by rw [eval_psmul, h2]⟩
theorem PF.lin {n : Nat} {g : F → F} (a : F) (hg : PF n g) : PF (n + 1) fun x => (x + a) * g x := by
  obtain ⟨p, h1, h2⟩ := hg
  refine ⟨padd (0 :: p) (psmul a p), by rw [length_padd, length_psmul]; simp only [List.length_cons]; omega, fun x => ?_⟩
  rw [eval_padd, eval_psmul]
  simp only [eval]
  rw [h2, F.zero_add, F.add_mul]
theorem PF.sum {n : Nat} (m : Nat) {g : Nat → F → F} (hg : ∀ i, i < m → PF n (g i)) : PF n fun x => sumF m fun i => g i x := by
  induction m with
  | zero => exact PF.zero n
  | succ m ih => exact PF.add (ih fun i hi => hg i (by omega)) (hg m (by omega))
/-- x's power -/
theorem PF.pow (l : Nat) : PF (l + 1) fun x => x.pow l := by
  induction l with
  | zero => exact PF.const 0 1
  | succ l ih => exact (PF.lin 0 ih).congr fun x => by rw [F.add_zero]; rfl
theorem PF.roots {n : Nat} {g : F → F} (hg : PF n g) (xs : List F) (hx : xs.length = n) (hn : xs.Nodup) (h : ∀ x, x ∈ xs → g x = 0) (y : F) : g y = 0 := by
  obtain ⟨p, h1, h2⟩ := hg
  rw [← h2]
  exact eval_roots xs p (by omega) hn (fun x hxx => by rw [h2]; exact h x hxx) y

/-! ### products -/
/-- the product over the i < n that t lets in -/
def prodF : Nat → (Nat → Bool) → (Nat → F) → F
  | 0, _, _ => 1
  | n + 1, t, f => if t n then prodF n t f * f n else prodF n t f
theorem prodF_ne_zero {n : Nat} {t : Nat → Bool} {f : Nat → F} (h : ∀ i, i < n → t i = true → f i ≠ 0) : prodF n t f ≠ 0 := by
  induction n with
  | zero => exact F.one_ne_zero
  | succ n ih =>
    rw [prodF]
    have := ih fun i hi => h i (by omega)
    split
    · rename_i e; exact F.mul_ne_zero this (h n (by omega) e)
    · exact this
theorem prodF_zero {n : Nat} {t : Nat → Bool} {f : Nat → F} (k : Nat) (hk : k < n) (ht : t k = true) (h : f k = 0) : prodF n t f = 0 := by
  induction n with
  | zero => omega
  | succ n ih =>
    rw [prodF]
    by_cases e : k = n
    · subst e; rw [if_pos ht, h, F.mul_zero]
    · rw [ih (by omega)]; split
      · rw [F.zero_mul]
      · rfl
theorem prodF_congr {n : Nat} {t t' : Nat → Bool} {f f' : Nat → F} (h : ∀ i, i < n → t i = t' i) (h' : ∀ i, i < n → t i = true → f i = f' i) : prodF n t f = prodF n t' f' := by
  induction n with
  | zero => rfl
  | succ n ih =>
    rw [prodF, prodF, ih (fun i hi => h i (by omega)) (fun i hi => h' i (by omega)), ← h n (by omega)]
    split
    · rename_i e; rw [h' n (by omega) e]
    · rfl
/-- one factor taken out -/
theorem prodF_out {n : Nat} {t : Nat → Bool} {f : Nat → F} (k : Nat) (hk : k < n) (ht : t k = true) : prodF n t f = prodF n (fun i => t i && i != k) f * f k := by
  induction n with
  | zero => omega
  | succ n ih =>
    rw [prodF, prodF]
    by_cases e : k = n
    · subst e
      rw [if_pos ht, if_neg (by simp)]
      congr 1
      exact prodF_congr (fun i hi => by
        have : (i != k) = true := by simp; omega
        rw [this, Bool.and_true]) fun _ _ _ => rfl
    · have e2 : (n != k) = true := by simp; omega
      rw [ih (by omega), e2, Bool.and_true]
      split
      · rw [F.mul_assoc, F.mul_assoc, F.mul_comm (f k)]
      · rfl
def countB : Nat → (Nat → Bool) → Nat
  | 0, _ => 0
  | n + 1, t => countB n t + if t n then 1 else 0
theorem PF.prod (n : Nat) (t : Nat → Bool) (f : Nat → F) : PF (countB n t + 1) fun x => prodF n t fun i => x + f i := by
  induction n with
  | zero => exact PF.const 0 1
  | succ n ih =>
    by_cases e : t n = true
    · refine ((PF.lin (f n) ih).congr fun x => ?_).mono (by rw [countB, if_pos e]; omega)
      rw [prodF, if_pos e, F.mul_comm]
    · refine (ih.congr fun x => ?_).mono (by rw [countB]; omega)
      rw [prodF, if_neg e]
theorem countB_le (n : Nat) (t : Nat → Bool) : countB n t ≤ n := by
  induction n with
  | zero => exact Nat.le_refl _
  | succ n ih => rw [countB]; split <;> omega
theorem countB_lt {n : Nat} {t : Nat → Bool} (k : Nat) (hk : k < n) (h : t k = false) : countB n t + 1 ≤ n := by
  induction n with
  | zero => omega
  | succ n ih =>
    rw [countB]
    by_cases e : k = n
    · subst e; rw [h]; simp; exact countB_le k t
    · have := ih (by omega)
      split <;> omega
/-! ### points -/
theorem of_inj' {a b : Nat} (ha : a < 256) (hb : b < 256) (h : F.of a = F.of b) : a = b := by
  have := congrArg F.n h
  rwa [F.n_of ha, F.n_of hb] at this
theorem of_add_ne' {a b : Nat} (ha : a < 256) (hb : b < 256) (h : a ≠ b) : F.of a + F.of b ≠ 0 := fun e => h (of_inj' ha hb (F.add_eq_zero.1 e))
theorem nodup_of {xs : List Nat} (h : xs.Nodup) (hb : ∀ x, x ∈ xs → x < 256) : (xs.map F.of).Nodup := by
  induction xs with
  | nil => simp
  | cons a xs ih =>
    rw [List.map_cons, List.nodup_cons]
    have h' := List.nodup_cons.1 h
    refine ⟨fun hm => ?_, ih h'.2 fun x hx => hb x (by simp [hx])⟩
    obtain ⟨x, hx, e⟩ := List.mem_map.1 hm
    have := of_inj' (hb x (by simp [hx])) (hb a (by simp)) e
    subst this
    exact h'.1 hx
/-- the number of two points -/
def cau (a b : Nat) : F := F.inv (F.of a + F.of b)
/-- the product of the sums of a point and the first k points, but one -/
def ptp (k x : Nat) : F := prodF k (fun c => c != x) fun c => F.of x + F.of c
theorem ptp_ne_zero {k x : Nat} (hk : k ≤ 256) (hx : x < 256) : ptp k x ≠ 0 :=
  prodF_ne_zero fun i hi ht => of_add_ne' hx (by omega) (by simp at ht; omega)
/-- the polynomial that data stand for -/
def dpoly (k : Nat) (v : Nat → F) (x : F) : F := sumF k fun c => v c * prodF k (fun c' => c' != c) fun c' => x + F.of c'
theorem dpoly_pf (k : Nat) (v : Nat → F) : PF k (dpoly k v) :=
  PF.sum k fun c hc => PF.mul (v c) ((PF.prod k (fun c' => c' != c) F.of).mono (countB_lt c hc (by simp)))
theorem dpoly_low {k : Nat} (v : Nat → F) {x : Nat} (hx : x < k) : dpoly k v (F.of x) = v x * ptp k x := by
  unfold dpoly
  rw [sumF_one x hx fun i hi hne => ?_]
  · rfl
  · rw [prodF_zero x hx (by simp; omega) (F.add_self _), F.mul_zero]
theorem dpoly_high {k : Nat} (v : Nat → F) {x : Nat} (hk : k ≤ x) (hx : x < 256) : dpoly k v (F.of x) = (sumF k fun c => v c * cau x c) * ptp k x := by
  unfold dpoly
  rw [← sumF_mul_right]
  refine sumF_congr fun c hc => ?_
  have hne := of_add_ne' hx (show c < 256 by omega) (by omega)
  rw [F.mul_assoc]
  congr 1
  have e : ptp k x = prodF k (fun c' => c' != c) (fun c' => F.of x + F.of c') * (F.of x + F.of c) := by
    have := prodF_out (n := k) (t := fun _ => true) (f := fun c' => F.of x + F.of c') c hc rfl
    rw [show prodF k (fun i => true && i != c) (fun c' => F.of x + F.of c') = prodF k (fun c' => c' != c) (fun c' => F.of x + F.of c') from prodF_congr (fun i _ => by simp) fun _ _ _ => rfl] at this
    rw [← this]
    exact prodF_congr (fun i hi => by simp; omega) fun _ _ _ => rfl
  rw [e, cau, F.mul_comm (prodF _ _ _), ← F.mul_assoc, F.inv_mul hne, F.one_mul]
/-- the number of the generator -/
def genF (k : Nat) (r c : Nat) : F := if r < k then dlt r c else cau r c
theorem dpoly_gen {k x : Nat} (v : Nat → F) (hk : k ≤ 256) (hx : x < 256) : dpoly k v (F.of x) = app k (genF k) v x * ptp k x := by
  by_cases h : x < k
  · rw [dpoly_low v h]
    congr 1
    unfold app
    rw [sumF_congr (g := fun j => dlt x j * v j) fun j _ => by rw [genF, if_pos h]]
    exact (sumF_dlt_left v h).symm
  · rw [dpoly_high v (by omega) hx]
    congr 1
    exact sumF_congr fun c _ => by rw [genF, if_neg h, F.mul_comm]
/-- of k unlike rows of the generator: what is 0 there is 0 -/
theorem gen_ker {k : Nat} (hk : k ≤ 256) (rows : List Nat) (hl : rows.length = k) (hn : rows.Nodup) (hb : ∀ x, x ∈ rows → x < 256) (v : Nat → F) (h : ∀ x, x ∈ rows → app k (genF k) v x = 0) (c : Nat) (hc : c < k) : v c = 0 := by
  have h0 := (dpoly_pf k v).roots (rows.map F.of) (by simp [hl]) (nodup_of hn hb) (fun x hx => by
    obtain ⟨r, hr, rfl⟩ := List.mem_map.1 hx
    rw [dpoly_gen v hk (hb r hr), h r hr, F.zero_mul]) (F.of c)
  rw [dpoly_low v hc] at h0
  exact (F.mul_eq_zero.1 h0).resolve_right (ptp_ne_zero hk (by omega))
end Go.Proofs.Ytbepadepepoilaa
