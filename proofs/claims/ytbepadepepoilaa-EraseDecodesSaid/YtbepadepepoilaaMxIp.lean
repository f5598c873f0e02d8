/- What matrix.Invert's loops do to a matrix' numbers: plain facts on lists. -/
import Derived.Test.YtbepadepepoilaaMxK
namespace Go.Proofs.Ytbepadepepoilaa
open Go.RowKit
set_option linter.unusedVariables false
/-- a matrix and the identity beside it, the first r rows of it -/
def iniM (n : Nat) (a : Mx) (r : Nat) : Mx := fun i j => if i < r then wide n a i j else 0
theorem ini_zero (n m : Nat) (a : Mx) : (matL n m fun _ _ => 0) = matL n m (iniM n a 0) := matL_congr fun i j _ _ => by rw [iniM, if_neg (by omega)]
theorem ini_all (n m : Nat) (a : Mx) : matL n m (iniM n a n) = matL n m (wide n a) := matL_congr fun i j hi _ => by rw [iniM, if_pos hi]
def iniC (n : Nat) (a : Mx) (r : Nat) : Mx := fun i j => if i = r ∧ j < n then a r j else iniM n a r i j
theorem copyAt_part {R C r n : Nat} (G : Mx) (q : Nat → F) (hr : r < R) (hn : n ≤ C) : copyAt (matL R C G) (r * C) (tab n q) = matL R C fun i j => if i = r ∧ j < n then q j else G i j := by
  refine ext_getD (by rw [length_copyAt, length_matL, length_matL]) fun i hi => ?_
  rw [length_copyAt, length_matL] at hi
  have hd := div_rows hi
  have e : i / C * C + i % C = i := by rw [Nat.mul_comm]; exact Nat.div_add_mod i C
  rw [copyAt, getD_tab _ (by rw [length_matL]; exact hi), length_tab, matL, getD_tab _ hi, matL, getD_tab _ hi]
  by_cases h : i / C = r ∧ i % C < n
  · have h1 : r * C ≤ i ∧ i < r * C + n := by rw [← h.1]; omega
    rw [if_pos h1, if_pos h, getD_tab _ (by omega)]
    congr 1
    rw [← h.1]; omega
  · rw [if_neg h, if_neg]
    intro h1
    apply h
    obtain ⟨d, rfl⟩ : ∃ d, i = r * C + d := ⟨i - r * C, by omega⟩
    rw [row_div (by omega), row_mod (by omega)]
    exact ⟨rfl, by omega⟩
theorem ini_copy {n m : Nat} (a : Mx) {r : Nat} (hr : r < n) (hm : m = 2 * n) : copyAt (matL n m (iniM n a r)) (r * m) (tab n (a r)) = matL n m (iniC n a r) := copyAt_part _ _ hr (by omega)
theorem ini_set {n m : Nat} (a : Mx) {r : Nat} (hr : r < n) (hm : m = 2 * n) : (matL n m (iniC n a r)).set (r * m + (n + r)) 1 = matL n m (iniM n a (r + 1)) := by
  rw [matL_set _ hr (by omega)]
  refine matL_congr fun i j hi hj => ?_
  unfold iniC iniM wide
  by_cases h : i = r ∧ j = n + r
  · rw [if_pos h, if_pos (by omega), if_neg (by omega), dlt, if_pos (by omega)]
  · rw [if_neg h]
    by_cases h1 : i = r ∧ j < n
    · rw [if_pos h1, if_pos (by omega), if_pos h1.2, h1.1]
    · rw [if_neg h1]
      by_cases h2 : i < r
      · rw [if_pos h2, if_pos (show i < r + 1 by omega)]
      · rw [if_neg h2]
        by_cases h3 : i < r + 1
        · rw [if_pos h3, if_neg (by omega), dlt, if_neg (by omega)]
        · rw [if_neg h3]
theorem piv_add {n m : Nat} (W : Mx) {c p : Nat} (hc : c < n) (hp : p ≠ c) : addAt (matL n m W) (c * m) (tab m (W p)) 1 m = matL n m (piv W c p) := by
  rw [addAt_matL _ _ _ hc]
  refine matL_congr fun i j _ _ => ?_
  unfold piv
  by_cases h : i = c
  · subst h; rw [if_pos rfl, if_pos ⟨rfl, hp⟩]
  · rw [if_neg h, if_neg (fun e => h e.1)]
def nrmT (P : Mx) (c i : Nat) : Mx := fun r j => if r = c ∧ j < i then F.inv (P c c) * P c j else P r j
theorem nrm_zero (n m : Nat) (P : Mx) (c : Nat) : matL n m P = matL n m (nrmT P c 0) := matL_congr fun r j _ _ => by rw [nrmT, if_neg (by omega)]
theorem nrm_all (n m : Nat) (P : Mx) (c : Nat) : matL n m (nrmT P c m) = matL n m (clr (fun i => nrm P c i c) (nrm P c) c 0) := by
  rw [clr_zero]
  exact matL_congr fun r j _ hj => by
    unfold nrmT nrm
    by_cases h : r = c
    · rw [if_pos ⟨h, hj⟩, if_pos h]
    · rw [if_neg (fun e => h e.1), if_neg h]
theorem nrm_get {n m : Nat} (P : Mx) {c i : Nat} (hc : c < n) (hi : i < m) : (matL n m (nrmT P c i)).getD (c * m + i) 0 = P c i := by
  rw [getD_matL _ hc hi, nrmT, if_neg (by omega)]
theorem nrm_set {n m : Nat} (P : Mx) {c i : Nat} (hc : c < n) (hi : i < m) : (matL n m (nrmT P c i)).set (c * m + i) (F.inv (P c c) * P c i) = matL n m (nrmT P c (i + 1)) := by
  rw [matL_set _ hc hi]
  refine matL_congr fun r j _ _ => ?_
  unfold nrmT
  by_cases h : r = c ∧ j = i
  · rw [if_pos h, if_pos ⟨h.1, by omega⟩, h.2]
  · rw [if_neg h]
    by_cases h1 : r = c ∧ j < i
    · rw [if_pos h1, if_pos ⟨h1.1, by omega⟩]
    · rw [if_neg h1, if_neg]
      rintro ⟨h2, h3⟩
      rcases Nat.lt_or_ge j i with h4 | h4
      · exact h1 ⟨h2, h4⟩
      · exact h ⟨h2, by omega⟩
theorem clr_add {n m : Nat} (W : Mx) (mu : Nat → F) {c r : Nat} (hr : r < n) (hrc : r ≠ c) : addAt (matL n m (clr mu W c r)) (r * m) (tab m (W c)) (mu r) m = matL n m (clr mu W c (r + 1)) := by
  rw [addAt_matL _ _ _ hr]
  refine matL_congr fun i j _ _ => ?_
  by_cases h : i = r
  · subst h; rw [if_pos rfl, clr_ge mu W c (Nat.le_refl i), clr_lt mu W c (k := i + 1) (by omega) hrc]
  · rw [if_neg h, clr_succ_ne mu W c h]
theorem clr_row {n m : Nat} (W : Mx) (mu : Nat → F) {c k : Nat} (hc : c < n) {j : Nat} (hj : j < m) : (matL n m (clr mu W c k)).getD (c * m + j) 0 = W c j := by rw [getD_matL _ hc hj, clr_self]
theorem clr_get {n m : Nat} (W : Mx) (mu : Nat → F) {c r : Nat} (hr : r < n) (hc : c < m) : (matL n m (clr mu W c r)).getD (r * m + c) 0 = W r c := by rw [getD_matL _ hr hc, clr_ge mu W c (Nat.le_refl r)]
theorem clr_skip (n m : Nat) (W : Mx) (mu : Nat → F) (c : Nat) : matL n m (clr mu W c c) = matL n m (clr mu W c (c + 1)) := by rw [clr_succ_col]
/-- the rows that are copied at the end -/
def outM (W : Mx) (n r : Nat) : Mx := fun i j => if i < r then W i (n + j) else 0
theorem out_zero (n : Nat) (W : Mx) : (matL n n fun _ _ => 0) = matL n n (outM W n 0) := matL_congr fun i j _ _ => by rw [outM, if_neg (by omega)]
theorem out_all (n : Nat) (W : Mx) : matL n n (outM W n n) = matL n n fun r j => W r (n + j) := matL_congr fun i j hi _ => by rw [outM, if_pos hi]
theorem out_copy {n : Nat} (W : Mx) {r : Nat} (hr : r < n) : copyAt (matL n n (outM W n r)) (r * n) (tab n fun j => W r (n + j)) = matL n n (outM W n (r + 1)) := by
  rw [copyAt_matL _ _ hr]
  refine matL_congr fun i j _ _ => ?_
  unfold outM
  by_cases h : i = r
  · subst h; rw [if_pos rfl, if_pos (by omega)]
  · rw [if_neg h]
    by_cases h2 : i < r
    · rw [if_pos h2, if_pos (by omega)]
    · rw [if_neg h2, if_neg (by omega)]
theorem adds_rows (b B g n m N : Nat) (G A' : Mx) {r s : Nat} (x : F) (hr : r < n) (hs : s < n) (hrs : r ≠ s) (hN : n * m = N) (hNb : N ≤ 131072) (w wx : World) {bs : List (Nat × TypeId × Array Value)} (hst : St w wx B g N N (matL n m G) bs) (hne : ∀ x, x ∈ bs → x.1 ≠ g) (hgw : w.heap.size ≤ g) (hG : GfAt w b)
    (q : Nat → F) (hq : ∀ j, j < m → G s j = q j) (hA : addAt (matL n m G) (r * m) (tab m q) x m = matL n m A') :
    Calls Try.prog 27 #[fp b, .slice (some ⟨g, r * m, none⟩) m (N - r * m), .slice (some ⟨g, s * m, none⟩) m (N - s * m), .int .u8 x.n] wx fun e w' => e = .returned (.tuple #[]) ∧ St w w' B g N N (matL n m A') bs := by
  subst hN
  have h1 : r * m + m ≤ n * m := by rw [← Nat.succ_mul]; exact Nat.mul_le_mul_right _ hr
  have h2 : s * m + m ≤ n * m := by rw [← Nat.succ_mul]; exact Nat.mul_le_mul_right _ hs
  have h3 : s * m + m ≤ r * m ∨ r * m + m ≤ s * m := by
    rcases Nat.lt_or_ge s r with h | h
    · exact .inl (by rw [← Nat.succ_mul]; exact Nat.mul_le_mul_right _ h)
    · exact .inr (by rw [← Nat.succ_mul]; exact Nat.mul_le_mul_right _ (by omega : r + 1 ≤ s))
  have hget : ∀ j, j < m → (matL n m G).getD (s * m + j) 0 = q j := fun j hj => by rw [getD_matL _ hs hj, hq j hj]
  generalize hlr : r * m = lr at *
  generalize hls : s * m = ls at *
  have h := mx_adds b B g (n * m) (n * m) lr (n * m - lr) (matL n m G) (tab m q) (some ⟨g, ls, none⟩) (n * m - ls) x wx (length_matL _ _ _) (by rw [length_tab]; omega) (by rw [length_tab]; omega) (by omega) hst.own
    (fun wr L' hbs ho hk => by
      have hl : L'.length = n * m := by have := ho.1; rw [List.length_map] at this; omega
      exact bs_of_own ho hl h2 (fun j hj => by rw [hk (ls + j) (by rw [length_tab]; omega)]; exact hget j hj) (by omega) (by unfold maxLen; omega))
    (fun wr L' hbs _ _ => hG.below (Beside.under hst.bel hbs hgw hst.bel.size))
  rw [length_tab, hA] at h
  exact h.mono fun e w' ⟨he, ho, hb⟩ => ⟨he, hst.write hb ho hne hgw⟩
def InvR (w : World) (n : Nat) (a : Mx) (e : Ending) (w' : World) : Prop :=
  (∃ v, IsInv n a v ∧ ∃ A' c', e = .returned (.tuple #[matV n n A' (n * n) c', .int .i64 0]) ∧ w'.ownsRow w.heap.size 5 1 (.slice A' (n * n) c') (n * n) ((matL n n v).map bv) ∧ Below w.heap.size w w') ∨
  ((¬ ∃ v, IsInv n a v) ∧ e = .returned (.tuple #[matV 0 0 none 0 0, .int .i64 31]) ∧ Below w.heap.size w w')
end Go.Proofs.Ytbepadepepoilaa
