/- A matrix' numbers as a list, row by row. -/
import Derived.Test.YtbepadepepoilaaMem
import Derived.Test.YtbepadepepoilaaMat
namespace Go.Proofs.Ytbepadepepoilaa
set_option linter.unusedVariables false
abbrev matV (rows cols : Int) (A : Option Addr) (n c : Nat) : Value := .agg #[.int .i64 rows, .int .i64 cols, .slice A n c]
/-- a matrix' numbers, row by row -/
def matL (rows cols : Nat) (f : Nat → Nat → F) : List F := tab (rows * cols) fun i => f (i / cols) (i % cols)
def matF (cols : Nat) (f : Nat → Nat → F) (i : Nat) : F := f (i / cols) (i % cols)
theorem tab_succ' (n : Nat) (f : Nat → F) : tab (n + 1) f = tab n f ++ [f n] := by simp [tab, List.range_succ]
theorem row_div {cols r c : Nat} (h : c < cols) : (r * cols + c) / cols = r := by rw [Nat.mul_comm, Nat.mul_add_div (by omega), Nat.div_eq_of_lt h, Nat.add_zero]
theorem row_mod {cols r c : Nat} (h : c < cols) : (r * cols + c) % cols = c := by rw [Nat.mul_comm, Nat.mul_add_mod, Nat.mod_eq_of_lt h]
theorem matF_at {cols : Nat} (f : Nat → Nat → F) {r c : Nat} (h : c < cols) : matF cols f (r * cols + c) = f r c := by
  unfold matF
  rw [row_div h, row_mod h]
theorem length_matL (r c : Nat) (f : Nat → Nat → F) : (matL r c f).length = r * c := length_tab _ _
theorem row_lt {rows cols r c : Nat} (hr : r < rows) (hc : c < cols) : r * cols + c < rows * cols := by
  have : (r + 1) * cols ≤ rows * cols := Nat.mul_le_mul_right _ hr
  rw [Nat.succ_mul] at this
  omega
theorem div_rows {rows cols i : Nat} (h : i < rows * cols) : i / cols < rows ∧ i % cols < cols := by
  have hc : 0 < cols := by
    rcases Nat.eq_zero_or_pos cols with e | e
    · subst e; omega
    · exact e
  exact ⟨Nat.div_lt_of_lt_mul (by rw [Nat.mul_comm]; exact h), Nat.mod_lt _ hc⟩
theorem getD_matL {rows cols : Nat} (f : Mx) {r c : Nat} (hr : r < rows) (hc : c < cols) : (matL rows cols f).getD (r * cols + c) 0 = f r c := by
  rw [matL, getD_tab _ (row_lt hr hc), row_div hc, row_mod hc]
theorem matL_congr {rows cols : Nat} {f g : Mx} (h : EqM rows cols f g) : matL rows cols f = matL rows cols g :=
  tab_congr fun i hi => h _ _ (div_rows hi).1 (div_rows hi).2
theorem matL_inj {rows cols : Nat} {f g : Mx} (h : matL rows cols f = matL rows cols g) : EqM rows cols f g := fun r c hr hc => by
  rw [← getD_matL f hr hc, h, getD_matL g hr hc]
/-- a list as a matrix -/
def mx (cols : Nat) (l : List F) : Mx := fun r c => l.getD (r * cols + c) 0
theorem matL_mx {rows cols : Nat} {l : List F} (h : l.length = rows * cols) : matL rows cols (mx cols l) = l := by
  refine ext_getD (by rw [length_matL, h]) fun i hi => ?_
  rw [length_matL] at hi
  have hd := div_rows hi
  have e : i / cols * cols + i % cols = i := by rw [Nat.mul_comm]; exact Nat.div_add_mod i cols
  rw [← e, getD_matL _ hd.1 hd.2]; rfl
theorem mx_matL {rows cols : Nat} (f : Mx) : EqM rows cols (mx cols (matL rows cols f)) f := fun _ _ hr hc => getD_matL f hr hc
/-- a row of it -/
theorem matL_row {rows cols : Nat} (f : Mx) {r : Nat} (hr : r < rows) : ((matL rows cols f).drop (r * cols)).take cols = tab cols (f r) := by
  have hl : ((matL rows cols f).drop (r * cols)).length = rows * cols - r * cols := by rw [List.length_drop, length_matL]
  have hle : r * cols + cols ≤ rows * cols := by rw [← Nat.succ_mul]; exact Nat.mul_le_mul_right _ hr
  refine ext_getD (by rw [List.length_take, hl, length_tab]; omega) fun i hi => ?_
  rw [List.length_take, hl] at hi
  have hi2 : i < cols := by omega
  rw [getD_tab _ hi2, ← getD_matL f hr hi2]
  rw [List.getD_eq_getElem?_getD, List.getElem?_take, if_pos hi2, List.getElem?_drop, ← List.getD_eq_getElem?_getD]
/-- one number of it turned -/
theorem matL_set {rows cols : Nat} (f : Mx) {r c : Nat} (hr : r < rows) (hc : c < cols) (x : F) : (matL rows cols f).set (r * cols + c) x = matL rows cols fun i j => if i = r ∧ j = c then x else f i j := by
  unfold matL
  rw [set_tab]
  refine tab_congr fun i hi => ?_
  have e : i / cols * cols + i % cols = i := by rw [Nat.mul_comm]; exact Nat.div_add_mod i cols
  dsimp only
  by_cases h : i = r * cols + c
  · rw [if_pos h, if_pos (by rw [h, row_div hc, row_mod hc]; exact ⟨rfl, rfl⟩)]
  · rw [if_neg h, if_neg]
    rintro ⟨h1, h2⟩
    exact h (by rw [← h1, ← h2, e])
theorem matL_zero (rows cols : Nat) : (matL rows cols fun _ _ => 0).map bv = List.replicate (rows * cols) (.int .u8 0) := tab_zero_map _
end Go.Proofs.Ytbepadepepoilaa
