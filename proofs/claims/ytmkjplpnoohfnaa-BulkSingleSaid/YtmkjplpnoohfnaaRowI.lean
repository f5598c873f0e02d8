/- Rows whose numbers are turned, one behind the other. -/
import Derived.Test.YtmkjplpnoohfnaaRowH
import Derived.Test.YtmkjplpnoohfnaaMatL
namespace Go.Proofs.Ytmkjplpnoohfnaa
open Go.RowKit
set_option linter.unusedVariables false
/-- rows below i are turned by h; of the row i the first n numbers -/
def rowT (h : Nat → Nat → F → F) (i n a : Nat) (r : Row) : Row := (r.1, r.2.1, tab r.2.2.length fun x => if a < i ∨ a = i ∧ x < n then h a x (r.2.2.getD x 0) else r.2.2.getD x 0)
def rowsT (rs : List Row) (h : Nat → Nat → F → F) (i n : Nat) : List Row := rs.mapIdx (rowT h i n)
/-- all rows turned -/
def mapR (h : Nat → Nat → F → F) (ls : List (List F)) : List (List F) := ls.mapIdx fun a l => tab l.length fun x => h a x (l.getD x 0)
theorem length_mapR (h : Nat → Nat → F → F) (ls : List (List F)) : (mapR h ls).length = ls.length := List.length_mapIdx ..
theorem length_rowsT (rs : List Row) (h : Nat → Nat → F → F) (i n : Nat) : (rowsT rs h i n).length = rs.length := List.length_mapIdx ..
theorem rowV_rowT (h : Nat → Nat → F → F) (i n a : Nat) (r : Row) : rowV (rowT h i n a r) = rowV r := by unfold rowV rowT; rw [length_tab]
theorem vals_rowsT (rs : List Row) (h : Nat → Nat → F → F) (i n : Nat) : vals (rowsT rs h i n) = vals rs := by
  refine List.ext_getElem? fun a => ?_
  unfold vals rowsT
  rw [List.getElem?_map, List.getElem?_mapIdx, List.getElem?_map]
  cases rs[a]? with
  | none => rfl
  | some r => show some (rowV (rowT h i n a r)) = some (rowV r); rw [rowV_rowT]
theorem rowsT_zero (rs : List Row) (h : Nat → Nat → F → F) : rowsT rs h 0 0 = rs := by
  refine List.ext_getElem? fun a => ?_
  unfold rowsT
  rw [List.getElem?_mapIdx]
  cases rs[a]? with
  | none => rfl
  | some r =>
    show some (rowT h 0 0 a r) = some r
    unfold rowT
    rw [show (tab r.2.2.length fun x => if a < 0 ∨ a = 0 ∧ x < 0 then h a x (r.2.2.getD x 0) else r.2.2.getD x 0) = r.2.2 from (tab_congr fun x _ => if_neg (by omega)).trans (tab_getD _)]
theorem rowsT_at {rs : List Row} {i : Nat} {r : Row} (e : rs[i]? = some r) (h : Nat → Nat → F → F) (a n : Nat) : (rowsT rs h a n)[i]? = some (rowT h a n i r) := by
  unfold rowsT
  rw [List.getElem?_mapIdx, e]; rfl
theorem rowsT_next (rs : List Row) (h : Nat → Nat → F → F) (i n : Nat) (hn : ∀ r, rs[i]? = some r → ∀ x, n ≤ x → x < r.2.2.length → h i x (r.2.2.getD x 0) = r.2.2.getD x 0) : rowsT rs h i n = rowsT rs h (i + 1) 0 := by
  refine List.ext_getElem? fun a => ?_
  unfold rowsT
  rw [List.getElem?_mapIdx, List.getElem?_mapIdx]
  cases e : rs[a]? with
  | none => rfl
  | some r =>
    show some (rowT h i n a r) = some (rowT h (i + 1) 0 a r)
    unfold rowT
    rw [tab_congr fun x hx => ?_]
    by_cases e1 : a < i
    · rw [if_pos (.inl e1), if_pos (by omega)]
    · by_cases e2 : a = i
      · subst e2
        rw [if_pos (show a < a + 1 ∨ a = a + 1 ∧ x < 0 by omega)]
        by_cases e3 : x < n
        · rw [if_pos (.inr ⟨rfl, e3⟩)]
        · rw [if_neg (by omega), hn r e x (by omega) hx]
      · rw [if_neg (by omega), if_neg (by omega)]
theorem rowsT_next_full {rs : List Row} (h : Nat → Nat → F → F) {i n : Nat} (hn : ∀ r, rs[i]? = some r → r.2.2.length ≤ n) : rowsT rs h i n = rowsT rs h (i + 1) 0 :=
  rowsT_next rs h i n fun r hr x h1 h2 => by have := hn r hr; omega
theorem rowsT_set {rs : List Row} {i n : Nat} {r : Row} (e : rs[i]? = some r) (h : Nat → Nat → F → F) (hn : n < r.2.2.length) :
    (rowsT rs h i n).set i (r.1, r.2.1, (rowT h i n i r).2.2.set n (h i n (r.2.2.getD n 0))) = rowsT rs h i (n + 1) := by
  have hi : i < rs.length := by
    rcases Nat.lt_or_ge i rs.length with h1 | h1
    · exact h1
    · rw [List.getElem?_eq_none h1] at e; cases e
  refine List.ext_getElem? fun a => ?_
  by_cases e1 : i = a
  · subst e1
    rw [List.getElem?_set_self (by rw [length_rowsT]; exact hi), rowsT_at e]
    unfold rowT
    simp only [set_tab]
    refine congrArg (fun q => some (r.1, r.2.1, q)) (tab_congr fun x hx => ?_)
    by_cases e : x = n
    · subst e; simp
    · by_cases e2 : x < n
      · have e3 : x < n + 1 := by omega
        simp [e, e2, e3]
      · have e3 : ¬ x < n + 1 := by omega
        simp [e, e2, e3]
  · rw [List.getElem?_set_ne e1]
    unfold rowsT
    rw [List.getElem?_mapIdx, List.getElem?_mapIdx]
    cases rs[a]? with
    | none => rfl
    | some s =>
      show some (rowT h i n a s) = some (rowT h i (n + 1) a s)
      unfold rowT
      rw [tab_congr fun x hx => ?_]
      by_cases e2 : a < i
      · rw [if_pos (by omega), if_pos (by omega)]
      · rw [if_neg (by omega), if_neg (by omega)]
theorem lsts_rowsT (rs : List Row) (h : Nat → Nat → F → F) (i : Nat) (hi : ∀ a r, rs[a]? = some r → i ≤ a → ∀ x, x < r.2.2.length → h a x (r.2.2.getD x 0) = r.2.2.getD x 0) : lsts (rowsT rs h i 0) = mapR h (lsts rs) := by
  refine List.ext_getElem? fun a => ?_
  unfold lsts rowsT mapR
  rw [List.getElem?_map, List.getElem?_mapIdx, List.getElem?_mapIdx, List.getElem?_map]
  cases e : rs[a]? with
  | none => rfl
  | some r =>
    show some (rowT h i 0 a r).2.2 = some _
    unfold rowT
    refine congrArg some (tab_congr fun x hx => ?_)
    by_cases e2 : a < i
    · rw [if_pos (.inl e2)]
    · rw [if_neg (by omega), hi a r e (by omega) x hx]
theorem lsts_rowsT_all {rs : List Row} (h : Nat → Nat → F → F) {i : Nat} (hi : rs.length ≤ i) : lsts (rowsT rs h i 0) = mapR h (lsts rs) :=
  lsts_rowsT rs h i fun a r e h1 => by rw [List.getElem?_eq_none (by omega)] at e; cases e
theorem getD_mapR {h : Nat → Nat → F → F} {ls : List (List F)} {a : Nat} (ha : a < ls.length) : (mapR h ls).getD a [] = tab (ls.getD a []).length fun x => h a x ((ls.getD a []).getD x 0) := by
  unfold mapR
  rw [List.getD_eq_getElem?_getD, List.getElem?_mapIdx, List.getElem?_eq_getElem ha, List.getD_eq_getElem?_getD, List.getElem?_eq_getElem ha]; rfl
theorem lenAt_mapR (h : Nat → Nat → F → F) (ls : List (List F)) (a : Nat) : lenAt (mapR h ls) a = lenAt ls a := by
  unfold lenAt
  rcases Nat.lt_or_ge a ls.length with e | e
  · rw [getD_mapR e, length_tab]
  · rw [List.getD_eq_getElem?_getD, List.getElem?_eq_none (by rw [length_mapR]; exact e), List.getD_eq_getElem?_getD, List.getElem?_eq_none e]
end Go.Proofs.Ytmkjplpnoohfnaa
