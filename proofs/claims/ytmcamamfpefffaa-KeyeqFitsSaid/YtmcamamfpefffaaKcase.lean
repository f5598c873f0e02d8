/- What Solve answers, at any input, in plain Lean. -/
import Derived.Test.YtmcamamfpefffaaKloc
namespace Go.Proofs.Ytmcamamfpefffaa
set_option linter.unusedVariables false
/-- the product of what is known and the turned syndromes -/
def keyP (s known : List F) : List F := norm (pmul (norm known) s.reverse)
def KeyCase (s known l o : List F) (er : Int) : Prop :=
  (((norm known).length = 0 ∨ s.length + 1 < (norm known).length) ∧ l = [] ∧ o = [] ∧ er = 1) ∨
  (∃ e, (norm known).length = e + 1 ∧ e ≤ s.length ∧ ((er = 0 ∧ KeyOk (keyP s known) s.length e l o) ∨ (er = 100 ∧ l = [] ∧ o = [] ∧ KeyMany (keyP s known) s.length e)))
theorem KeyCase.eq {s known l o l' o' : List F} {er er' : Int} (h : KeyCase s known l o er) (h' : KeyCase s known l' o' er') : l = l' ∧ o = o' ∧ er = er' := by
  rcases h with ⟨h1, h2, h3, h4⟩ | ⟨e, h1, h2, h3⟩
  · rcases h' with ⟨k1, k2, k3, k4⟩ | ⟨e', k1, k2, k3⟩
    · exact ⟨h2.trans k2.symm, h3.trans k3.symm, h4.trans k4.symm⟩
    · omega
  · rcases h' with ⟨k1, k2, k3, k4⟩ | ⟨e', k1, k2, k3⟩
    · omega
    · obtain rfl : e = e' := by omega
      rcases h3 with ⟨h3, h4⟩ | ⟨h3, h4, h5, h6⟩ <;> rcases k3 with ⟨k3, k4⟩ | ⟨k3, k4, k5, k6⟩
      · exact ⟨(h4.eq k4).1, (h4.eq k4).2, h3.trans k3.symm⟩
      · exact absurd k6 h4.not_many
      · exact absurd h6 k4.not_many
      · exact ⟨h4.trans k4.symm, h5.trans k5.symm, h3.trans k3.symm⟩
theorem keyP_norm (s known : List F) : norm (pmul (norm known) (norm s.reverse)) = keyP s known := norm_congr (by rw [cf_pmul, cf_pmul, cf_norm s.reverse])
theorem length_pmul_le' : ∀ (p q : List F), (pmul p q).length ≤ p.length + q.length
  | [], q => by simp [pmul]
  | a :: p, q => by
    simp only [pmul]
    rw [length_padd]
    have := length_pmul_le' p q
    simp only [List.length_cons, psmul, List.length_map]
    omega
theorem length_keyP (s known : List F) : (keyP s known).length ≤ (norm known).length + s.length := by
  have h1 := length_norm_le (pmul (norm known) s.reverse)
  have h2 := length_pmul_le' (norm known) s.reverse
  unfold keyP
  simp only [List.length_reverse] at h2
  omega
/-- what is above: numbers from m on -/
def upN (al : List F) (m i : Nat) : List F := (List.range i).map fun j => al.getD (m + j) 0
theorem length_upN (al : List F) (m i : Nat) : (upN al m i).length = i := by unfold upN; simp
theorem upN_succ (al : List F) (m i : Nat) : upN al m (i + 1) = upN al m i ++ [al.getD (m + i) 0] := by unfold upN; simp [List.range_succ]
theorem upN_all (al : List F) (m : Nat) : upN al m (al.length - m) = al.drop m := by
  refine List.ext_getElem? fun i => ?_
  unfold upN
  rw [List.getElem?_map, List.getElem?_drop]
  rcases Nat.lt_or_ge i (al.length - m) with h | h
  · rw [List.getElem?_range h, Option.map_some, List.getD_eq_getElem?_getD, List.getElem?_eq_getElem (by omega)]; rfl
  · rw [List.getElem?_eq_none (by simpa using h), List.getElem?_eq_none (by omega)]; rfl
end Go.Proofs.Ytmcamamfpefffaa
