/- Locators of points, in plain Lean: their roots, their top. No program in sight. -/
import Derived.Test.YtmcamamfpefffaaGau
namespace Go.Proofs.Ytmcamamfpefffaa
set_option linter.unusedVariables false
/-- the locator of the first i points -/
def locN (pts : List F) : Nat → List F
  | 0 => [1]
  | i + 1 => norm (pmul (locN pts i) [pts.getD i 0, 1])
theorem norm_lin (a : F) : norm [a, 1] = [a, 1] := norm_self_of fun _ => by
  show ([a, 1] : List F).getD 1 0 ≠ 0
  exact F.one_ne_zero
theorem locN_spec (pts : List F) : ∀ i, (locN pts i).length = i + 1 ∧ norm (locN pts i) = locN pts i ∧ (locN pts i).getD i 0 = 1
  | 0 => ⟨rfl, norm_one, rfl⟩
  | i + 1 => by
    obtain ⟨h1, h2, h3⟩ := locN_spec pts i
    have hl : norm (locN pts i) ≠ [] := by rw [h2]; intro e; rw [e] at h1; simp at h1
    have e1 := length_norm_mul hl (q := [pts.getD i 0, 1]) (by rw [norm_lin]; simp)
    rw [h2, norm_lin, h1] at e1
    have e2 : (locN pts (i + 1)).length = i + 1 + 1 := by
      show (norm (pmul (locN pts i) [pts.getD i 0, 1])).length = _
      rw [e1]; simp
    refine ⟨e2, norm_norm _, ?_⟩
    show (cf (norm (pmul (locN pts i) [pts.getD i 0, 1]))).at' (i + 1) = 1
    rw [cf_norm, cf_pmul, top_mul i (b := 1) (lim_list (by omega)) (lim_list (by simp)), at_cf, h3, at_cf, F.one_mul]
    rfl
theorem length_locN (pts : List F) (i : Nat) : (locN pts i).length = i + 1 := (locN_spec pts i).1
theorem eval_lin (a x : F) : eval [a, 1] x = x + a := by
  simp only [eval]
  rw [F.mul_zero, F.add_zero, F.mul_one, F.add_comm]
theorem eval_locN (pts : List F) (x : F) : ∀ i, eval (locN pts (i + 1)) x = eval (locN pts i) x * (x + pts.getD i 0) := fun i => by
  show eval (norm (pmul (locN pts i) [pts.getD i 0, 1])) x = _
  rw [eval_norm, eval_pmul, eval_lin]
theorem eval_locN_zero (pts : List F) (x : F) : eval (locN pts 0) x = 1 := by
  show eval [1] x = 1
  simp only [eval]
  rw [F.mul_zero, F.add_zero]
theorem locN_root (pts : List F) (x : F) : ∀ i, eval (locN pts i) x = 0 ↔ ∃ j, j < i ∧ pts.getD j 0 = x
  | 0 => by
    rw [eval_locN_zero]
    exact ⟨fun h => absurd h F.one_ne_zero, fun ⟨j, h, _⟩ => absurd h (Nat.not_lt_zero j)⟩
  | i + 1 => by
    rw [eval_locN, F.mul_eq_zero, locN_root pts x i, F.add_eq_zero]
    refine ⟨fun h => ?_, fun ⟨j, h1, h2⟩ => ?_⟩
    · rcases h with ⟨j, h1, h2⟩ | h
      · exact ⟨j, by omega, h2⟩
      · exact ⟨i, by omega, h.symm⟩
    · by_cases e : j = i
      · subst e; exact .inr h2.symm
      · exact .inl ⟨j, by omega, h2⟩
/-- the turned one -/
def revN (s : List F) (i : Nat) : List F := (List.range i).map fun j => s.getD (s.length - 1 - j) 0
theorem length_revN (s : List F) (i : Nat) : (revN s i).length = i := by unfold revN; simp
theorem revN_succ (s : List F) (i : Nat) : revN s (i + 1) = revN s i ++ [s.getD (s.length - 1 - i) 0] := by unfold revN; simp [List.range_succ]
theorem revN_reverse (s : List F) : revN s s.length = s.reverse := by
  refine List.ext_getElem? fun i => ?_
  unfold revN
  rw [List.getElem?_map]
  rcases Nat.lt_or_ge i s.length with h | h
  · rw [List.getElem?_range h, List.getElem?_reverse h, Option.map_some, List.getD_eq_getElem?_getD, List.getElem?_eq_getElem (by omega)]; rfl
  · rw [List.getElem?_eq_none (by simpa using h), List.getElem?_eq_none (by simpa using h)]; rfl
end Go.Proofs.Ytmcamamfpefffaa
