/- Syndromes times a number, in plain Lean: the same locator. -/
import Derived.Test.YtmcamamfpefffaaKcase
namespace Go.Proofs.Ytmcamamfpefffaa
set_option linter.unusedVariables false
/-- syndromes times c -/
def timesN (s : List F) (c : F) (i : Nat) : List F := (List.range i).map fun j => s.getD j 0 * c
theorem length_timesN (s : List F) (c : F) (i : Nat) : (timesN s c i).length = i := by unfold timesN; simp
theorem timesN_succ (s : List F) (c : F) (i : Nat) : timesN s c (i + 1) = timesN s c i ++ [s.getD i 0 * c] := by unfold timesN; simp [List.range_succ]
theorem timesN_at (s : List F) (c : F) (i j : Nat) (h : j < i) : (timesN s c i).getD j 0 = s.getD j 0 * c := by
  unfold timesN
  rw [List.getD_eq_getElem?_getD, List.getElem?_map, List.getElem?_range h]; rfl
theorem getD_reverse {l : List F} {i : Nat} (h : i < l.length) : l.reverse.getD i 0 = l.getD (l.length - 1 - i) 0 := by
  rw [List.getD_eq_getElem?_getD, List.getElem?_reverse h, ← List.getD_eq_getElem?_getD]
theorem cf_times_rev (s : List F) (c : F) : cf (timesN s c s.length).reverse = S.C c * cf s.reverse := S.ext fun i => by
  rw [S.at_C_mul]
  rcases Nat.lt_or_ge i s.length with h | h
  · rw [at_cf, at_cf, getD_reverse (by rw [length_timesN]; exact h), getD_reverse h, length_timesN, timesN_at _ _ _ _ (by omega), F.mul_comm]
  · rw [cf_ge (by simp [length_timesN]; omega), cf_ge (by simp; omega), F.mul_zero]
theorem cf_keyP_times (s known : List F) (c : F) : cf (keyP (timesN s c s.length) known) = S.C c * cf (keyP s known) := by
  unfold keyP
  rw [cf_norm, cf_norm, cf_pmul, cf_pmul, cf_times_rev, S.mul_left_comm]
theorem Loc.scale {P : S} {m e t : Nat} {l : List F} {c : F} (hc : c ≠ 0) : Loc (S.C c * P) m e t l ↔ Loc P m e t l := by
  have key : ∀ i, (cf l * (S.C c * P)).at' i = c * (cf l * P).at' i := fun i => by rw [S.mul_left_comm, S.at_C_mul]
  refine ⟨fun h => ⟨h.len, h.top, fun i h1 h2 => ?_⟩, fun h => ⟨h.len, h.top, fun i h1 h2 => ?_⟩⟩
  · have := h.mid i h1 h2
    rw [key] at this
    rcases F.mul_eq_zero.1 this with q | q
    · exact absurd q hc
    · exact q
  · rw [key, h.mid i h1 h2, F.mul_zero]
theorem Uq.scale {P : S} {m e t : Nat} {c : F} (hc : c ≠ 0) : Uq (S.C c * P) m e t ↔ Uq P m e t := by
  unfold Uq
  simp only [Loc.scale hc]
theorem cf_const (a : F) : cf [a] = S.C a := by rw [cf_cons, cf_nil, S.X_zero, S.add_zero]
theorem drop_scale {q q' : List F} {c : F} {m : Nat} (hc : c ≠ 0) (hq : norm q = q) (hq' : norm q' = q') (h : cf q' = S.C c * cf q) : q'.drop m = norm (pmul (q.drop m) [c]) := by
  have hl : q'.length = q.length := by
    have e1 : q' = norm (pmul q [c]) := by rw [← hq']; exact norm_congr (by rw [h, cf_pmul, cf_const, S.mul_comm])
    by_cases h0 : q = []
    · subst h0; rw [e1]; rfl
    · have h1 : norm q ≠ [] := by rw [hq]; exact h0
      have h2 : norm [c] = [c] := norm_self_of fun _ => hc
      have := length_norm_mul h1 (q := [c]) (by rw [h2]; simp)
      rw [hq, h2] at this
      rw [e1, this]; simp
  have hd : norm (q'.drop m) = q'.drop m := norm_self_of fun hne => by
    have hlt : m < q'.length := Nat.lt_of_not_le fun h => hne (List.drop_eq_nil_of_le h)
    have h9 := norm_top (p := q') (by rw [hq']; intro h; rw [h] at hlt; simp at hlt)
    rw [hq', at_cf] at h9
    rw [at_cf, List.length_drop, List.getD_eq_getElem?_getD, List.getElem?_drop, ← List.getD_eq_getElem?_getD, show m + (q'.length - m - 1) = q'.length - 1 by omega]
    exact h9
  rw [← hd]
  refine norm_congr (S.ext fun i => ?_)
  have e := congrArg (fun f => S.at' f (m + i)) h
  simp only [S.at_C_mul, at_cf] at e
  rw [cf_pmul, cf_const, S.conv_mul_C, at_cf, at_cf, List.getD_eq_getElem?_getD, List.getElem?_drop, ← List.getD_eq_getElem?_getD, List.getD_eq_getElem?_getD (l := q.drop m), List.getElem?_drop, ← List.getD_eq_getElem?_getD, e, F.mul_comm]
theorem KeyCase.scale {s known l o : List F} {er : Int} {c : F} (hc : c ≠ 0) (h : KeyCase s known l o er) : KeyCase (timesN s c s.length) known l (norm (pmul o [c])) er := by
  have hn : norm (pmul ([] : List F) [c]) = [] := rfl
  rcases h with ⟨h1, h2, h3, h4⟩ | ⟨e, h1, h2, h3⟩
  · subst h2 h3
    exact .inl ⟨by rw [length_timesN]; exact h1, rfl, hn, h4⟩
  · refine .inr ⟨e, h1, by rw [length_timesN]; exact h2, ?_⟩
    rw [length_timesN]
    rcases h3 with ⟨h3, t, k1, k2, k3, k4, k5⟩ | ⟨h3, h4, h5, h6⟩
    · refine .inl ⟨h3, t, k1, fun t' h' hu => ?_, ?_, fun l' hl' => ?_, ?_⟩
      · rw [cf_keyP_times] at hu
        exact k2 t' h' ((Uq.scale hc).1 hu)
      · rw [cf_keyP_times]; exact (Loc.scale hc).2 k3
      · rw [cf_keyP_times] at hl'; exact k4 l' ((Loc.scale hc).1 hl')
      · rw [k5]
        exact (drop_scale hc (norm_norm _) (norm_norm _) (by rw [cf_norm, cf_norm, cf_pmul, cf_pmul, cf_keyP_times, S.mul_left_comm])).symm
    · subst h4 h5
      refine .inr ⟨h3, rfl, hn, fun t ht hu => ?_⟩
      rw [cf_keyP_times] at hu
      exact h6 t ht ((Uq.scale hc).1 hu)
theorem KeyCase.none {s known l o : List F} {er : Int} (hb : ¬ ((norm known).length = 0 ∨ s.length + 1 < (norm known).length)) (h : KeyCase (timesN s 0 s.length) known l o er) : l = [1] ∧ o = [] ∧ er = 0 := by
  refine h.eq (.inr ⟨(norm known).length - 1, by omega, by rw [length_timesN]; omega, .inl ⟨rfl, 0, by rw [length_timesN]; omega, fun t' h' => absurd h' (Nat.not_lt_zero _), ⟨rfl, rfl, fun i _ _ => ?_⟩, fun l' hl' => ?_, ?_⟩⟩)
  · rw [cf_keyP_times, S.C_zero, S.zero_mul, S.mul_zero]; rfl
  · obtain ⟨a, rfl⟩ : ∃ a, l' = [a] := List.length_eq_one_iff.1 hl'.len
    have := hl'.top
    rw [show ([a] : List F).getD 0 0 = a from rfl] at this
    rw [this]
  · have : norm (pmul [(1 : F)] (keyP (timesN s 0 s.length) known)) = [] := norm_nil_of (by rw [cf_pmul, cf_keyP_times, S.C_zero, S.zero_mul, S.mul_zero])
    rw [this, List.drop_nil]
theorem KeyCase.bad {s known l o : List F} {er : Int} (hb : (norm known).length = 0 ∨ s.length + 1 < (norm known).length) (h : KeyCase s known l o er) : l = [] ∧ o = [] ∧ er = 1 := h.eq (.inl ⟨hb, rfl, rfl, rfl⟩)
end Go.Proofs.Ytmcamamfpefffaa
