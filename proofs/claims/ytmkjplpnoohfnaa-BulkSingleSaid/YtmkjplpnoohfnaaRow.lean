/- Slices of slices of the call's own: a spine and rows, each in a block of its own. -/
import Derived.Test.YtmkjplpnoohfnaaKn
namespace Go.Proofs.Ytmkjplpnoohfnaa
open Go.RowKit
/-- a row: where it lies, its capacity, its bytes -/
abbrev Row := Option Addr × Nat × List F
def rowV (r : Row) : Value := .slice r.1 r.2.2.length r.2.1
def vals (rs : List Row) : List Value := rs.map rowV
def lsts (rs : List Row) : List (List F) := rs.map fun r => r.2.2
theorem length_vals (rs : List Row) : (vals rs).length = rs.length := List.length_map ..
theorem length_lsts (rs : List Row) : (lsts rs).length = rs.length := List.length_map ..
def ownR (w : World) (B : Nat) (r : Row) : Prop := w.ownsRow B 5 1 (rowV r) r.2.2.length (r.2.2.map bv)
structure Grid (w : World) (B : Nat) (rs : List Row) : Prop where
  own : ∀ (i : Nat) (r : Row), rs[i]? = some r → ownR w B r
  sep : ∀ (i j : Nat) (r s : Row), rs[i]? = some r → rs[j]? = some s → i ≠ j → ∀ g, (rowV r).ownBlock = some g → (rowV s).ownBlock ≠ some g
theorem Grid.nil (w : World) (B : Nat) : Grid w B [] := ⟨fun i r h => (by simp at h), fun i j r s h => (by simp at h)⟩
theorem Grid.below {w w' : World} {B : Nat} {rs : List Row} (h : Grid w B rs) (hb : Below w.heap.size w w') : Grid w' B rs := ⟨fun i r hr => own_below (h.own i r hr) hb, h.sep⟩
theorem Grid.mono {w : World} {B B' : Nat} {rs : List Row} (h : Grid w B rs) (hB : B' ≤ B) : Grid w B' rs := ⟨fun i r hr => own_mono (h.own i r hr) hB, h.sep⟩
theorem own_block_lt {w : World} {B e : Nat} {v : Value} {n : Nat} {xs : List Value} (h : w.ownsRow B e 1 v n xs) {g : Nat} (hg : v.ownBlock = some g) : B ≤ g ∧ g < w.heap.size := by
  rcases h.2 with ⟨h1, _⟩ | ⟨g', cap, cur, h1, hB, hk, _⟩
  · subst h1; simp [Value.ownBlock] at hg
  · subst h1
    simp only [Value.ownBlock, Option.some.injEq] at hg
    subst hg
    exact ⟨hB, block_lt hk⟩
/-- a row that was made behind all that is known -/
theorem Grid.snoc {w w' : World} {B : Nat} {rs : List Row} (h : Grid w B rs) (hb : Below w.heap.size w w') {r : Row} (hr : ownR w' w.heap.size r) (hB : B ≤ w.heap.size) : Grid w' B (rs ++ [r]) := by
  refine ⟨fun i s hs => ?_, fun i j s t hs ht hij g hg hg' => ?_⟩
  · rcases Nat.lt_or_ge i rs.length with h1 | h1
    · rw [List.getElem?_append_left h1] at hs
      exact own_below (h.own i s hs) hb
    · rw [List.getElem?_append_right h1] at hs
      cases hi : i - rs.length with
      | zero => rw [hi] at hs; simp at hs; subst hs; exact own_mono hr hB
      | succ k => rw [hi] at hs; simp at hs
  · rcases Nat.lt_or_ge i rs.length with h1 | h1
    · rw [List.getElem?_append_left h1] at hs
      have l1 := (own_block_lt (h.own i s hs) hg).2
      rcases Nat.lt_or_ge j rs.length with h2 | h2
      · rw [List.getElem?_append_left h2] at ht
        exact h.sep i j s t hs ht hij g hg hg'
      · rw [List.getElem?_append_right h2] at ht
        cases hi : j - rs.length with
        | zero => rw [hi] at ht; simp at ht; subst ht; have := (own_block_lt hr hg').1; omega
        | succ k => rw [hi] at ht; simp at ht
    · rw [List.getElem?_append_right h1] at hs
      cases hi : i - rs.length with
      | succ k => rw [hi] at hs; simp at hs
      | zero =>
        rw [hi] at hs; simp at hs; subst hs
        have l1 := (own_block_lt hr hg).1
        rcases Nat.lt_or_ge j rs.length with h2 | h2
        · rw [List.getElem?_append_left h2] at ht
          have := (own_block_lt (h.own j t ht) hg').2
          omega
        · rw [List.getElem?_append_right h2] at ht
          cases hj : j - rs.length with
          | zero => omega
          | succ k => rw [hj] at ht; simp at ht
/-- a row is written; the others stay -/
theorem Grid.write {w w' : World} {B : Nat} {rs : List Row} (h : Grid w B rs) {i : Nat} {r : Row} (hr : rs[i]? = some r) {g : Nat} (hg : (rowV r).ownBlock = some g) {l : List F} (hl : l.length = r.2.2.length) (hb : Beside g w w') (ho : ownR w' B (r.1, r.2.1, l)) : Grid w' B (rs.set i (r.1, r.2.1, l)) := by
  have hi : i < rs.length := by
    rcases Nat.lt_or_ge i rs.length with h1 | h1
    · exact h1
    · rw [List.getElem?_eq_none h1] at hr; cases hr
  have hv : rowV (r.1, r.2.1, l) = rowV r := by unfold rowV; rw [hl]
  refine ⟨fun j s hs => ?_, fun j k s t hs ht hjk x hx => ?_⟩
  · by_cases e : i = j
    · subst e
      rw [List.getElem?_set_self hi] at hs
      cases hs
      exact ho
    · rw [List.getElem?_set_ne e] at hs
      have hne := h.sep i j r s hr hs e g hg
      have hos := h.own j s hs
      obtain ⟨h1, h2⟩ := hos
      refine ⟨h1, ?_⟩
      rcases h2 with h2 | ⟨g', cap, cur, e1, hB, hk, q⟩
      · exact .inl h2
      · refine .inr ⟨g', cap, cur, e1, hB, ?_, q⟩
        rw [hb.block g' (block_lt hk) ?_]
        · exact hk
        · rw [e1] at hne
          exact hne
  · have key : ∀ j s, (rs.set i (r.1, r.2.1, l))[j]? = some s → ∃ s', rs[j]? = some s' ∧ rowV s' = rowV s := fun j s hs => by
      by_cases e : i = j
      · subst e
        rw [List.getElem?_set_self hi] at hs
        cases hs
        exact ⟨r, hr, hv.symm⟩
      · rw [List.getElem?_set_ne e] at hs
        exact ⟨s, hs, rfl⟩
    obtain ⟨s', hs', e1⟩ := key j s hs
    obtain ⟨t', ht', e2⟩ := key k t ht
    rw [← e1] at hx
    rw [← e2]
    exact h.sep j k s' t' hs' ht' hjk x hx
theorem Grid.bss {w : World} {B : Nat} {rs : List Row} (h : Grid w B rs) : Bss w (vals rs) (lsts rs) := by
  refine ⟨by rw [length_vals, length_lsts], fun i l hl => ?_⟩
  unfold lsts at hl
  rw [List.getElem?_map] at hl
  cases hr : rs[i]? with
  | none => rw [hr] at hl; cases hl
  | some r =>
    rw [hr] at hl
    simp only [Option.map_some, Option.some.injEq] at hl
    subst hl
    exact ⟨r.1, r.2.1, by unfold vals; rw [List.getElem?_map, hr]; rfl, own_sl (h.own i r hr)⟩
/-- the spine grows, or is written: the rows stay -/
theorem Grid.beside {w w' : World} {B : Nat} {rs : List Row} (h : Grid w B rs) {g : Nat} (hb : Beside g w w') (hne : ∀ (i : Nat) (r : Row), rs[i]? = some r → (rowV r).ownBlock ≠ some g) : Grid w' B rs := by
  refine ⟨fun j s hs => ?_, h.sep⟩
  have hne' := hne j s hs
  obtain ⟨h1, h2⟩ := h.own j s hs
  refine ⟨h1, ?_⟩
  rcases h2 with h2 | ⟨g', cap, cur, e1, hB, hk, q⟩
  · exact .inl h2
  · refine .inr ⟨g', cap, cur, e1, hB, ?_, q⟩
    rw [hb.block g' (block_lt hk) ?_]
    · exact hk
    · rw [e1] at hne'
      exact hne'
theorem Grid.grown {w w' : World} {B B' e m : Nat} {u : Value} {ys : List Value} {rs : List Row} (h : Grid w B rs) (hu : w.ownsRow B' e 1 u m ys) (he : (5 : Nat) ≠ e) (hg : w.grownBy w' u.ownBlock) : Grid w' B rs :=
  ⟨fun i r hr => (h.own i r hr).kept hg (own_ne (h.own i r hr) hu he), h.sep⟩
end Go.Proofs.Ytmkjplpnoohfnaa
