/- A spine of the call's own whose rows are exchanged; one byte of a row of the call's own that is written. -/
import Derived.Test.YtbepadepepoilaaLaw06b
namespace Go.Proofs.Ytbepadepepoilaa
open Go.RowKit
set_option linter.unusedVariables false
structure Spn (wb wr : World) (g n c : Nat) (ls : List (List F)) : Prop where
  ex : ∃ vs, wr.ownsRow wb.heap.size 22 1 (.slice (some ⟨g, 0, none⟩) n c) n vs ∧ vs.length = ls.length ∧ ∀ (i : Nat) (l : List F), ls[i]? = some l → ∃ A' c', vs[i]? = some (Value.slice A' l.length c') ∧ Bs wr A' c' l ∧ (l ≠ [] → ∀ b o, A' = some ⟨b, o, none⟩ → b ≠ g)
  bel : Below wb.heap.size wb wr
theorem Spn.of {wb wr : World} {A : Option Addr} {n c : Nat} {rs : List Row} {ls : List (List F)} (h : MadeR wb wr A n c rs) (hl : lsts rs = ls) (hn : 0 < n) : ∃ g, A = some ⟨g, 0, none⟩ ∧ Spn wb wr g n c ls := by
  obtain ⟨g, hA, _, _⟩ := own_addr h.sp hn
  subst hA
  refine ⟨g, rfl, ⟨vals rs, h.sp, by rw [← hl, length_vals, length_lsts], fun i l hil => ?_⟩, h.bel⟩
  subst hl
  unfold lsts at hil
  rw [List.getElem?_map] at hil
  cases hr : rs[i]? with
  | none => rw [hr] at hil; cases hil
  | some r =>
    rw [hr] at hil
    simp only [Option.map_some, Option.some.injEq] at hil
    subst hil
    have hown := h.gr.own i r hr
    refine ⟨r.1, r.2.1, by unfold vals; rw [List.getElem?_map, hr]; rfl, own_sl hown, fun hne b o hA => ?_⟩
    have hne2 := own_ne hown h.sp (by decide)
    unfold rowV at hne2
    rw [hA] at hne2
    have hz : 0 < r.2.2.length := List.length_pos_iff.2 hne
    obtain ⟨g', hg', _, _⟩ := own_addr (c := r.2.1) hown hz
    rw [hA] at hg'
    obtain ⟨rfl, rfl⟩ : b = g' ∧ o = 0 := by injection hg' with e; injection e with e1 e2; exact ⟨e1, e2⟩
    rcases hne2 with e | e
    · cases e
    · simp only [Value.ownBlock, ne_eq, Option.some.injEq] at e
      exact e
theorem Spn.rr {wb wr : World} {g n c : Nat} {ls : List (List F)} (h : Spn wb wr g n c ls) : Rr wr (some ⟨g, 0, none⟩) c ls := by
  obtain ⟨vs, h1, h2, h3⟩ := h.ex
  exact ⟨vs, own_sl h1, h2, fun i l hl => by obtain ⟨A', c', a, b, _⟩ := h3 i l hl; exact ⟨A', c', a, b⟩⟩
theorem Spn.len {wb wr : World} {g n c : Nat} {ls : List (List F)} (h : Spn wb wr g n c ls) : ls.length = n := by
  obtain ⟨vs, h1, h2, h3⟩ := h.ex
  have := own_len h1
  omega
theorem Spn.at {wb wr : World} {g n c : Nat} {ls : List (List F)} (h : Spn wb wr g n c ls) {i : Nat} (hi : i < n) : (∃ v, wr.cell? ⟨g, i, none⟩ = some v) ∧ wr.frozen? ⟨g, i, none⟩ = false ∧ wb.heap.size ≤ g := by
  obtain ⟨vs, h1, h2, h3⟩ := h.ex
  have hl := own_len h1
  have hc := h1.cellAt i (by omega)
  refine ⟨⟨vs[i]'(by omega), ?_⟩, h1.frozenAt i, (own_some h1).1⟩
  rw [hc, List.getElem?_eq_getElem]
theorem Spn.put {wb wr : World} {g n c : Nat} {ls : List (List F)} (h : Spn wb wr g n c ls) {i : Nat} {A : Option Addr} {cA : Nat} {l : List F} (hl : Bs wb A cA l) : Spn wb (wr.setCell ⟨g, i, none⟩ (.slice A l.length cA)) g n c (ls.set i l) := by
  obtain ⟨vs, h1, h2, h3⟩ := h.ex
  have hg := (own_some h1).1
  have hbe := (Beside.refl g wr).setCell i (.slice A l.length cA)
  have hbel : Below wb.heap.size wb (wr.setCell ⟨g, i, none⟩ (.slice A l.length cA)) := h.bel.setCell hg _
  refine ⟨⟨vs.set i (.slice A l.length cA), (h1.stored i _).1, by simp [h2], fun j m hm => ?_⟩, hbel⟩
  by_cases e : i = j
  · subst e
    have hi : i < ls.length := by
      rcases Nat.lt_or_ge i ls.length with q | q
      · exact q
      · rw [List.getElem?_eq_none (by rw [List.length_set]; exact q)] at hm; cases hm
    rw [List.getElem?_set_self hi] at hm
    injection hm with hm
    subst hm
    refine ⟨A, cA, List.getElem?_set_self (by omega), Sl.below hl hbel, fun hne b o hA => ?_⟩
    rcases hl.cells with q | ⟨b', o', hA', hlt, _⟩
    · exact absurd (List.map_eq_nil_iff.1 q) hne
    · rw [hA] at hA'
      injection hA' with e; injection e with e1 e2
      omega
  · rw [List.getElem?_set_ne e] at hm
    obtain ⟨A', c', a, b, d⟩ := h3 j m hm
    refine ⟨A', c', by rw [List.getElem?_set_ne e]; exact a, ?_, d⟩
    by_cases hm0 : m = []
    · subst hm0
      exact ⟨b.le, b.mx, .inl rfl⟩
    · exact Sl.beside b hbe (d hm0)
/-- one byte of a row of the call's own -/
theorem MadeR.byte {wb wr : World} {A : Option Addr} {n c : Nat} {rs : List Row} (h : MadeR wb wr A n c rs) {i x : Nat} {r : Row} (hr : rs[i]? = some r) (hx : x < r.2.2.length) :
    ∃ g, r.1 = some ⟨g, 0, none⟩ ∧ wr.cell? ⟨g, x, none⟩ = some (.int .u8 ((r.2.2.getD x 0).n : Int)) ∧ wr.frozen? ⟨g, x, none⟩ = false ∧ ∀ (nd : Nat) (y : F), MadeR wb ((wr.drewN nd).setCell ⟨g, x, none⟩ (bv y)) A n c (rs.set i (r.1, r.2.1, r.2.2.set x y)) := by
  have hown := h.gr.own i r hr
  unfold ownR rowV at hown
  obtain ⟨g, hgA, _, _⟩ := own_addr hown (by omega)
  have hob : (rowV r).ownBlock = some g := by unfold rowV; rw [hgA]; rfl
  have hB := (own_block_lt (h.gr.own i r hr) hob).1
  have hsep := own_ne (h.gr.own i r hr) h.sp (by decide)
  rw [hgA] at hown
  have hcl := hown.cellAt x (by omega)
  rw [getElem?_bv hx] at hcl
  refine ⟨g, hgA, hcl, hown.frozenAt x, fun nd y => ⟨?_, ?_, (h.bel.trans ((below_drew0 wr nd).mono h.bel.size)).setCell hB _⟩⟩
  · have hv : vals (rs.set i (r.1, r.2.1, r.2.2.set x y)) = vals rs := by
      refine List.ext_getElem? fun a => ?_
      unfold vals
      rw [List.getElem?_map, List.getElem?_map]
      by_cases e : i = a
      · subst e
        rw [List.getElem?_set_self (List.getElem?_eq_some_iff.1 hr).1, hr]
        show some (rowV _) = some (rowV _)
        unfold rowV
        rw [List.length_set]
      · rw [List.getElem?_set_ne e]
    rw [hv]
    exact ownsRow_setCell_other (own_drewN h.sp nd) (by
      rcases hsep with e | e
      · rw [e] at hob; cases hob
      · rw [hob] at e; exact fun e2 => e e2.symm) _
  · have hst := ((show (wr.drewN nd).ownsRow wb.heap.size 5 1 (.slice (some ⟨g, 0, none⟩) r.2.2.length r.2.1) r.2.2.length (r.2.2.map bv) from own_drewN hown nd).stored x (bv y)).1
    rw [map_set] at hst
    refine (h.gr.below (below_drew0 wr nd)).write hr hob (by rw [List.length_set]) ((Beside.refl g (wr.drewN nd)).setCell x _) ?_
    unfold ownR rowV
    rw [List.length_set]
    show World.ownsRow _ wb.heap.size 5 1 (.slice r.1 r.2.2.length r.2.1) r.2.2.length _
    rw [hgA]
    exact hst
theorem lsts_set (rs : List Row) (i : Nat) (r : Row) : lsts (rs.set i r) = (lsts rs).set i r.2.2 := by unfold lsts; rw [List.map_set]
end Go.Proofs.Ytbepadepepoilaa
