/- Arguments that read as data: lists of bools, lists of shards. -/
import Derived.Test.YtbepadepepoilaaOpen
import Derived.Deep.Slices
namespace Go.Proofs.Ytbepadepepoilaa
open Go.ChangeShapes Go.WideShapes Go.ChangeAt Go.RowKit
set_option linter.unusedVariables false
/-- a slice of slices that reads as these lists -/
structure Rr (w : World) (A : Option Addr) (c : Nat) (ls : List (List F)) : Prop where
  ex : ∃ vs, Sl w A c vs ∧ Bss w vs ls
section
variable {H : Type} {enc : TypeId × Value → H} {P : Program} {w : World}
theorem sl_of {a : Addr} {len cap : Nat} {V : Nat → Value} (hl : len ≤ cap) (hm : cap ≤ maxLen) (h : ∀ i, i < len → w.cell? (a.add i) = some (V i)) : Sl w (some a) cap ((List.range len).map V) := by
  refine ⟨by simp; exact hl, hm, cells_mk fun i v hv => ?_⟩
  rw [List.getElem?_map] at hv
  rcases Nat.lt_or_ge i len with hi | hi
  · rw [List.getElem?_range hi] at hv
    simp only [Option.map_some, Option.some.injEq] at hv
    rw [h i hi, hv]
  · rw [List.getElem?_eq_none (by simpa using hi)] at hv; cases hv
theorem open_bools {r : Reach} {b0 base : Nat} {spare : Nat → Bool} {held : Bool} {t e : TypeId} {v : Value} {d : DataW H} {p : List MemPlace} (ht : P.underlying t = some (.slice e)) (he : P.underlying e = some .bool) (hc : P.cellsOf e = 1)
    (hv : Value.okWide P w r b0 t v) (h : DataW.Trod enc P w base spare held t v d p) :
    ∃ (A : Option Addr) (c : Nat) (bs : List Bool), v = .slice A bs.length c ∧ Sl w A c (bs.map Value.bool) := by
  obtain ⟨a0, len, cap, rfl⟩ := okWide_slice ht hv
  obtain ⟨fuel, hf⟩ := h
  rcases Deep.open_slice1 ht hc hf with ⟨hcs, _⟩ | ⟨a, l, c, m, n, V, D, Pl, hcs, _, hl, hm, hmm, _, hx⟩
  · simp [Value.cells] at hcs
    obtain ⟨rfl, rfl, rfl⟩ := hcs
    exact ⟨none, 0, [], rfl, Sl.nil w⟩
  · simp [Value.cells] at hcs
    obtain ⟨rfl, rfl, rfl⟩ := hcs
    have hlm : len ≤ m := by rw [hmm]; split <;> omega
    obtain ⟨B, hB⟩ := Deep.choose_lt (α := Bool) (n := len) (p := fun i b => V i = .bool b) (fun i hi => by
      obtain ⟨b, h1, _⟩ := DataW.trod_bool he (hx i (by omega)).2
      exact ⟨b, by simpa using h1⟩)
    refine ⟨some a, cap, (List.range len).map B, by simp, ?_⟩
    rw [List.map_map]
    exact sl_of hl hm fun i hi => by rw [(hx i (by omega)).1, hB i hi]; rfl
theorem open_bytess {r : Reach} {b0 base : Nat} {spare : Nat → Bool} {held : Bool} {t e q : TypeId} {v : Value} {d : DataW H} {p : List MemPlace} (ht : P.underlying t = some (.slice e)) (he : P.underlying e = some (.slice q)) (hq : P.underlying q = some (.int .u8)) (hc : P.cellsOf e = 1) (hcq : P.cellsOf q = 1)
    (hv : Value.okWide P w r b0 t v) (h : DataW.Trod enc P w base spare held t v d p) :
    ∃ (A : Option Addr) (c : Nat) (ls : List (List F)), v = .slice A ls.length c ∧ Rr w A c ls := by
  obtain ⟨a0, len, cap, rfl⟩ := okWide_slice ht hv
  obtain ⟨fuel, hf⟩ := h
  rcases Deep.open_slice1 ht hc hf with ⟨hcs, _⟩ | ⟨a, l, c, m, n, V, D, Pl, hcs, _, hl, hm, hmm, _, hx⟩
  · simp [Value.cells] at hcs
    obtain ⟨rfl, rfl, rfl⟩ := hcs
    exact ⟨none, 0, [], rfl, ⟨[], Sl.nil w, rfl, fun i l h => by simp at h⟩⟩
  · simp [Value.cells] at hcs
    obtain ⟨rfl, rfl, rfl⟩ := hcs
    have hlm : len ≤ m := by rw [hmm]; split <;> omega
    obtain ⟨B, hB⟩ := Deep.choose_lt (α := Option Addr × Nat × List F) (n := len) (p := fun i y => V i = .slice y.1 y.2.2.length y.2.1 ∧ Bs w y.1 y.2.1 y.2.2) (fun i hi => by
      obtain ⟨A, c, l, h1, h2⟩ := open_bytes_raw he hq hcq (hx i (by omega)).2
      exact ⟨(A, c, l), h1, h2⟩)
    refine ⟨some a, cap, (List.range len).map fun i => (B i).2.2, by simp, ⟨(List.range len).map V, sl_of hl hm fun i hi => (hx i (by omega)).1, by simp, fun i l hl => ?_⟩⟩
    rw [List.getElem?_map] at hl
    rcases Nat.lt_or_ge i len with hi | hi
    · rw [List.getElem?_range hi] at hl
      simp only [Option.map_some, Option.some.injEq] at hl
      subst hl
      refine ⟨(B i).1, (B i).2.1, ?_, (hB i hi).2⟩
      rw [List.getElem?_map, List.getElem?_range hi]
      exact congrArg some (hB i hi).1
    · rw [List.getElem?_eq_none (by simpa using hi)] at hl; cases hl
end
end Go.Proofs.Ytbepadepepoilaa
