/- Lists of shards: what their cells hold; literals. -/
import Derived.Test.YtmkjplpnoohfnaaOut
namespace Go.Proofs.Ytmkjplpnoohfnaa
open Go.RowKit
set_option linter.unusedVariables false
theorem Rr.get {w : World} {A : Option Addr} {c : Nat} {ls : List (List F)} (h : Rr w A c ls) {i : Nat} (hi : i < ls.length) : ∃ b o A2 c2, A = some ⟨b, o, none⟩ ∧ w.cell? ⟨b, o + i, none⟩ = some (.slice A2 (lenAt ls i) c2) ∧ Bs w A2 c2 (ls.getD i []) := by
  obtain ⟨vs, h1, h2⟩ := h.ex
  obtain ⟨A2, c2, h3, h4⟩ := h2.len hi
  obtain ⟨b, o, hA, _, hc⟩ := Sl.at' h1 (by rw [h2.1]; omega)
  exact ⟨b, o, A2, c2, hA, hc i _ h3, h4⟩
theorem Rr.le {w : World} {A : Option Addr} {c : Nat} {ls : List (List F)} (h : Rr w A c ls) : ls.length ≤ c ∧ c ≤ maxLen := by
  obtain ⟨vs, h1, h2⟩ := h.ex
  exact ⟨by have := h1.le; rwa [h2.1] at this, h1.mx⟩
theorem Rr.take {w : World} {A : Option Addr} {c : Nat} {ls : List (List F)} (h : Rr w A c ls) (k : Nat) : Rr w A c (ls.take k) := by
  obtain ⟨vs, h1, h2⟩ := h.ex
  exact ⟨vs.take k, h1.take k, h2.take k⟩
theorem Rr.drop {w : World} {A : Option Addr} {c : Nat} {ls : List (List F)} (h : Rr w A c ls) {k : Nat} (hk : k ≤ ls.length) : Rr w (rowA A c k) (c - k) (ls.drop k) := by
  obtain ⟨vs, h1, h2⟩ := h.ex
  have := h1.row (lo := k) (m := vs.length - k) (by have := h2.1; omega)
  rw [List.take_of_length_le (by rw [List.length_drop]; exact Nat.le_refl _)] at this
  exact ⟨vs.drop k, this, h2.drop k⟩
theorem lit1 {w : World} {n : Nat} {v : Value} {a : F} (h : n = w.heap.size) (hv : v = bv a) : Bs (w.alloc (.cells #[v] 5)) (some ⟨n, 0, none⟩) 1 [a] := by
  subst hv
  exact lit_bs (l := [a]) h rfl rfl (Nat.le_of_ble_eq_true rfl)
theorem lit_spine {w : World} {n : Nat} (vs : List Value) (cs : Array Value) (hn : n = w.heap.size) (hcs : cs = vs.toArray) (hl : vs.length ≤ 1000) : Sl (w.alloc (.cells cs 28)) (some ⟨n, 0, none⟩) vs.length vs := by
  subst hn hcs
  exact own_sl (own_lit w vs vs.length rfl hl)
theorem lit_rr1 {w : World} {n1 n2 : Nat} {a : F} {v : Value} (h1 : n1 = w.heap.size) (h2 : n2 = w.heap.size + 1) (hv : v = bv a) : Rr ((w.alloc (.cells #[v] 5)).alloc (.cells #[.slice (some ⟨n1, 0, none⟩) 1 1] 28)) (some ⟨n2, 0, none⟩) 1 [[a]] := by
  subst hv
  refine ⟨[.slice (some ⟨n1, 0, none⟩) 1 1], lit_spine _ _ (by rw [size_alloc']; exact h2) rfl (by simp), ?_⟩
  exact (Bss.nil _).cons (n := 1) (Sl.alloc (lit1 h1 rfl) _) rfl
theorem lit_rr2 {w : World} {n1 n2 n3 : Nat} {a b : F} {u v : Value} (h1 : n1 = w.heap.size) (h2 : n2 = w.heap.size + 1) (h3 : n3 = w.heap.size + 2) (hu : u = bv a) (hv : v = bv b) : Rr (((w.alloc (.cells #[u] 5)).alloc (.cells #[v] 5)).alloc (.cells #[.slice (some ⟨n1, 0, none⟩) 1 1, .slice (some ⟨n2, 0, none⟩) 1 1] 28)) (some ⟨n3, 0, none⟩) 2 [[a], [b]] := by
  subst hu hv
  refine ⟨[.slice (some ⟨n1, 0, none⟩) 1 1, .slice (some ⟨n2, 0, none⟩) 1 1], lit_spine _ _ (by rw [size_alloc', size_alloc']; exact h3) rfl (by simp), ?_⟩
  exact ((Bss.nil _).cons (n := 1) (Sl.alloc (lit1 (by rw [size_alloc']; exact h2) rfl) _) rfl).cons (n := 1) (Sl.alloc (Sl.alloc (lit1 h1 rfl) _) _) rfl
end Go.Proofs.Ytmkjplpnoohfnaa
