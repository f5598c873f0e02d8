/- erase.Decode: in plain Lean. -/
import Derived.Test.YtbepadepepoilaaErb
namespace Go.Proofs.Ytbepadepepoilaa
open Go.RowKit
set_option linter.unusedVariables false
set_option linter.unusedSimpArgs false
/-- the picked rows of the generator -/
def pkM (k : Nat) (Ls : List Nat) : Mx := fun i c => genF k (Ls.getD i 0) c
/-- the data rows -/
def decD (k Len : Nat) (V : Mx) (ls : List (List F)) (Ls : List Nat) : List (List F) := (List.range k).map fun j => tab Len fun x => dS (V j) ls Ls k x
theorem length_decD (k Len : Nat) (V : Mx) (ls : List (List F)) (Ls : List Nat) : (decD k Len V ls Ls).length = k := by unfold decD; simp
theorem decD_at {k Len : Nat} {V : Mx} {ls : List (List F)} {Ls : List Nat} {j : Nat} (h : j < k) : (decD k Len V ls Ls)[j]? = some (tab Len fun x => dS (V j) ls Ls k x) := by
  unfold decD; rw [List.getElem?_map, List.getElem?_range h]; rfl
theorem eql_decD (k Len : Nat) (V : Mx) (ls : List (List F)) (Ls : List Nat) : Eql (decD k Len V ls Ls) k Len := ⟨length_decD _ _ _ _ _, fun i hi => by
  unfold lenAt
  rw [List.getD_eq_getElem?_getD, decD_at hi]; exact length_tab _ _⟩
theorem at2_decD {k Len : Nat} {V : Mx} {ls : List (List F)} {Ls : List Nat} {j x : Nat} (h : j < k) (hx : x < Len) : at2 (decD k Len V ls Ls) j x = dS (V j) ls Ls k x := by
  have e : (decD k Len V ls Ls).getD j [] = tab Len fun x => dS (V j) ls Ls k x := by rw [List.getD_eq_getElem?_getD, decD_at h]; rfl
  unfold at2
  rw [e, getD_tab _ hx]
/-- a number of a stripe, by the generator -/
theorem at2_enc_app {k m L : Nat} {D : List (List F)} (h : Eql D k L) (h1 : 1 ≤ k) {i x : Nat} (hi : i < k + m) (hx : x < L) : at2 (enc k m D) i x = app k (genF k) (fun t => at2 D t x) i := by
  rw [at2_enc h h1 hi hx]
  unfold app
  by_cases e : i < k
  · rw [if_pos e, sumF_congr (g := fun j => dlt i j * at2 D j x) fun j _ => by rw [genF, if_pos e]]
    exact (sumF_dlt_left (fun t => at2 D t x) e).symm
  · rw [if_neg e]
    refine sumF_congr fun t ht => ?_
    rw [genF, if_neg e]
    unfold parF
    rw [show k + (i - k) = i by omega]
theorem pk_inv {k : Nat} {Ls : List Nat} (hk : k ≤ 256) (hl : Ls.length = k) (hn : Ls.Nodup) (hb : ∀ x, x ∈ Ls → x < 256) : ∃ V, IsInv k (pkM k Ls) V :=
  inv_of_ker fun x hx j hj => gen_ker hk Ls hl hn hb x (fun r hr => by
    obtain ⟨i, hi, rfl⟩ := List.mem_iff_getElem.1 hr
    have := hx i (by omega)
    unfold app pkM at this
    rw [List.getD_eq_getElem?_getD, List.getElem?_eq_getElem hi] at this
    exact this) j hj
/-- what is decoded agrees with what is there -/
theorem dec_agree {k m Len : Nat} {V : Mx} {ls : List (List F)} {Ls : List Nat} (hV : IsInv k (pkM k Ls) V) (h1 : 1 ≤ k) (hr : ∀ i, i < k → Ls.getD i 0 < k + m) {i x : Nat} (hi : i < k) (hx : x < Len) : at2 (enc k m (decD k Len V ls Ls)) (Ls.getD i 0) x = at2 ls (Ls.getD i 0) x := by
  rw [at2_enc_app (eql_decD k Len V ls Ls) h1 (hr i hi) hx]
  unfold app
  rw [sumF_congr (g := fun t => sumF k fun s => genF k (Ls.getD i 0) t * V t s * at2 ls (Ls.getD s 0) x) fun t ht => by
    dsimp only
    rw [at2_decD ht hx]
    unfold dS
    rw [← sumF_mul]
    exact sumF_congr fun s _ => (F.mul_assoc _ _ _).symm]
  rw [sumF_comm]
  rw [sumF_congr (g := fun s => dlt i s * at2 ls (Ls.getD s 0) x) fun s hs => by
    rw [sumF_mul_right]
    have := hV.right i s hi hs
    unfold mmul pkM at this
    rw [this]]
  exact sumF_dlt_left (fun s => at2 ls (Ls.getD s 0) x) hi
/-- two stripes that agree at k places are one -/
theorem dec_unique {k m L : Nat} {D D' : List (List F)} {Ls : List Nat} (h : Eql D k L) (h' : Eql D' k L) (h1 : 1 ≤ k) (hkm : k + m ≤ 256) (hl : Ls.length = k) (hn : Ls.Nodup) (hr : ∀ x, x ∈ Ls → x < k + m) (he : ∀ i, i < k → ∀ x, x < L → at2 (enc k m D) (Ls.getD i 0) x = at2 (enc k m D') (Ls.getD i 0) x) : D = D' := by
  refine h.ext h' fun a x ha hx => ?_
  have key := gen_ker (k := k) (by omega) Ls hl hn (fun x hx => by have := hr x hx; omega) (fun t => at2 D t x + at2 D' t x) (fun r hrm => by
    obtain ⟨i, hi, rfl⟩ := List.mem_iff_getElem.1 hrm
    have hri := hr _ (List.getElem_mem hi)
    have e := he i (by omega) x hx
    rw [List.getD_eq_getElem?_getD, List.getElem?_eq_getElem hi] at e
    have e : at2 (enc k m D) Ls[i] x = at2 (enc k m D') Ls[i] x := e
    rw [at2_enc_app h h1 hri hx, at2_enc_app h' h1 hri hx] at e
    unfold app at e ⊢
    rw [sumF_congr (g := fun t => genF k Ls[i] t * at2 D t x + genF k Ls[i] t * at2 D' t x) fun t _ => F.mul_add _ _ _, sumF_add, e, F.add_self]) a ha
  exact F.add_eq_zero.1 key
/-- the first places that are there -/
def fst (k : Nat) (has : List Bool) : List Nat := (idx has has.length).take k
theorem fst_nodup (k : Nat) (has : List Bool) : (fst k has).Nodup := List.Nodup.sublist (List.take_sublist _ _) (idx_nodup _ _)
theorem fst_lt {k : Nat} {has : List Bool} {x : Nat} (h : x ∈ fst k has) : x < has.length := idx_lt (List.mem_of_mem_take h)
theorem fst_mem {k : Nat} {has : List Bool} {x : Nat} (h : x ∈ fst k has) : x ∈ idx has has.length := List.mem_of_mem_take h
theorem fst_len {k : Nat} {has : List Bool} (h : k ≤ (idx has has.length).length) : (fst k has).length = k := by unfold fst; rw [List.length_take]; omega
theorem getD_mem {l : List Nat} {i : Nat} (h : i < l.length) : l.getD i 0 ∈ l := by rw [List.getD_eq_getElem?_getD, List.getElem?_eq_getElem h]; exact List.getElem_mem _
/-- what Decode answers -/
def Dec (k m : Nat) (has : List Bool) (ls X : List (List F)) : Prop := ∃ D L, Eql D k L ∧ X = enc k m D ∧ L ≤ 100000 ∧ (∀ i, i < k → lenAt ls ((fst k has).getD i 0) = L) ∧ ∀ i, i < k → ∀ x, x < L → at2 X ((fst k has).getD i 0) x = at2 ls ((fst k has).getD i 0) x
def DecCase (k m : Int) (has : List Bool) (ls X : List (List F)) (E : Int) : Prop :=
  (¬ okkm k m ∧ E = 50 ∧ X = []) ∨ (okkm k m ∧ ¬ ((has.length : Int) = k + m ∧ (ls.length : Int) = k + m) ∧ E = 60 ∧ X = []) ∨
  (okkm k m ∧ ((has.length : Int) = k + m ∧ (ls.length : Int) = k + m) ∧ ¬ SameL has ls has.length ∧ E = 60 ∧ X = []) ∨
  (okkm k m ∧ ((has.length : Int) = k + m ∧ (ls.length : Int) = k + m) ∧ SameL has ls has.length ∧ ((idx has has.length).length : Int) < k ∧ E = 70 ∧ X = []) ∨
  (okkm k m ∧ ((has.length : Int) = k + m ∧ (ls.length : Int) = k + m) ∧ SameL has ls has.length ∧ k ≤ ((idx has has.length).length : Int) ∧ E = 0 ∧ Dec k.toNat m.toNat has ls X)
end Go.Proofs.Ytbepadepepoilaa
