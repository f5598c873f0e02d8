/- BulkChanges, walked. -/
import Derived.Test.YtbepadepepoilaaSpn
import Derived.Deep.QuietTactic
import Derived.BigQuiet
namespace Go.Proofs.Ytbepadepepoilaa
open Go.RowKit
set_option linter.unusedVariables false
set_option linter.unusedSimpArgs false
theorem enc_drop {k m : Nat} {ls : List (List F)} (h : ls.length = k) : (enc k m ls).drop k = accR k m (lenAt ls 0) ls k := by
  unfold enc
  rw [← h, List.drop_left]
theorem sumF_swap {n j : Nat} {f f' : Nat → F} (hj : j < n) (h : ∀ t, t < n → t ≠ j → f' t = f t) : sumF n f' = sumF n f + f j + f' j := by
  have e : sumF n (fun t => f t + f' t) = f j + f' j := sumF_one j hj fun t ht hne => by rw [h t ht hne, F.add_self]
  rw [sumF_add] at e
  have : sumF n f + (sumF n f + sumF n f') = sumF n f + (f j + f' j) := by rw [e]
  rw [← F.add_assoc, F.add_self, F.zero_add] at this
  rw [this, F.add_assoc]
theorem getD_set_row {la : List (List F)} {j : Nat} {l : List F} (hj : j < la.length) (t : Nat) : (la.set j l).getD t [] = if t = j then l else la.getD t [] := by
  by_cases e : t = j
  · subst e
    rw [if_pos rfl, List.getD_eq_getElem?_getD, List.getElem?_set_self hj]; rfl
  · rw [if_neg e, List.getD_eq_getElem?_getD, List.getElem?_set_ne (fun h => e h.symm), List.getD_eq_getElem?_getD]
theorem Eql.set {la : List (List F)} {k L j : Nat} {l : List F} (h : Eql la k L) (hl : l.length = L) (hj : j < k) : Eql (la.set j l) k L := by
  refine ⟨by rw [List.length_set, h.len], fun i hi => ?_⟩
  unfold lenAt
  rw [getD_set_row (by rw [h.len]; exact hj)]
  split
  · exact hl
  · exact h.row i hi
theorem upd_drop {k m j L : Nat} {la : List (List F)} {l : List F} (h : Eql la k L) (hk : 1 ≤ k) (hl : l.length = L) (hj : j < k) : updR k j (la.getD j []) l ((enc k m la).drop k) = (enc k m (la.set j l)).drop k := by
  have h' := h.set hl hj
  rw [enc_drop h.len, enc_drop h'.len, h.row 0 (by omega), h'.row 0 (by omega)]
  unfold updR
  refine List.ext_getElem? fun a => ?_
  rcases Nat.lt_or_ge a m with ha | ha
  · unfold mapR
    rw [List.getElem?_mapIdx, List.getElem?_mapIdx, accR_at ha, accR_at ha]
    refine congrArg some ?_
    dsimp only
    rw [length_tab, length_tab]
    refine tab_congr fun x hx => ?_
    rw [getD_tab _ hx, getD_tab _ hx]
    unfold addH
    rw [sumF_swap (f := fun t => parF k a t * (la.getD t []).getD x 0) (f' := fun t => parF k a t * ((la.set j l).getD t []).getD x 0) hj fun t ht hne => by rw [getD_set_row (by rw [h.len]; exact hj), if_neg hne]]
    rw [getD_set_row (by rw [h.len]; exact hj), if_pos rfl]
  · rw [List.getElem?_eq_none (by rw [length_mapR, length_mapR, length_accR]; exact ha), List.getElem?_eq_none (by rw [length_accR]; exact ha)]
theorem alk_parity {k m j L : Nat} {la : List (List F)} {l : List F} (h : Eql la k L) (hk : 1 ≤ k) (hl : l.length = L) (hj : j < k) : Alk (la.getD j [] :: l :: (enc k m la).drop k) ((m : Int) + 2) := by
  rw [alk_iff]
  refine ⟨by rw [List.length_cons, List.length_cons, List.length_drop, length_enc h.len]; omega, L, fun q hq => ?_⟩
  rcases List.mem_cons.1 hq with e | hq
  · rw [e]; exact h.row j hj
  · rcases List.mem_cons.1 hq with e | hq
    · rw [e]; exact hl
    · rw [enc_drop h.len, h.row 0 (by omega)] at hq
      obtain ⟨i, hi⟩ := List.mem_iff_getElem?.1 hq
      exact len_accR hi
end Go.Proofs.Ytbepadepepoilaa
