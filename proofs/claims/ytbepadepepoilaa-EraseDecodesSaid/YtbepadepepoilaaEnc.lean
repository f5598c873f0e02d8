/- Stripes in plain Lean: sums, multiples, changes, places. -/
import Derived.Test.YtbepadepepoilaaAdd
namespace Go.Proofs.Ytbepadepepoilaa
open Go.RowKit
set_option linter.unusedVariables false
def at2 (ls : List (List F)) (a x : Nat) : F := (ls.getD a []).getD x 0
theorem rows_ext {ls ls' : List (List F)} (h : ls.length = ls'.length) (hl : ∀ a, a < ls.length → lenAt ls a = lenAt ls' a) (hx : ∀ a x, a < ls.length → x < lenAt ls a → at2 ls a x = at2 ls' a x) : ls = ls' :=
  list_ext_lt h fun i hi => ext_getD (hl i hi) fun x hxx => hx i x hi hxx
theorem at2_mapR {h : Nat → Nat → F → F} {ls : List (List F)} {a x : Nat} (ha : a < ls.length) (hx : x < lenAt ls a) : at2 (mapR h ls) a x = h a x (at2 ls a x) := by
  unfold at2
  unfold lenAt at hx
  rw [getD_mapR ha, getD_tab _ hx]
theorem at2_over {ls : List (List F)} {a x : Nat} (h : lenAt ls a ≤ x) : at2 ls a x = 0 := getD_over h
theorem lenAt_enc_low {k m : Nat} {ls : List (List F)} (hl : ls.length = k) {a : Nat} (ha : a < k) : lenAt (enc k m ls) a = lenAt ls a := by
  unfold lenAt enc
  rw [List.getD_eq_getElem?_getD, List.getElem?_append_left (by omega), List.getD_eq_getElem?_getD]
theorem enc_high {k m : Nat} {ls : List (List F)} (hl : ls.length = k) {a : Nat} (ha : k ≤ a) (ha2 : a < k + m) : (enc k m ls).getD a [] = tab (lenAt ls 0) fun x => sumF k fun t => parF k (a - k) t * at2 ls t x := by
  unfold enc
  rw [List.getD_eq_getElem?_getD, List.getElem?_append_right (by omega), hl, accR_at (by omega)]
  rfl
theorem lenAt_enc_high {k m : Nat} {ls : List (List F)} (hl : ls.length = k) {a : Nat} (ha : k ≤ a) (ha2 : a < k + m) : lenAt (enc k m ls) a = lenAt ls 0 := by
  unfold lenAt
  rw [enc_high hl ha ha2, length_tab]; rfl
theorem at2_enc_low {k m : Nat} {ls : List (List F)} (hl : ls.length = k) {a : Nat} (ha : a < k) (x : Nat) : at2 (enc k m ls) a x = at2 ls a x := by
  have e : (enc k m ls).getD a [] = ls.getD a [] := by
    unfold enc
    rw [List.getD_eq_getElem?_getD, List.getElem?_append_left (by omega), ← List.getD_eq_getElem?_getD]
  unfold at2
  rw [e]
theorem at2_enc_high {k m : Nat} {ls : List (List F)} (hl : ls.length = k) {a x : Nat} (ha : k ≤ a) (ha2 : a < k + m) (hx : x < lenAt ls 0) : at2 (enc k m ls) a x = sumF k fun t => parF k (a - k) t * at2 ls t x := by
  show ((enc k m ls).getD a []).getD x 0 = _
  rw [enc_high hl ha ha2, getD_tab _ hx]
theorem lenAt_enc {k m L : Nat} {ls : List (List F)} (hl : ls.length = k) (h1 : 1 ≤ k) (hL : ∀ i, i < k → lenAt ls i = L) {a : Nat} (ha : a < k + m) : lenAt (enc k m ls) a = L := by
  rcases Nat.lt_or_ge a k with h | h
  · rw [lenAt_enc_low hl h, hL a h]
  · rw [lenAt_enc_high hl h ha, hL 0 (by omega)]
/-- all of one length -/
structure Eql (ls : List (List F)) (n L : Nat) : Prop where
  len : ls.length = n
  row : ∀ i, i < n → lenAt ls i = L
theorem Eql.alk {ls : List (List F)} {n L : Nat} (h : Eql ls n L) : Alk ls n := ⟨by rw [h.len], fun i hi => by rw [h.len] at hi; rw [h.row i hi, h.row 0 (by omega)]⟩
theorem Alk.eql {ls : List (List F)} {n : Nat} (h : Alk ls n) : Eql ls n (lenAt ls 0) := by
  have hn : ls.length = n := by have := h.1; omega
  exact ⟨hn, fun i hi => h.2 i (by omega)⟩
theorem Eql.enc {ls : List (List F)} {k L : Nat} (h : Eql ls k L) (h1 : 1 ≤ k) (m : Nat) : Eql (enc k m ls) (k + m) L := ⟨length_enc h.len, fun _ hi => lenAt_enc h.len h1 h.row hi⟩
theorem Eql.mapR {ls : List (List F)} {n L : Nat} (h : Eql ls n L) (f : Nat → Nat → F → F) : Eql (mapR f ls) n L := ⟨by rw [length_mapR, h.len], fun i hi => by rw [lenAt_mapR, h.row i hi]⟩
theorem Eql.ext {ls ls' : List (List F)} {n L : Nat} (h : Eql ls n L) (h' : Eql ls' n L) (hx : ∀ a x, a < n → x < L → at2 ls a x = at2 ls' a x) : ls = ls' :=
  rows_ext (h.len.trans h'.len.symm) (fun a ha => by rw [h.len] at ha; rw [h.row a ha, h'.row a ha]) fun a x ha hxx => by rw [h.len] at ha; rw [h.row a ha] at hxx; exact hx a x ha hxx
theorem Eql.le {ls : List (List F)} {n L : Nat} (h : Eql ls n L) {B : Nat} (hB : L ≤ B) : ∀ l, l ∈ ls → l.length ≤ B := fun l hl => by
  obtain ⟨i, hi, rfl⟩ := List.mem_iff_getElem.1 hl
  have := h.row i (by rw [← h.len]; exact hi)
  unfold lenAt at this
  rw [List.getD_eq_getElem?_getD, List.getElem?_eq_getElem hi] at this
  have e : ls[i].length = L := this
  omega
theorem enc_take {k m : Nat} {ls : List (List F)} (h : ls.length = k) : (enc k m ls).take k = ls := by
  unfold enc
  rw [← h, List.take_left]
/-- what is so for each place of the data is so for all shards -/
theorem at2_enc {k m L : Nat} {ls : List (List F)} (h : Eql ls k L) (h1 : 1 ≤ k) {a x : Nat} (ha : a < k + m) (hx : x < L) : at2 (enc k m ls) a x = if a < k then at2 ls a x else sumF k fun t => parF k (a - k) t * at2 ls t x := by
  by_cases e : a < k
  · rw [if_pos e, at2_enc_low h.len e]
  · rw [if_neg e, at2_enc_high h.len (by omega) ha (by rw [h.row 0 (by omega)]; exact hx)]
theorem at2_addL {la lb : List (List F)} {a x : Nat} (ha : a < la.length) (hx : x < lenAt la a) : at2 (addL la lb) a x = at2 la a x + at2 lb a x := at2_mapR ha hx
theorem at2_mulL {la : List (List F)} {y : F} {a x : Nat} (ha : a < la.length) (hx : x < lenAt la a) : at2 (mulL la y) a x = at2 la a x * y := at2_mapR ha hx
theorem enc_addL {k m L : Nat} {la lb : List (List F)} (ha : Eql la k L) (hb : Eql lb k L) (h1 : 1 ≤ k) : enc k m (addL la lb) = addL (enc k m la) (enc k m lb) := by
  have hA := ha.enc h1 m
  have hB := hb.enc h1 m
  have hs : Eql (addL la lb) k L := ha.mapR _
  refine (hs.enc h1 m).ext (hA.mapR _) fun a x hax hx => ?_
  rw [at2_enc hs h1 hax hx, at2_addL (la := enc k m la) (by rw [hA.len]; exact hax) (by rw [hA.row a hax]; exact hx), at2_enc ha h1 hax hx, at2_enc hb h1 hax hx]
  by_cases e : a < k
  · rw [if_pos e, if_pos e, if_pos e, at2_addL (by rw [ha.len]; exact e) (by rw [ha.row a e]; exact hx)]
  · rw [if_neg e, if_neg e, if_neg e, ← sumF_add]
    refine sumF_congr fun t ht => ?_
    rw [at2_addL (by rw [ha.len]; exact ht) (by rw [ha.row t ht]; exact hx), F.mul_add]
theorem enc_mulL {k m L : Nat} {la : List (List F)} (y : F) (ha : Eql la k L) (h1 : 1 ≤ k) : enc k m (mulL la y) = mulL (enc k m la) y := by
  have hA := ha.enc h1 m
  have hs : Eql (mulL la y) k L := ha.mapR _
  refine (hs.enc h1 m).ext (hA.mapR _) fun a x hax hx => ?_
  rw [at2_enc hs h1 hax hx, at2_mulL (la := enc k m la) (by rw [hA.len]; exact hax) (by rw [hA.row a hax]; exact hx), at2_enc ha h1 hax hx]
  by_cases e : a < k
  · rw [if_pos e, if_pos e, at2_mulL (by rw [ha.len]; exact e) (by rw [ha.row a e]; exact hx)]
  · rw [if_neg e, if_neg e, ← sumF_mul_right]
    refine sumF_congr fun t ht => ?_
    rw [at2_mulL (by rw [ha.len]; exact ht) (by rw [ha.row t ht]; exact hx), F.mul_assoc]
theorem lenAt_addL (la lb : List (List F)) (a : Nat) : lenAt (addL la lb) a = lenAt la a := lenAt_mapR _ _ _
theorem Alk.mapR {ls : List (List F)} {n : Int} (h : Alk ls n) (f : Nat → Nat → F → F) : Alk (mapR f ls) n := ⟨by rw [length_mapR]; exact h.1, fun i hi => by rw [length_mapR] at hi; rw [lenAt_mapR, lenAt_mapR]; exact h.2 i hi⟩
theorem alk_mapR {ls : List (List F)} {n : Int} (f : Nat → Nat → F → F) : Alk (mapR f ls) n ↔ Alk ls n :=
  ⟨fun h => ⟨by have := h.1; rwa [length_mapR] at this, fun i hi => by have := h.2 i (by rw [length_mapR]; exact hi); rwa [lenAt_mapR, lenAt_mapR] at this⟩, fun h => h.mapR f⟩
end Go.Proofs.Ytbepadepepoilaa
