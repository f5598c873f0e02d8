/- BulkChanges, walked. -/
import Derived.Test.YtmkjplpnoohfnaaSpn
import Derived.Deep.QuietTactic
import Derived.BigQuiet
namespace Go.Proofs.Ytmkjplpnoohfnaa
open Go.RowKit
set_option linter.unusedVariables false
set_option linter.unusedSimpArgs false
theorem enc_drop {k m : Nat} {ls : List (List F)} (h : ls.length = k) : (enc k m ls).drop k = accR k m (lenAt ls 0) ls k := by
  unfold enc
  rw [← h, List.drop_left]
theorem sumF_swap {n j : Nat} {f f' : Nat → F} (hj : j < n) (h : ∀ t, t < n → t ≠ j → f' t = f t) : sumF n f' = sumF n f + f j + f' j := by
  have e : sumF n (fun t => f t + f' t) = f j + f' j := sumF_one j hj fun t ht hne => by rw [h t ht hne, F.add_self]
  rw [sumF_add] at e
  have : sumF n f + (sumF n f + sumF n f') = sumF n f + (f j + f' j) := by rw [e]
  rw [← F.add_assoc, F.add_self, F.zero_add] at this
  rw [this, F.add_assoc]
theorem getD_set_row {la : List (List F)} {j : Nat} {l : List F} (hj : j < la.length) (t : Nat) : (la.set j l).getD t [] = if t = j then l else la.getD t [] := by
  by_cases e : t = j
  · subst e
    rw [if_pos rfl, List.getD_eq_getElem?_getD, List.getElem?_set_self hj]; rfl
  · rw [if_neg e, List.getD_eq_getElem?_getD, List.getElem?_set_ne (fun h => e h.symm), List.getD_eq_getElem?_getD]
theorem Eql.set {la : List (List F)} {k L j : Nat} {l : List F} (h : Eql la k L) (hl : l.length = L) (hj : j < k) : Eql (la.set j l) k L := by
  refine ⟨by rw [List.length_set, h.len], fun i hi => ?_⟩
  unfold lenAt
  rw [getD_set_row (by rw [h.len]; exact hj)]
  split
  · exact hl
  · exact h.row i hi
theorem upd_drop {k m j L : Nat} {la : List (List F)} {l : List F} (h : Eql la k L) (hk : 1 ≤ k) (hl : l.length = L) (hj : j < k) : updR k j (la.getD j []) l ((enc k m la).drop k) = (enc k m (la.set j l)).drop k := by
  have h' := h.set hl hj
  rw [enc_drop h.len, enc_drop h'.len, h.row 0 (by omega), h'.row 0 (by omega)]
  unfold updR
  refine List.ext_getElem? fun a => ?_
  rcases Nat.lt_or_ge a m with ha | ha
  · unfold mapR
    rw [List.getElem?_mapIdx, List.getElem?_mapIdx, accR_at ha, accR_at ha]
    refine congrArg some ?_
    dsimp only
    rw [length_tab, length_tab]
    refine tab_congr fun x hx => ?_
    rw [getD_tab _ hx, getD_tab _ hx]
    unfold addH
    rw [sumF_swap (f := fun t => parF k a t * (la.getD t []).getD x 0) (f' := fun t => parF k a t * ((la.set j l).getD t []).getD x 0) hj fun t ht hne => by rw [getD_set_row (by rw [h.len]; exact hj), if_neg hne]]
    rw [getD_set_row (by rw [h.len]; exact hj), if_pos rfl]
  · rw [List.getElem?_eq_none (by rw [length_mapR, length_mapR, length_accR]; exact ha), List.getElem?_eq_none (by rw [length_accR]; exact ha)]
theorem alk_parity {k m j L : Nat} {la : List (List F)} {l : List F} (h : Eql la k L) (hk : 1 ≤ k) (hl : l.length = L) (hj : j < k) : Alk (la.getD j [] :: l :: (enc k m la).drop k) ((m : Int) + 2) := by
  rw [alk_iff]
  refine ⟨by rw [List.length_cons, List.length_cons, List.length_drop, length_enc h.len]; omega, L, fun q hq => ?_⟩
  rcases List.mem_cons.1 hq with e | hq
  · rw [e]; exact h.row j hj
  · rcases List.mem_cons.1 hq with e | hq
    · rw [e]; exact hl
    · rw [enc_drop h.len, h.row 0 (by omega)] at hq
      obtain ⟨i, hi⟩ := List.mem_iff_getElem?.1 hq
      exact len_accR hi
set_option maxRecDepth 1000000 in
set_option maxHeartbeats 4000000 in
theorem walk_BulkChanges {w : World} (k : Int) (hk : -9223372036854775808 ≤ k ∧ k ≤ 9223372036854775807) (m : Int) (hm : -9223372036854775808 ≤ m ∧ m ≤ 9223372036854775807) (Aa : Option Addr) (ca : Nat) (la : List (List F)) (ha : Rr w Aa ca la) (j : Int) (hj : -9223372036854775808 ≤ j ∧ j ≤ 9223372036854775807) (An : Option Addr) (cn : Nat) (ln : List F) (hn : Bs w An cn ln) :
    Calls Try.prog 25 #[.int .i64 k, .int .i64 m, .slice Aa la.length ca, .int .i64 j, .slice An ln.length cn] w fun e w' => e = .returned (.bool true) ∧ Below w.heap.size w w' := by
  by_cases hf : FewP k m la
  rotate_left
  · have FW : Hid (∀ A c w, Rr w A c la → Calls Try.prog 70 #[.int .i64 k, .int .i64 m, .slice A la.length c] w fun e w' => e = .returned (.bool false) ∧ Below w.heap.size w w') := fun A c w h => few_any k m A c la false w hk hm h (by simp [hf])
    have K := Lib.hid (Lk.start w)
    replace K := Lib.hid (K.out.rr' ha)
    replace K := Lib.hid (K.out.bs' hn)
    clear ha hn
    go_enter Try.func25, Try.ntmps25
    go_wp2_with (first
      | (go_at_call 69; (with_reducible refine (awake6 _).mono ?_); rintro e w1 ⟨rfl, hbel⟩; (first | replace K := Lib.hid (K.out.below hbel) | replace K := Lib.hid ((K.out.alloc _).below hbel) | replace K := Lib.hid (((K.out.alloc _).alloc _).below hbel) | replace K := Lib.hid ((((K.out.alloc _).alloc _).alloc _).below hbel) | replace K := Lib.hid (((((K.out.alloc _).alloc _).alloc _).alloc _).below hbel) | replace K := Lib.hid (K.out.drew.below hbel) | replace K := Lib.hid ((K.out.drewN _).below hbel)); clear hbel)
      | (go_at_call 37; (with_reducible refine (new_any _).mono ?_); rintro e w2 ⟨rfl, hbel, hg⟩; (first | replace K := Lib.hid (K.out.below hbel) | replace K := Lib.hid ((K.out.alloc _).below hbel) | replace K := Lib.hid (((K.out.alloc _).alloc _).below hbel) | replace K := Lib.hid ((((K.out.alloc _).alloc _).alloc _).below hbel) | replace K := Lib.hid (((((K.out.alloc _).alloc _).alloc _).alloc _).below hbel) | replace K := Lib.hid (K.out.drew.below hbel) | replace K := Lib.hid ((K.out.drewN _).below hbel)); clear hbel; replace K := Lib.hid (K.out.withF hg); clear hg)
      | (go_at_call 70; (with_reducible refine (FW.out _ _ _ ?_).mono ?_); (first | exact K.out.at (.head _) | exact (K.out.alloc _).at (.head _) | exact ((K.out.alloc _).alloc _).at (.head _) | exact (((K.out.alloc _).alloc _).alloc _).at (.head _) | exact ((((K.out.alloc _).alloc _).alloc _).alloc _).at (.head _) | exact K.out.drew.at (.head _) | exact (K.out.drewN _).at (.head _)); rintro e w3 ⟨rfl, hbel⟩; (first | replace K := Lib.hid (K.out.below hbel) | replace K := Lib.hid ((K.out.alloc _).below hbel) | replace K := Lib.hid (((K.out.alloc _).alloc _).below hbel) | replace K := Lib.hid ((((K.out.alloc _).alloc _).alloc _).below hbel) | replace K := Lib.hid (((((K.out.alloc _).alloc _).alloc _).alloc _).below hbel) | replace K := Lib.hid (K.out.drew.below hbel) | replace K := Lib.hid ((K.out.drewN _).below hbel)); clear hbel))
    go_ret
    exact ⟨rfl, K.out.since⟩
  by_cases hj0 : 0 ≤ j
  rotate_left
  · have d0 : decide (j < 0) = true := decide_eq_true (by omega)
    have FW : Hid (∀ A c w, Rr w A c la → Calls Try.prog 70 #[.int .i64 k, .int .i64 m, .slice A la.length c] w fun e w' => e = .returned (.bool true) ∧ Below w.heap.size w w') := fun A c w h => few_any k m A c la true w hk hm h (by simp [hf])
    have K := Lib.hid (Lk.start w)
    replace K := Lib.hid (K.out.rr' ha)
    replace K := Lib.hid (K.out.bs' hn)
    clear ha hn
    go_enter Try.func25, Try.ntmps25
    go_wp2_with (first
      | (go_at_call 69; (with_reducible refine (awake6 _).mono ?_); rintro e w1 ⟨rfl, hbel⟩; (first | replace K := Lib.hid (K.out.below hbel) | replace K := Lib.hid ((K.out.alloc _).below hbel) | replace K := Lib.hid (((K.out.alloc _).alloc _).below hbel) | replace K := Lib.hid ((((K.out.alloc _).alloc _).alloc _).below hbel) | replace K := Lib.hid (((((K.out.alloc _).alloc _).alloc _).alloc _).below hbel) | replace K := Lib.hid (K.out.drew.below hbel) | replace K := Lib.hid ((K.out.drewN _).below hbel)); clear hbel)
      | (go_at_call 37; (with_reducible refine (new_any _).mono ?_); rintro e w2 ⟨rfl, hbel, hg⟩; (first | replace K := Lib.hid (K.out.below hbel) | replace K := Lib.hid ((K.out.alloc _).below hbel) | replace K := Lib.hid (((K.out.alloc _).alloc _).below hbel) | replace K := Lib.hid ((((K.out.alloc _).alloc _).alloc _).below hbel) | replace K := Lib.hid (((((K.out.alloc _).alloc _).alloc _).alloc _).below hbel) | replace K := Lib.hid (K.out.drew.below hbel) | replace K := Lib.hid ((K.out.drewN _).below hbel)); clear hbel; replace K := Lib.hid (K.out.withF hg); clear hg)
      | (go_at_call 70; (with_reducible refine (FW.out _ _ _ ?_).mono ?_); (first | exact K.out.at (.head _) | exact (K.out.alloc _).at (.head _) | exact ((K.out.alloc _).alloc _).at (.head _) | exact (((K.out.alloc _).alloc _).alloc _).at (.head _) | exact ((((K.out.alloc _).alloc _).alloc _).alloc _).at (.head _) | exact K.out.drew.at (.head _) | exact (K.out.drewN _).at (.head _)); rintro e w3 ⟨rfl, hbel⟩; (first | replace K := Lib.hid (K.out.below hbel) | replace K := Lib.hid ((K.out.alloc _).below hbel) | replace K := Lib.hid (((K.out.alloc _).alloc _).below hbel) | replace K := Lib.hid ((((K.out.alloc _).alloc _).alloc _).below hbel) | replace K := Lib.hid (((((K.out.alloc _).alloc _).alloc _).alloc _).below hbel) | replace K := Lib.hid (K.out.drew.below hbel) | replace K := Lib.hid ((K.out.drewN _).below hbel)); clear hbel))
    go_ret
    exact ⟨rfl, K.out.since⟩
  obtain ⟨j, rfl⟩ := Int.eq_ofNat_of_zero_le hj0
  have d0 : decide ((j : Int) < 0) = false := decide_eq_false (by omega)
  by_cases hja : j < la.length
  rotate_left
  · have d1 : (la.length : Int) ≤ (j : Int) := by omega
    have FW : Hid (∀ A c w, Rr w A c la → Calls Try.prog 70 #[.int .i64 k, .int .i64 m, .slice A la.length c] w fun e w' => e = .returned (.bool true) ∧ Below w.heap.size w w') := fun A c w h => few_any k m A c la true w hk hm h (by simp [hf])
    have K := Lib.hid (Lk.start w)
    replace K := Lib.hid (K.out.rr' ha)
    replace K := Lib.hid (K.out.bs' hn)
    clear ha hn
    go_enter Try.func25, Try.ntmps25
    go_wp2_with (first
      | (go_at_call 69; (with_reducible refine (awake6 _).mono ?_); rintro e w1 ⟨rfl, hbel⟩; (first | replace K := Lib.hid (K.out.below hbel) | replace K := Lib.hid ((K.out.alloc _).below hbel) | replace K := Lib.hid (((K.out.alloc _).alloc _).below hbel) | replace K := Lib.hid ((((K.out.alloc _).alloc _).alloc _).below hbel) | replace K := Lib.hid (((((K.out.alloc _).alloc _).alloc _).alloc _).below hbel) | replace K := Lib.hid (K.out.drew.below hbel) | replace K := Lib.hid ((K.out.drewN _).below hbel)); clear hbel)
      | (go_at_call 37; (with_reducible refine (new_any _).mono ?_); rintro e w2 ⟨rfl, hbel, hg⟩; (first | replace K := Lib.hid (K.out.below hbel) | replace K := Lib.hid ((K.out.alloc _).below hbel) | replace K := Lib.hid (((K.out.alloc _).alloc _).below hbel) | replace K := Lib.hid ((((K.out.alloc _).alloc _).alloc _).below hbel) | replace K := Lib.hid (((((K.out.alloc _).alloc _).alloc _).alloc _).below hbel) | replace K := Lib.hid (K.out.drew.below hbel) | replace K := Lib.hid ((K.out.drewN _).below hbel)); clear hbel; replace K := Lib.hid (K.out.withF hg); clear hg)
      | (go_at_call 70; (with_reducible refine (FW.out _ _ _ ?_).mono ?_); (first | exact K.out.at (.head _) | exact (K.out.alloc _).at (.head _) | exact ((K.out.alloc _).alloc _).at (.head _) | exact (((K.out.alloc _).alloc _).alloc _).at (.head _) | exact ((((K.out.alloc _).alloc _).alloc _).alloc _).at (.head _) | exact K.out.drew.at (.head _) | exact (K.out.drewN _).at (.head _)); rintro e w3 ⟨rfl, hbel⟩; (first | replace K := Lib.hid (K.out.below hbel) | replace K := Lib.hid ((K.out.alloc _).below hbel) | replace K := Lib.hid (((K.out.alloc _).alloc _).below hbel) | replace K := Lib.hid ((((K.out.alloc _).alloc _).alloc _).below hbel) | replace K := Lib.hid (((((K.out.alloc _).alloc _).alloc _).alloc _).below hbel) | replace K := Lib.hid (K.out.drew.below hbel) | replace K := Lib.hid ((K.out.drewN _).below hbel)); clear hbel))
    go_ret
    exact ⟨rfl, K.out.since⟩
  have d1 : ¬ (la.length : Int) ≤ (j : Int) := by omega
  have hka : 0 < la.length := by omega
  obtain ⟨P, hP⟩ : ∃ P, lenAt la 0 = P := ⟨_, rfl⟩
  have HP := Lib.hid hP
  have d4 : (0 : Int) < (la.length : Int) := by omega
  by_cases hnP : ln.length = P
  rotate_left
  · have d2 : ((ln.length : Int) == (P : Int)) = false := by rw [beq_eq_false_iff_ne]; omega
    have d3 : ((ln.length : Int) != (P : Int)) = true := by rw [bne_iff_ne]; omega
    clear hnP hP
    have FW : Hid (∀ A c w, Rr w A c la → Calls Try.prog 70 #[.int .i64 k, .int .i64 m, .slice A la.length c] w fun e w' => e = .returned (.bool true) ∧ Below w.heap.size w w') := fun A c w h => few_any k m A c la true w hk hm h (by simp [hf])
    have K := Lib.hid (Lk.start w)
    replace K := Lib.hid (K.out.rr' ha)
    replace K := Lib.hid (K.out.bs' hn)
    clear ha hn
    go_enter Try.func25, Try.ntmps25
    go_wp2_with (first
      | (go_at_call 69; (with_reducible refine (awake6 _).mono ?_); rintro e w1 ⟨rfl, hbel⟩; (first | replace K := Lib.hid (K.out.below hbel) | replace K := Lib.hid ((K.out.alloc _).below hbel) | replace K := Lib.hid (((K.out.alloc _).alloc _).below hbel) | replace K := Lib.hid ((((K.out.alloc _).alloc _).alloc _).below hbel) | replace K := Lib.hid (((((K.out.alloc _).alloc _).alloc _).alloc _).below hbel) | replace K := Lib.hid (K.out.drew.below hbel) | replace K := Lib.hid ((K.out.drewN _).below hbel)); clear hbel)
      | (go_at_call 37; (with_reducible refine (new_any _).mono ?_); rintro e w2 ⟨rfl, hbel, hg⟩; (first | replace K := Lib.hid (K.out.below hbel) | replace K := Lib.hid ((K.out.alloc _).below hbel) | replace K := Lib.hid (((K.out.alloc _).alloc _).below hbel) | replace K := Lib.hid ((((K.out.alloc _).alloc _).alloc _).below hbel) | replace K := Lib.hid (((((K.out.alloc _).alloc _).alloc _).alloc _).below hbel) | replace K := Lib.hid (K.out.drew.below hbel) | replace K := Lib.hid ((K.out.drewN _).below hbel)); clear hbel; replace K := Lib.hid (K.out.withF hg); clear hg)
      | (go_at_call 70; (with_reducible refine (FW.out _ _ _ ?_).mono ?_); (first | exact K.out.at (.head _) | exact (K.out.alloc _).at (.head _) | exact ((K.out.alloc _).alloc _).at (.head _) | exact (((K.out.alloc _).alloc _).alloc _).at (.head _) | exact ((((K.out.alloc _).alloc _).alloc _).alloc _).at (.head _) | exact K.out.drew.at (.head _) | exact (K.out.drewN _).at (.head _)); rintro e w3 ⟨rfl, hbel⟩; (first | replace K := Lib.hid (K.out.below hbel) | replace K := Lib.hid ((K.out.alloc _).below hbel) | replace K := Lib.hid (((K.out.alloc _).alloc _).below hbel) | replace K := Lib.hid ((((K.out.alloc _).alloc _).alloc _).below hbel) | replace K := Lib.hid (((((K.out.alloc _).alloc _).alloc _).alloc _).below hbel) | replace K := Lib.hid (K.out.drew.below hbel) | replace K := Lib.hid ((K.out.drewN _).below hbel)); clear hbel; obtain ⟨b1, o1, A1, c1, hA, y1, _⟩ := (K.out.at (.head _)).get (i := 0) hka; subst hA; rw [Nat.add_zero, HP.out] at y1))
    go_ret
    exact ⟨rfl, K.out.since⟩
  have d2 : ((ln.length : Int) == (P : Int)) = true := by rw [beq_iff_eq]; omega
  have d3 : ((ln.length : Int) != (P : Int)) = false := by rw [bne_eq_false_iff_eq]; omega
  have HNP := Lib.hid hnP
  have FW : Hid (∀ A c w, Rr w A c la → Calls Try.prog 70 #[.int .i64 k, .int .i64 m, .slice A la.length c] w fun e w' => e = .returned (.bool true) ∧ Below w.heap.size w w') := fun A c w h => few_any k m A c la true w hk hm h (by simp [hf])
  have hna : la.length ≤ 900 := by have := hf.1; omega
  have hla := hf.le
  have hP30 : P ≤ 30 := by rw [← hP]; exact hf.2.1 0 hka
  obtain ⟨X, E, kca, EA, _⟩ := enc_out k m la hk hm hna hla
  have HEA := Lib.hid EA
  clear EA
  by_cases hE : E = 0
  rotate_left
  · have dE0 : (E == 0) = false := by rw [beq_eq_false_iff_ne]; exact hE
    have dE1 : (E != 0) = true := by rw [bne_iff_ne]; exact hE
    clear hE kca hf hla hna hnP hP
    have K := Lib.hid (Lk.start w)
    replace K := Lib.hid (K.out.rr' ha)
    replace K := Lib.hid (K.out.bs' hn)
    clear ha hn
    go_enter Try.func25, Try.ntmps25
    go_wp2_with (first
      | (go_at_call 69; (with_reducible refine (awake6 _).mono ?_); rintro e w1 ⟨rfl, hbel⟩; (first | replace K := Lib.hid (K.out.below hbel) | replace K := Lib.hid ((K.out.alloc _).below hbel) | replace K := Lib.hid (((K.out.alloc _).alloc _).below hbel) | replace K := Lib.hid ((((K.out.alloc _).alloc _).alloc _).below hbel) | replace K := Lib.hid (((((K.out.alloc _).alloc _).alloc _).alloc _).below hbel) | replace K := Lib.hid (K.out.drew.below hbel) | replace K := Lib.hid ((K.out.drewN _).below hbel)); clear hbel)
      | (go_at_call 37; (with_reducible refine (new_any _).mono ?_); rintro e w2 ⟨rfl, hbel, hg⟩; (first | replace K := Lib.hid (K.out.below hbel) | replace K := Lib.hid ((K.out.alloc _).below hbel) | replace K := Lib.hid (((K.out.alloc _).alloc _).below hbel) | replace K := Lib.hid ((((K.out.alloc _).alloc _).alloc _).below hbel) | replace K := Lib.hid (((((K.out.alloc _).alloc _).alloc _).alloc _).below hbel) | replace K := Lib.hid (K.out.drew.below hbel) | replace K := Lib.hid ((K.out.drewN _).below hbel)); clear hbel; replace K := Lib.hid (K.out.withF hg); clear hg)
      | (go_at_call 70; (with_reducible refine (FW.out _ _ _ ?_).mono ?_); (first | exact K.out.at (.head _) | exact (K.out.alloc _).at (.head _) | exact ((K.out.alloc _).alloc _).at (.head _) | exact (((K.out.alloc _).alloc _).alloc _).at (.head _) | exact ((((K.out.alloc _).alloc _).alloc _).alloc _).at (.head _) | exact K.out.drew.at (.head _) | exact (K.out.drewN _).at (.head _)); rintro e w3 ⟨rfl, hbel⟩; (first | replace K := Lib.hid (K.out.below hbel) | replace K := Lib.hid ((K.out.alloc _).below hbel) | replace K := Lib.hid (((K.out.alloc _).alloc _).below hbel) | replace K := Lib.hid ((((K.out.alloc _).alloc _).alloc _).below hbel) | replace K := Lib.hid (((((K.out.alloc _).alloc _).alloc _).alloc _).below hbel) | replace K := Lib.hid (K.out.drew.below hbel) | replace K := Lib.hid ((K.out.drewN _).below hbel)); clear hbel; obtain ⟨b1, o1, A1, c1, hA, y1, _⟩ := (K.out.at (.head _)).get (i := 0) hka; subst hA; rw [Nat.add_zero, HP.out] at y1)
      | (go_at_call 71; (with_reducible refine (HEA.out _ _ _ _ ?_ ?_).mono ?_); (first | exact K.out.gf | exact (K.out.alloc _).gf | exact K.out.drew.gf | exact ((K.out.alloc _).alloc _).gf | exact (((K.out.alloc _).alloc _).alloc _).gf | exact (((((K.out.alloc _).alloc _).alloc _).alloc _)).gf); (first | exact K.out.at (.head _) | exact (K.out.alloc _).at (.head _) | exact ((K.out.alloc _).alloc _).at (.head _) | exact (((K.out.alloc _).alloc _).alloc _).at (.head _) | exact ((((K.out.alloc _).alloc _).alloc _).alloc _).at (.head _) | exact K.out.drew.at (.head _) | exact (K.out.drewN _).at (.head _)); rintro e w4 ⟨Ax, cx, rfl, hr, hbel⟩; (first | replace K := Lib.hid (K.out.below hbel) | replace K := Lib.hid ((K.out.alloc _).below hbel) | replace K := Lib.hid (((K.out.alloc _).alloc _).below hbel) | replace K := Lib.hid ((((K.out.alloc _).alloc _).alloc _).below hbel) | replace K := Lib.hid (((((K.out.alloc _).alloc _).alloc _).alloc _).below hbel) | replace K := Lib.hid (K.out.drew.below hbel) | replace K := Lib.hid ((K.out.drewN _).below hbel)); replace K := Lib.hid (K.out.rr' hr); clear hr; clear hbel))
    go_ret
    exact ⟨rfl, K.out.since⟩
  subst hE
  obtain ⟨k, m, rfl, rfl, hkm, hal, rfl, hk1, hkb⟩ := kca.ok
  have qa := hal.eql
  rw [hP] at qa
  have hjk : j < k := by rw [← qa.len]; exact hja
  have qX := qa.enc hk1 m
  have hXl : (enc k m la).length = k + m := qX.len
  have hU := upd_drop (m := m) qa hk1 hnP hjk
  have hAl := alk_parity (m := m) qa hk1 hnP hjk
  have qS := qa.set hnP hjk
  have qY := qS.enc hk1 m
  have hYl : (enc k m (la.set j ln)).length = k + m := qY.len
  have HUP : Hid (∀ b A1 c1 A2 c2 A c w, GfAt w b → Bs w A1 c1 (la.getD j []) → Bs w A2 c2 ln → Rr w A c ((enc k m la).drop k) → Calls Try.prog 76 #[fp b, .int .i64 k, .int .i64 m, .int .i64 j, .slice A1 (lenAt la j) c1, .slice A2 ln.length c2, .slice A ((enc k m la).length - k) c] w (ShR w ((enc k m (la.set j ln)).drop k) 0)) := fun b A1 c1 A2 c2 A c w hg h1 h2 hr => by
    obtain ⟨L, G, hc, hb, _⟩ := upd_out (k : Int) (m : Int) (j : Int) (la.getD j []) ln ((enc k m la).drop k) hk hm hj (by rw [List.length_drop]; omega) (by show lenAt la j ≤ _; rw [qa.row j hjk]; omega)
    rcases hc with ⟨_, _, rfl, rfl⟩ | ⟨_, h, _⟩ | ⟨h, _⟩
    · have := hb b A1 c1 A2 c2 A c w hg h1 h2 hr
      rw [List.length_drop] at this
      rw [← hU]
      exact this
    · exact absurd ⟨hAl, by omega, by omega⟩ h
    · exact absurd hkm h
  have CPY : Hid (∀ A c w, Rr w A c la → Calls Try.prog 79 #[.slice A la.length c] w fun e w' => ∃ A' c' rs, e = .returned (.slice A' la.length c') ∧ lsts rs = la ∧ MadeR w w' A' la.length c' rs) := fun A c w h => by
    obtain ⟨vs, h1, h2⟩ := h.ex
    exact ref06_copied A _ c vs la w h1 h2 rfl (by omega) hla
  have HEO : Hid (∀ b A c w, GfAt w b → Rr w A c (la.set j ln) → Calls Try.prog 71 #[fp b, .int .i64 k, .int .i64 m, .slice A la.length c] w (ShR w (enc k m (la.set j ln)) 0)) := fun b A c w hg hr => by
    have := enc_yes hkm qS.alk (qS.le (by omega)) b A c w hg hr
    rw [List.length_set] at this
    exact this
  have SD : Hid (∀ A c A' c' w, Rr w A c ((enc k m (la.set j ln)).drop k) → Rr w A' c' ((enc k m (la.set j ln)).drop k) → Calls Try.prog 75 #[.slice A ((enc k m (la.set j ln)).length - k) c, .slice A' ((enc k m (la.set j ln)).length - k) c'] w fun e w' => e = .returned (.bool true) ∧ Below w.heap.size w w') := fun A c A' c' w h h' => by
    have := same_out _ _ true (by simp) (by rw [List.length_drop]; omega) A c A' c' w h h'
    rw [show ((enc k m (la.set j ln)).drop k).length = (enc k m (la.set j ln)).length - k from List.length_drop ..] at this
    exact this
  have dk0 : (((enc k m la).length : Int) == (k : Int) + (m : Int)) = true := by rw [beq_iff_eq]; omega
  have dk1 : (((enc k m la).length : Int) != (k : Int) + (m : Int)) = false := by rw [bne_eq_false_iff_eq]; omega
  have dy0 : (((enc k m (la.set j ln)).length : Int) == (k : Int) + (m : Int)) = true := by rw [beq_iff_eq]; omega
  have dy1 : (((enc k m (la.set j ln)).length : Int) != (k : Int) + (m : Int)) = false := by rw [bne_eq_false_iff_eq]; omega
  have hx1 : (k : Int) ≤ ((enc k m la).length : Int) := by omega
  have hy1 : (k : Int) ≤ ((enc k m (la.set j ln)).length : Int) := by omega
  have hx2 : k ≤ (enc k m la).length := by omega
  have hy2 : k ≤ (enc k m (la.set j ln)).length := by omega
  have hx3 : (enc k m la).length ≤ 256 := by omega
  have hy3 : (enc k m (la.set j ln)).length ≤ 256 := by omega
  have hjt : (j : Int) < (la.length : Int) := by omega
  clear hf hla hnP hP hal qa qX qS qY hU hAl kca hXl hYl
  generalize enc k m (la.set j ln) = Y at *
  generalize enc k m la = X at *
  have K := Lib.hid (Lk.start w)
  replace K := Lib.hid (K.out.rr' ha)
  replace K := Lib.hid (K.out.bs' hn)
  clear ha hn
  go_enter Try.func25, Try.ntmps25
  go_wp2_with (first
    | (go_at_call 69; (with_reducible refine (awake6 _).mono ?_); rintro e w1 ⟨rfl, hbel⟩; (first | replace K := Lib.hid (K.out.below hbel) | replace K := Lib.hid ((K.out.alloc _).below hbel) | replace K := Lib.hid (((K.out.alloc _).alloc _).below hbel) | replace K := Lib.hid ((((K.out.alloc _).alloc _).alloc _).below hbel) | replace K := Lib.hid (((((K.out.alloc _).alloc _).alloc _).alloc _).below hbel) | replace K := Lib.hid (K.out.drew.below hbel) | replace K := Lib.hid ((K.out.drewN _).below hbel)); clear hbel)
    | (go_at_call 37; (with_reducible refine (new_any _).mono ?_); rintro e w2 ⟨rfl, hbel, hg⟩; (first | replace K := Lib.hid (K.out.below hbel) | replace K := Lib.hid ((K.out.alloc _).below hbel) | replace K := Lib.hid (((K.out.alloc _).alloc _).below hbel) | replace K := Lib.hid ((((K.out.alloc _).alloc _).alloc _).below hbel) | replace K := Lib.hid (((((K.out.alloc _).alloc _).alloc _).alloc _).below hbel) | replace K := Lib.hid (K.out.drew.below hbel) | replace K := Lib.hid ((K.out.drewN _).below hbel)); clear hbel; replace K := Lib.hid (K.out.withF hg); clear hg)
    | (go_at_call 70; (with_reducible refine (FW.out _ _ _ ?_).mono ?_); (first | exact K.out.at (.head _) | exact (K.out.alloc _).at (.head _) | exact ((K.out.alloc _).alloc _).at (.head _) | exact (((K.out.alloc _).alloc _).alloc _).at (.head _) | exact ((((K.out.alloc _).alloc _).alloc _).alloc _).at (.head _) | exact K.out.drew.at (.head _) | exact (K.out.drewN _).at (.head _)); rintro e w3 ⟨rfl, hbel⟩; (first | replace K := Lib.hid (K.out.below hbel) | replace K := Lib.hid ((K.out.alloc _).below hbel) | replace K := Lib.hid (((K.out.alloc _).alloc _).below hbel) | replace K := Lib.hid ((((K.out.alloc _).alloc _).alloc _).below hbel) | replace K := Lib.hid (((((K.out.alloc _).alloc _).alloc _).alloc _).below hbel) | replace K := Lib.hid (K.out.drew.below hbel) | replace K := Lib.hid ((K.out.drewN _).below hbel)); clear hbel; obtain ⟨b1, o1, A1, c1, hA, y1, _⟩ := (K.out.at (.head _)).get (i := 0) hka; subst hA; rw [Nat.add_zero, HP.out] at y1)
    | (go_at_call 71; (with_reducible refine (HEA.out _ _ _ _ ?_ ?_).mono ?_); (first | exact K.out.gf | exact (K.out.alloc _).gf | exact K.out.drew.gf | exact ((K.out.alloc _).alloc _).gf | exact (((K.out.alloc _).alloc _).alloc _).gf | exact (((((K.out.alloc _).alloc _).alloc _).alloc _)).gf); (first | exact K.out.at (.head _) | exact (K.out.alloc _).at (.head _) | exact ((K.out.alloc _).alloc _).at (.head _) | exact (((K.out.alloc _).alloc _).alloc _).at (.head _) | exact ((((K.out.alloc _).alloc _).alloc _).alloc _).at (.head _) | exact K.out.drew.at (.head _) | exact (K.out.drewN _).at (.head _)); rintro e w4 ⟨Ax, cx, rfl, hr, hbel⟩; (first | replace K := Lib.hid (K.out.below hbel) | replace K := Lib.hid ((K.out.alloc _).below hbel) | replace K := Lib.hid (((K.out.alloc _).alloc _).below hbel) | replace K := Lib.hid ((((K.out.alloc _).alloc _).alloc _).below hbel) | replace K := Lib.hid (((((K.out.alloc _).alloc _).alloc _).alloc _).below hbel) | replace K := Lib.hid (K.out.drew.below hbel) | replace K := Lib.hid ((K.out.drewN _).below hbel)); replace K := Lib.hid (K.out.rr' hr); clear hr; clear hbel))
  clear y1
  obtain ⟨b2, o2, A2, c2, hA, y2, hs2⟩ := (K.out.at (.tail _ (.head _))).get (i := j) hja
  injection hA with hA
  obtain ⟨rfl, rfl⟩ : b1 = b2 ∧ o1 = o2 := by injection hA with e1 e2; exact ⟨e1, e2⟩
  replace K := Lib.hid (K.out.bs' hs2)
  clear hs2 hA
  have hcx := (K.out.at (.head _)).le.2
  unfold maxLen at hcx
  have hcx1 := (K.out.at (.head _)).le.1
  have hdr := (K.out.at (.head _)).drop hx2
  obtain ⟨AR, har⟩ : ∃ AR, rowA Ax cx k = AR := ⟨_, rfl⟩
  rw [har] at hdr
  have hif : (if cx = k then Ax else Option.map (fun x => x.add k) Ax) = AR := har
  replace K := Lib.hid (K.out.rr' hdr)
  clear hdr har
  go_wp2
  go_region_law (go_simp; go_at_call 76; (with_reducible refine (HUP.out _ _ _ _ _ _ _ _ ?_ ?_ ?_ ?_).mono ?_); (first | exact K.out.gf | exact (K.out.alloc _).gf | exact K.out.drew.gf | exact ((K.out.alloc _).alloc _).gf | exact (((K.out.alloc _).alloc _).alloc _).gf | exact (((((K.out.alloc _).alloc _).alloc _).alloc _)).gf); (first | exact K.out.sat (.head _) | exact (K.out.alloc _).sat (.head _) | exact ((K.out.alloc _).alloc _).sat (.head _) | exact (((K.out.alloc _).alloc _).alloc _).sat (.head _) | exact ((((K.out.alloc _).alloc _).alloc _).alloc _).sat (.head _) | exact K.out.drew.sat (.head _) | exact (K.out.drewN _).sat (.head _)); (first | exact K.out.sat (.tail _ (.head _)) | exact (K.out.alloc _).sat (.tail _ (.head _)) | exact ((K.out.alloc _).alloc _).sat (.tail _ (.head _)) | exact (((K.out.alloc _).alloc _).alloc _).sat (.tail _ (.head _)) | exact ((((K.out.alloc _).alloc _).alloc _).alloc _).sat (.tail _ (.head _)) | exact K.out.drew.sat (.tail _ (.head _)) | exact (K.out.drewN _).sat (.tail _ (.head _))); (first | exact K.out.at (.head _) | exact (K.out.alloc _).at (.head _) | exact ((K.out.alloc _).alloc _).at (.head _) | exact (((K.out.alloc _).alloc _).alloc _).at (.head _) | exact ((((K.out.alloc _).alloc _).alloc _).alloc _).at (.head _) | exact K.out.drew.at (.head _) | exact (K.out.drewN _).at (.head _)); rintro e w7 ⟨Au, cu, rfl, hr, hbel⟩; (first | replace K := Lib.hid (K.out.below hbel) | replace K := Lib.hid ((K.out.alloc _).below hbel) | replace K := Lib.hid (((K.out.alloc _).alloc _).below hbel) | replace K := Lib.hid ((((K.out.alloc _).alloc _).alloc _).below hbel) | replace K := Lib.hid (((((K.out.alloc _).alloc _).alloc _).alloc _).below hbel) | replace K := Lib.hid (K.out.drew.below hbel) | replace K := Lib.hid ((K.out.drewN _).below hbel)); replace K := Lib.hid (K.out.rr' hr); clear hr; clear hbel)
  clear hif y2
  go_wp2_with (go_at_call 79; (with_reducible refine (CPY.out _ _ _ ?_).mono ?_); (first | exact K.out.at (.tail _ (.tail _ (.tail _ (.head _)))) | exact (K.out.alloc _).at (.tail _ (.tail _ (.tail _ (.head _)))) | exact ((K.out.alloc _).alloc _).at (.tail _ (.tail _ (.tail _ (.head _)))) | exact (((K.out.alloc _).alloc _).alloc _).at (.tail _ (.tail _ (.tail _ (.head _)))) | exact ((((K.out.alloc _).alloc _).alloc _).alloc _).at (.tail _ (.tail _ (.tail _ (.head _)))) | exact K.out.drew.at (.tail _ (.tail _ (.tail _ (.head _)))) | exact (K.out.drewN _).at (.tail _ (.tail _ (.tail _ (.head _))))); rintro e w9 ⟨Ao, co, rs, rfl, hls, hmr⟩; obtain ⟨g, hA, hsp⟩ := Spn.of hmr hls hka; subst hA; have SP := Lib.hid hsp; obtain ⟨⟨v0, hc0⟩, hf0, hB0⟩ := hsp.at (i := j) hja; clear hsp hls hmr)
  have SP2 := Lib.hid (SP.out.put (i := j) (K.out.sat (.tail _ (.head _))))
  replace K := Lib.hid ((K.out.below SP2.out.bel).rr' SP2.out.rr)
  clear SP SP2 hc0 hf0 hB0
  go_wp2_with (first
    | (go_at_call 71; (with_reducible refine (HEO.out _ _ _ _ ?_ ?_).mono ?_); (first | exact K.out.gf | exact (K.out.alloc _).gf | exact K.out.drew.gf | exact ((K.out.alloc _).alloc _).gf | exact (((K.out.alloc _).alloc _).alloc _).gf | exact (((((K.out.alloc _).alloc _).alloc _).alloc _)).gf); (first | exact K.out.at (.head _) | exact (K.out.alloc _).at (.head _) | exact ((K.out.alloc _).alloc _).at (.head _) | exact (((K.out.alloc _).alloc _).alloc _).at (.head _) | exact ((((K.out.alloc _).alloc _).alloc _).alloc _).at (.head _) | exact K.out.drew.at (.head _) | exact (K.out.drewN _).at (.head _)); rintro e w5 ⟨Ay, cy, rfl, hr, hbel⟩; (first | replace K := Lib.hid (K.out.below hbel) | replace K := Lib.hid ((K.out.alloc _).below hbel) | replace K := Lib.hid (((K.out.alloc _).alloc _).below hbel) | replace K := Lib.hid ((((K.out.alloc _).alloc _).alloc _).below hbel) | replace K := Lib.hid (((((K.out.alloc _).alloc _).alloc _).alloc _).below hbel) | replace K := Lib.hid (K.out.drew.below hbel) | replace K := Lib.hid ((K.out.drewN _).below hbel)); replace K := Lib.hid (K.out.rr' hr); clear hr; clear hbel; have hcy := (K.out.at (.head _)).le.2; unfold maxLen at hcy; have hcy1 := (K.out.at (.head _)).le.1; have hdr := (K.out.at (.head _)).drop hy2; obtain ⟨AS, har⟩ : ∃ AS, rowA Ay cy k = AS := ⟨_, rfl⟩; rw [har] at hdr; have hif2 : (if cy = k then Ay else Option.map (fun x => x.add k) Ay) = AS := har; replace K := Lib.hid (K.out.rr' hdr); clear hdr har)
    | (go_at_call 75; (with_reducible refine (SD.out _ _ _ _ _ ?_ ?_).mono ?_); (first | exact K.out.at (.tail _ (.tail _ (.tail _ (.head _)))) | exact (K.out.alloc _).at (.tail _ (.tail _ (.tail _ (.head _)))) | exact ((K.out.alloc _).alloc _).at (.tail _ (.tail _ (.tail _ (.head _)))) | exact (((K.out.alloc _).alloc _).alloc _).at (.tail _ (.tail _ (.tail _ (.head _)))) | exact ((((K.out.alloc _).alloc _).alloc _).alloc _).at (.tail _ (.tail _ (.tail _ (.head _)))) | exact K.out.drew.at (.tail _ (.tail _ (.tail _ (.head _)))) | exact (K.out.drewN _).at (.tail _ (.tail _ (.tail _ (.head _))))); (first | exact K.out.at (.head _) | exact (K.out.alloc _).at (.head _) | exact ((K.out.alloc _).alloc _).at (.head _) | exact (((K.out.alloc _).alloc _).alloc _).at (.head _) | exact ((((K.out.alloc _).alloc _).alloc _).alloc _).at (.head _) | exact K.out.drew.at (.head _) | exact (K.out.drewN _).at (.head _)); rintro e w6 ⟨rfl, hbel⟩; (first | replace K := Lib.hid (K.out.below hbel) | replace K := Lib.hid ((K.out.alloc _).below hbel) | replace K := Lib.hid (((K.out.alloc _).alloc _).below hbel) | replace K := Lib.hid ((((K.out.alloc _).alloc _).alloc _).below hbel) | replace K := Lib.hid (((((K.out.alloc _).alloc _).alloc _).alloc _).below hbel) | replace K := Lib.hid (K.out.drew.below hbel) | replace K := Lib.hid ((K.out.drewN _).below hbel)); clear hbel))
  go_ret
  exact ⟨rfl, K.out.since⟩
end Go.Proofs.Ytmkjplpnoohfnaa
