/- BulkSingle, walked. -/
import Derived.Test.YtmkjplpnoohfnaaLaw06c
namespace Go.Proofs.Ytmkjplpnoohfnaa
open Go.RowKit
set_option linter.unusedVariables false
set_option linter.unusedSimpArgs false
theorem parF_ne {k m a t : Nat} (hkm : k + m ≤ 256) (ha : a < m) (ht : t < k) : parF k a t ≠ 0 :=
  F.inv_ne_zero (of_add_ne' (by omega) (by omega) (by omega))
/-- one number of a list of shards turned -/
def putL (X : List (List F)) (q p : Nat) (y : F) : List (List F) := X.set q ((X.getD q []).set p (at2 X q p + y))
theorem at2_putL {X : List (List F)} {q p : Nat} {y : F} (hq : q < X.length) (hp : p < lenAt X q) (a x : Nat) : at2 (putL X q p y) a x = if a = q ∧ x = p then at2 X q p + y else at2 X a x := by
  unfold putL at2
  rw [getD_set_row hq]
  by_cases e : a = q
  · subst e
    rw [if_pos rfl]
    by_cases e2 : x = p
    · subst e2
      rw [if_pos ⟨rfl, rfl⟩, getD_set_eq _ _ _ hp]
    · rw [if_neg (fun h => e2 h.2), getD_set_ne _ _ _ _ (fun h => e2 h.symm)]
  · rw [if_neg e, if_neg (fun h => e h.1)]
theorem Eql.putL {X : List (List F)} {n L q p : Nat} (h : Eql X n L) (hq : q < n) (y : F) : Eql (putL X q p y) n L := h.set (by rw [List.length_set]; exact h.row q hq) hq
theorem at2_take {ls : List (List F)} {k a : Nat} (ha : a < k) (x : Nat) : at2 (ls.take k) a x = at2 ls a x := by
  have e : (ls.take k).getD a [] = ls.getD a [] := by rw [List.getD_eq_getElem?_getD, List.getElem?_take, if_pos ha, ← List.getD_eq_getElem?_getD]
  unfold at2
  rw [e]
theorem Eql.take {ls : List (List F)} {n L k : Nat} (h : Eql ls n L) (hk : k ≤ n) : Eql (ls.take k) k L := ⟨by rw [List.length_take, h.len]; omega, fun i hi => by rw [lenAt_take hi]; exact h.row i (by omega)⟩
/-- what the parity shards hold, where a number of the data is turned -/
theorem enc_put {k m L q p : Nat} {la : List (List F)} {y : F} (h : Eql la k L) (h1 : 1 ≤ k) (hq : q < k) (hp : p < L) {i : Nat} (hi : k ≤ i) (hi2 : i < k + m) : at2 (enc k m ((putL (enc k m la) q p y).take k)) i p = at2 (enc k m la) i p + parF k (i - k) q * y := by
  have hX := h.enc h1 m
  have hY := (hX.putL (p := p) (show q < k + m by omega) y).take (k := k) (by omega)
  rw [at2_enc hY h1 hi2 hp, if_neg (by omega), at2_enc h h1 hi2 hp, if_neg (by omega)]
  have e : ∀ t, t < k → at2 ((putL (enc k m la) q p y).take k) t p = at2 la t p + if t = q then y else 0 := fun t ht => by
    rw [at2_take ht, at2_putL (by rw [hX.len]; omega) (by rw [hX.row q (by omega)]; exact hp)]
    by_cases e : t = q
    · subst e; rw [if_pos ⟨rfl, rfl⟩, if_pos rfl, at2_enc_low h.len ht]
    · rw [if_neg (fun h => e h.1), if_neg e, F.add_zero, at2_enc_low h.len ht]
  rw [sumF_congr fun t ht => by rw [e t ht, F.mul_add], sumF_add]
  congr 1
  rw [sumF_one q hq fun t ht hne => by rw [if_neg hne, F.mul_zero], if_pos rfl]
theorem enc_put_ne {k m L q p : Nat} {la : List (List F)} {y : F} (h : Eql la k L) (h1 : 1 ≤ k) (hkm : k + m ≤ 256) (hm : 0 < m) (hq : q < k + m) (hp : p < L) (hy : y ≠ 0) : enc k m ((putL (enc k m la) q p y).take k) ≠ putL (enc k m la) q p y := fun e => by
  have hX := h.enc h1 m
  have hqp := at2_putL (X := enc k m la) (y := y) (by rw [hX.len]; exact hq) (by rw [hX.row q hq]; exact hp)
  rcases Nat.lt_or_ge q k with hqk | hqk
  · have e1 := enc_put (m := m) (y := y) h h1 hqk hp (Nat.le_refl k) (by omega)
    rw [e, hqp, if_neg (by omega)] at e1
    have e2 : parF k (k - k) q * y = 0 := by
      have := congrArg (fun z => at2 (enc k m la) k p + z) e1
      (try dsimp only at this)
      rwa [F.add_self, ← F.add_assoc, F.add_self, F.zero_add, eq_comm] at this
    rcases F.mul_eq_zero.1 e2 with h3 | h3
    · exact parF_ne hkm (by omega) hqk h3
    · exact hy h3
  · have e0 : (putL (enc k m la) q p y).take k = la := by
      refine ((hX.putL (p := p) hq y).take (k := k) (by omega)).ext h fun a x ha hx => ?_
      rw [at2_take ha, hqp, if_neg (by omega), at2_enc_low h.len ha]
    rw [e0] at e
    have e1 := congrArg (fun z => at2 z q p) e
    (try dsimp only at e1)
    rw [hqp, if_pos ⟨rfl, rfl⟩] at e1
    have := congrArg (fun z => at2 (enc k m la) q p + z) e1
    (try dsimp only at this)
    rw [F.add_self, ← F.add_assoc, F.add_self, F.zero_add] at this
    exact hy this.symm
set_option maxRecDepth 1000000 in
set_option maxHeartbeats 4000000 in
theorem walk_BulkSingle {w : World} (k : Int) (hk : -9223372036854775808 ≤ k ∧ k ≤ 9223372036854775807) (m : Int) (hm : -9223372036854775808 ≤ m ∧ m ≤ 9223372036854775807) (Aa : Option Addr) (ca : Nat) (la : List (List F)) (ha : Rr w Aa ca la) (q : Int) (hq : -9223372036854775808 ≤ q ∧ q ≤ 9223372036854775807) (p : Int) (hp : -9223372036854775808 ≤ p ∧ p ≤ 9223372036854775807) (y : F) :
    Calls Try.prog 26 #[.int .i64 k, .int .i64 m, .slice Aa la.length ca, .int .i64 q, .int .i64 p, .int .u8 y.n] w fun e w' => e = .returned (.bool true) ∧ Below w.heap.size w w' := by
  by_cases hf : FewP k m la
  rotate_left
  · have FW : Hid (∀ A c w, Rr w A c la → Calls Try.prog 70 #[.int .i64 k, .int .i64 m, .slice A la.length c] w fun e w' => e = .returned (.bool false) ∧ Below w.heap.size w w') := fun A c w h => few_any k m A c la false w hk hm h (by simp [hf])
    have K := Lib.hid (Lk.start w)
    replace K := Lib.hid (K.out.rr' ha)
    clear ha
    go_enter Try.func26, Try.ntmps26
    go_wp2_with (first
      | (go_at_call 69; (with_reducible refine (awake6 _).mono ?_); rintro e w1 ⟨rfl, hbel⟩; (first | replace K := Lib.hid (K.out.below hbel) | replace K := Lib.hid ((K.out.alloc _).below hbel) | replace K := Lib.hid (((K.out.alloc _).alloc _).below hbel) | replace K := Lib.hid ((((K.out.alloc _).alloc _).alloc _).below hbel) | replace K := Lib.hid (((((K.out.alloc _).alloc _).alloc _).alloc _).below hbel) | replace K := Lib.hid (K.out.drew.below hbel) | replace K := Lib.hid ((K.out.drewN _).below hbel)); clear hbel)
      | (go_at_call 37; (with_reducible refine (new_any _).mono ?_); rintro e w2 ⟨rfl, hbel, hg⟩; (first | replace K := Lib.hid (K.out.below hbel) | replace K := Lib.hid ((K.out.alloc _).below hbel) | replace K := Lib.hid (((K.out.alloc _).alloc _).below hbel) | replace K := Lib.hid ((((K.out.alloc _).alloc _).alloc _).below hbel) | replace K := Lib.hid (((((K.out.alloc _).alloc _).alloc _).alloc _).below hbel) | replace K := Lib.hid (K.out.drew.below hbel) | replace K := Lib.hid ((K.out.drewN _).below hbel)); clear hbel; replace K := Lib.hid (K.out.withF hg); clear hg)
      | (go_at_call 70; (with_reducible refine (FW.out _ _ _ ?_).mono ?_); (first | exact K.out.at (.head _) | exact (K.out.alloc _).at (.head _) | exact ((K.out.alloc _).alloc _).at (.head _) | exact (((K.out.alloc _).alloc _).alloc _).at (.head _) | exact ((((K.out.alloc _).alloc _).alloc _).alloc _).at (.head _) | exact K.out.drew.at (.head _) | exact (K.out.drewN _).at (.head _)); rintro e w3 ⟨rfl, hbel⟩; (first | replace K := Lib.hid (K.out.below hbel) | replace K := Lib.hid ((K.out.alloc _).below hbel) | replace K := Lib.hid (((K.out.alloc _).alloc _).below hbel) | replace K := Lib.hid ((((K.out.alloc _).alloc _).alloc _).below hbel) | replace K := Lib.hid (((((K.out.alloc _).alloc _).alloc _).alloc _).below hbel) | replace K := Lib.hid (K.out.drew.below hbel) | replace K := Lib.hid ((K.out.drewN _).below hbel)); clear hbel))
    go_ret
    exact ⟨rfl, K.out.since⟩
  have FW : Hid (∀ A c w, Rr w A c la → Calls Try.prog 70 #[.int .i64 k, .int .i64 m, .slice A la.length c] w fun e w' => e = .returned (.bool true) ∧ Below w.heap.size w w') := fun A c w h => few_any k m A c la true w hk hm h (by simp [hf])
  have hna : la.length ≤ 900 := by have := hf.1; omega
  have hla := hf.le
  obtain ⟨X, E, kca, EA, _⟩ := enc_out k m la hk hm hna hla
  have HEA := Lib.hid EA
  clear EA
  by_cases hE : E = 0
  rotate_left
  · have dE0 : (E == 0) = false := by rw [beq_eq_false_iff_ne]; exact hE
    have dE1 : (E != 0) = true := by rw [bne_iff_ne]; exact hE
    clear hE kca hf hla hna
    have K := Lib.hid (Lk.start w)
    replace K := Lib.hid (K.out.rr' ha)
    clear ha
    go_enter Try.func26, Try.ntmps26
    go_wp2_with (first
      | (go_at_call 69; (with_reducible refine (awake6 _).mono ?_); rintro e w1 ⟨rfl, hbel⟩; (first | replace K := Lib.hid (K.out.below hbel) | replace K := Lib.hid ((K.out.alloc _).below hbel) | replace K := Lib.hid (((K.out.alloc _).alloc _).below hbel) | replace K := Lib.hid ((((K.out.alloc _).alloc _).alloc _).below hbel) | replace K := Lib.hid (((((K.out.alloc _).alloc _).alloc _).alloc _).below hbel) | replace K := Lib.hid (K.out.drew.below hbel) | replace K := Lib.hid ((K.out.drewN _).below hbel)); clear hbel)
      | (go_at_call 37; (with_reducible refine (new_any _).mono ?_); rintro e w2 ⟨rfl, hbel, hg⟩; (first | replace K := Lib.hid (K.out.below hbel) | replace K := Lib.hid ((K.out.alloc _).below hbel) | replace K := Lib.hid (((K.out.alloc _).alloc _).below hbel) | replace K := Lib.hid ((((K.out.alloc _).alloc _).alloc _).below hbel) | replace K := Lib.hid (((((K.out.alloc _).alloc _).alloc _).alloc _).below hbel) | replace K := Lib.hid (K.out.drew.below hbel) | replace K := Lib.hid ((K.out.drewN _).below hbel)); clear hbel; replace K := Lib.hid (K.out.withF hg); clear hg)
      | (go_at_call 70; (with_reducible refine (FW.out _ _ _ ?_).mono ?_); (first | exact K.out.at (.head _) | exact (K.out.alloc _).at (.head _) | exact ((K.out.alloc _).alloc _).at (.head _) | exact (((K.out.alloc _).alloc _).alloc _).at (.head _) | exact ((((K.out.alloc _).alloc _).alloc _).alloc _).at (.head _) | exact K.out.drew.at (.head _) | exact (K.out.drewN _).at (.head _)); rintro e w3 ⟨rfl, hbel⟩; (first | replace K := Lib.hid (K.out.below hbel) | replace K := Lib.hid ((K.out.alloc _).below hbel) | replace K := Lib.hid (((K.out.alloc _).alloc _).below hbel) | replace K := Lib.hid ((((K.out.alloc _).alloc _).alloc _).below hbel) | replace K := Lib.hid (((((K.out.alloc _).alloc _).alloc _).alloc _).below hbel) | replace K := Lib.hid (K.out.drew.below hbel) | replace K := Lib.hid ((K.out.drewN _).below hbel)); clear hbel)
      | (go_at_call 71; (with_reducible refine (HEA.out _ _ _ _ ?_ ?_).mono ?_); (first | exact K.out.gf | exact (K.out.alloc _).gf | exact K.out.drew.gf | exact ((K.out.alloc _).alloc _).gf | exact (((K.out.alloc _).alloc _).alloc _).gf | exact (((((K.out.alloc _).alloc _).alloc _).alloc _)).gf); (first | exact K.out.at (.head _) | exact (K.out.alloc _).at (.head _) | exact ((K.out.alloc _).alloc _).at (.head _) | exact (((K.out.alloc _).alloc _).alloc _).at (.head _) | exact ((((K.out.alloc _).alloc _).alloc _).alloc _).at (.head _) | exact K.out.drew.at (.head _) | exact (K.out.drewN _).at (.head _)); rintro e w4 ⟨Ax, cx, rfl, hr, hbel⟩; (first | replace K := Lib.hid (K.out.below hbel) | replace K := Lib.hid ((K.out.alloc _).below hbel) | replace K := Lib.hid (((K.out.alloc _).alloc _).below hbel) | replace K := Lib.hid ((((K.out.alloc _).alloc _).alloc _).below hbel) | replace K := Lib.hid (((((K.out.alloc _).alloc _).alloc _).alloc _).below hbel) | replace K := Lib.hid (K.out.drew.below hbel) | replace K := Lib.hid ((K.out.drewN _).below hbel)); replace K := Lib.hid (K.out.rr' hr); clear hr; clear hbel))
    go_ret
    exact ⟨rfl, K.out.since⟩
  subst hE
  obtain ⟨k, m, rfl, rfl, hkm, hal, rfl, hk1, hkb⟩ := kca.ok
  have qa := hal.eql
  have hka : 0 < la.length := by rw [qa.len]; omega
  obtain ⟨P, hP⟩ : ∃ P, lenAt la 0 = P := ⟨_, rfl⟩
  have hP30 : P ≤ 30 := by rw [← hP]; exact hf.2.1 0 hka
  rw [hP] at qa
  have HP := Lib.hid hP
  have d4 : (0 : Int) < (la.length : Int) := by omega
  have qX := qa.enc hk1 m
  have hXl : (enc k m la).length = k + m := qX.len
  by_cases hm0 : m = 0
  · have dm0 : ((m : Int) == 0) = true := by rw [beq_iff_eq]; omega
    have HM0 := Lib.hid hm0
    clear hm0
    clear kca hf hla hna hal qa qX hXl hP hkm
    generalize enc k m la = X at *
    have K := Lib.hid (Lk.start w)
    replace K := Lib.hid (K.out.rr' ha)
    clear ha
    go_enter Try.func26, Try.ntmps26
    go_wp2_with (first
      | (go_at_call 69; (with_reducible refine (awake6 _).mono ?_); rintro e w1 ⟨rfl, hbel⟩; (first | replace K := Lib.hid (K.out.below hbel) | replace K := Lib.hid ((K.out.alloc _).below hbel) | replace K := Lib.hid (((K.out.alloc _).alloc _).below hbel) | replace K := Lib.hid ((((K.out.alloc _).alloc _).alloc _).below hbel) | replace K := Lib.hid (((((K.out.alloc _).alloc _).alloc _).alloc _).below hbel) | replace K := Lib.hid (K.out.drew.below hbel) | replace K := Lib.hid ((K.out.drewN _).below hbel)); clear hbel)
      | (go_at_call 37; (with_reducible refine (new_any _).mono ?_); rintro e w2 ⟨rfl, hbel, hg⟩; (first | replace K := Lib.hid (K.out.below hbel) | replace K := Lib.hid ((K.out.alloc _).below hbel) | replace K := Lib.hid (((K.out.alloc _).alloc _).below hbel) | replace K := Lib.hid ((((K.out.alloc _).alloc _).alloc _).below hbel) | replace K := Lib.hid (((((K.out.alloc _).alloc _).alloc _).alloc _).below hbel) | replace K := Lib.hid (K.out.drew.below hbel) | replace K := Lib.hid ((K.out.drewN _).below hbel)); clear hbel; replace K := Lib.hid (K.out.withF hg); clear hg)
      | (go_at_call 70; (with_reducible refine (FW.out _ _ _ ?_).mono ?_); (first | exact K.out.at (.head _) | exact (K.out.alloc _).at (.head _) | exact ((K.out.alloc _).alloc _).at (.head _) | exact (((K.out.alloc _).alloc _).alloc _).at (.head _) | exact ((((K.out.alloc _).alloc _).alloc _).alloc _).at (.head _) | exact K.out.drew.at (.head _) | exact (K.out.drewN _).at (.head _)); rintro e w3 ⟨rfl, hbel⟩; (first | replace K := Lib.hid (K.out.below hbel) | replace K := Lib.hid ((K.out.alloc _).below hbel) | replace K := Lib.hid (((K.out.alloc _).alloc _).below hbel) | replace K := Lib.hid ((((K.out.alloc _).alloc _).alloc _).below hbel) | replace K := Lib.hid (((((K.out.alloc _).alloc _).alloc _).alloc _).below hbel) | replace K := Lib.hid (K.out.drew.below hbel) | replace K := Lib.hid ((K.out.drewN _).below hbel)); clear hbel)
      | (go_at_call 71; (with_reducible refine (HEA.out _ _ _ _ ?_ ?_).mono ?_); (first | exact K.out.gf | exact (K.out.alloc _).gf | exact K.out.drew.gf | exact ((K.out.alloc _).alloc _).gf | exact (((K.out.alloc _).alloc _).alloc _).gf | exact (((((K.out.alloc _).alloc _).alloc _).alloc _)).gf); (first | exact K.out.at (.head _) | exact (K.out.alloc _).at (.head _) | exact ((K.out.alloc _).alloc _).at (.head _) | exact (((K.out.alloc _).alloc _).alloc _).at (.head _) | exact ((((K.out.alloc _).alloc _).alloc _).alloc _).at (.head _) | exact K.out.drew.at (.head _) | exact (K.out.drewN _).at (.head _)); rintro e w4 ⟨Ax, cx, rfl, hr, hbel⟩; (first | replace K := Lib.hid (K.out.below hbel) | replace K := Lib.hid ((K.out.alloc _).below hbel) | replace K := Lib.hid (((K.out.alloc _).alloc _).below hbel) | replace K := Lib.hid ((((K.out.alloc _).alloc _).alloc _).below hbel) | replace K := Lib.hid (((((K.out.alloc _).alloc _).alloc _).alloc _).below hbel) | replace K := Lib.hid (K.out.drew.below hbel) | replace K := Lib.hid ((K.out.drewN _).below hbel)); replace K := Lib.hid (K.out.rr' hr); clear hr; clear hbel))
    go_ret
    exact ⟨rfl, K.out.since⟩
  have dm0 : ((m : Int) == 0) = false := by rw [beq_eq_false_iff_ne]; omega
  by_cases hy : y = 0
  · have dy0 : ((y.n : Int) == 0) = true := by rw [hy]; rfl
    clear hy
    clear kca hf hla hna hal qa qX hXl hP hkm
    generalize enc k m la = X at *
    have K := Lib.hid (Lk.start w)
    replace K := Lib.hid (K.out.rr' ha)
    clear ha
    go_enter Try.func26, Try.ntmps26
    go_wp2_with (first
      | (go_at_call 69; (with_reducible refine (awake6 _).mono ?_); rintro e w1 ⟨rfl, hbel⟩; (first | replace K := Lib.hid (K.out.below hbel) | replace K := Lib.hid ((K.out.alloc _).below hbel) | replace K := Lib.hid (((K.out.alloc _).alloc _).below hbel) | replace K := Lib.hid ((((K.out.alloc _).alloc _).alloc _).below hbel) | replace K := Lib.hid (((((K.out.alloc _).alloc _).alloc _).alloc _).below hbel) | replace K := Lib.hid (K.out.drew.below hbel) | replace K := Lib.hid ((K.out.drewN _).below hbel)); clear hbel)
      | (go_at_call 37; (with_reducible refine (new_any _).mono ?_); rintro e w2 ⟨rfl, hbel, hg⟩; (first | replace K := Lib.hid (K.out.below hbel) | replace K := Lib.hid ((K.out.alloc _).below hbel) | replace K := Lib.hid (((K.out.alloc _).alloc _).below hbel) | replace K := Lib.hid ((((K.out.alloc _).alloc _).alloc _).below hbel) | replace K := Lib.hid (((((K.out.alloc _).alloc _).alloc _).alloc _).below hbel) | replace K := Lib.hid (K.out.drew.below hbel) | replace K := Lib.hid ((K.out.drewN _).below hbel)); clear hbel; replace K := Lib.hid (K.out.withF hg); clear hg)
      | (go_at_call 70; (with_reducible refine (FW.out _ _ _ ?_).mono ?_); (first | exact K.out.at (.head _) | exact (K.out.alloc _).at (.head _) | exact ((K.out.alloc _).alloc _).at (.head _) | exact (((K.out.alloc _).alloc _).alloc _).at (.head _) | exact ((((K.out.alloc _).alloc _).alloc _).alloc _).at (.head _) | exact K.out.drew.at (.head _) | exact (K.out.drewN _).at (.head _)); rintro e w3 ⟨rfl, hbel⟩; (first | replace K := Lib.hid (K.out.below hbel) | replace K := Lib.hid ((K.out.alloc _).below hbel) | replace K := Lib.hid (((K.out.alloc _).alloc _).below hbel) | replace K := Lib.hid ((((K.out.alloc _).alloc _).alloc _).below hbel) | replace K := Lib.hid (((((K.out.alloc _).alloc _).alloc _).alloc _).below hbel) | replace K := Lib.hid (K.out.drew.below hbel) | replace K := Lib.hid ((K.out.drewN _).below hbel)); clear hbel)
      | (go_at_call 71; (with_reducible refine (HEA.out _ _ _ _ ?_ ?_).mono ?_); (first | exact K.out.gf | exact (K.out.alloc _).gf | exact K.out.drew.gf | exact ((K.out.alloc _).alloc _).gf | exact (((K.out.alloc _).alloc _).alloc _).gf | exact (((((K.out.alloc _).alloc _).alloc _).alloc _)).gf); (first | exact K.out.at (.head _) | exact (K.out.alloc _).at (.head _) | exact ((K.out.alloc _).alloc _).at (.head _) | exact (((K.out.alloc _).alloc _).alloc _).at (.head _) | exact ((((K.out.alloc _).alloc _).alloc _).alloc _).at (.head _) | exact K.out.drew.at (.head _) | exact (K.out.drewN _).at (.head _)); rintro e w4 ⟨Ax, cx, rfl, hr, hbel⟩; (first | replace K := Lib.hid (K.out.below hbel) | replace K := Lib.hid ((K.out.alloc _).below hbel) | replace K := Lib.hid (((K.out.alloc _).alloc _).below hbel) | replace K := Lib.hid ((((K.out.alloc _).alloc _).alloc _).below hbel) | replace K := Lib.hid (((((K.out.alloc _).alloc _).alloc _).alloc _).below hbel) | replace K := Lib.hid (K.out.drew.below hbel) | replace K := Lib.hid ((K.out.drewN _).below hbel)); replace K := Lib.hid (K.out.rr' hr); clear hr; clear hbel))
    go_ret
    exact ⟨rfl, K.out.since⟩
  have dy0 : ((y.n : Int) == 0) = false := bne_n (y := 0) hy
  by_cases hq0 : 0 ≤ q
  rotate_left
  · have dq0 : decide (q < 0) = true := decide_eq_true (by omega)
    clear kca hf hla hna hal qa qX hXl hP hkm
    generalize enc k m la = X at *
    have K := Lib.hid (Lk.start w)
    replace K := Lib.hid (K.out.rr' ha)
    clear ha
    go_enter Try.func26, Try.ntmps26
    go_wp2_with (first
      | (go_at_call 69; (with_reducible refine (awake6 _).mono ?_); rintro e w1 ⟨rfl, hbel⟩; (first | replace K := Lib.hid (K.out.below hbel) | replace K := Lib.hid ((K.out.alloc _).below hbel) | replace K := Lib.hid (((K.out.alloc _).alloc _).below hbel) | replace K := Lib.hid ((((K.out.alloc _).alloc _).alloc _).below hbel) | replace K := Lib.hid (((((K.out.alloc _).alloc _).alloc _).alloc _).below hbel) | replace K := Lib.hid (K.out.drew.below hbel) | replace K := Lib.hid ((K.out.drewN _).below hbel)); clear hbel)
      | (go_at_call 37; (with_reducible refine (new_any _).mono ?_); rintro e w2 ⟨rfl, hbel, hg⟩; (first | replace K := Lib.hid (K.out.below hbel) | replace K := Lib.hid ((K.out.alloc _).below hbel) | replace K := Lib.hid (((K.out.alloc _).alloc _).below hbel) | replace K := Lib.hid ((((K.out.alloc _).alloc _).alloc _).below hbel) | replace K := Lib.hid (((((K.out.alloc _).alloc _).alloc _).alloc _).below hbel) | replace K := Lib.hid (K.out.drew.below hbel) | replace K := Lib.hid ((K.out.drewN _).below hbel)); clear hbel; replace K := Lib.hid (K.out.withF hg); clear hg)
      | (go_at_call 70; (with_reducible refine (FW.out _ _ _ ?_).mono ?_); (first | exact K.out.at (.head _) | exact (K.out.alloc _).at (.head _) | exact ((K.out.alloc _).alloc _).at (.head _) | exact (((K.out.alloc _).alloc _).alloc _).at (.head _) | exact ((((K.out.alloc _).alloc _).alloc _).alloc _).at (.head _) | exact K.out.drew.at (.head _) | exact (K.out.drewN _).at (.head _)); rintro e w3 ⟨rfl, hbel⟩; (first | replace K := Lib.hid (K.out.below hbel) | replace K := Lib.hid ((K.out.alloc _).below hbel) | replace K := Lib.hid (((K.out.alloc _).alloc _).below hbel) | replace K := Lib.hid ((((K.out.alloc _).alloc _).alloc _).below hbel) | replace K := Lib.hid (((((K.out.alloc _).alloc _).alloc _).alloc _).below hbel) | replace K := Lib.hid (K.out.drew.below hbel) | replace K := Lib.hid ((K.out.drewN _).below hbel)); clear hbel)
      | (go_at_call 71; (with_reducible refine (HEA.out _ _ _ _ ?_ ?_).mono ?_); (first | exact K.out.gf | exact (K.out.alloc _).gf | exact K.out.drew.gf | exact ((K.out.alloc _).alloc _).gf | exact (((K.out.alloc _).alloc _).alloc _).gf | exact (((((K.out.alloc _).alloc _).alloc _).alloc _)).gf); (first | exact K.out.at (.head _) | exact (K.out.alloc _).at (.head _) | exact ((K.out.alloc _).alloc _).at (.head _) | exact (((K.out.alloc _).alloc _).alloc _).at (.head _) | exact ((((K.out.alloc _).alloc _).alloc _).alloc _).at (.head _) | exact K.out.drew.at (.head _) | exact (K.out.drewN _).at (.head _)); rintro e w4 ⟨Ax, cx, rfl, hr, hbel⟩; (first | replace K := Lib.hid (K.out.below hbel) | replace K := Lib.hid ((K.out.alloc _).below hbel) | replace K := Lib.hid (((K.out.alloc _).alloc _).below hbel) | replace K := Lib.hid ((((K.out.alloc _).alloc _).alloc _).below hbel) | replace K := Lib.hid (((((K.out.alloc _).alloc _).alloc _).alloc _).below hbel) | replace K := Lib.hid (K.out.drew.below hbel) | replace K := Lib.hid ((K.out.drewN _).below hbel)); replace K := Lib.hid (K.out.rr' hr); clear hr; clear hbel))
    go_ret
    exact ⟨rfl, K.out.since⟩
  obtain ⟨q, rfl⟩ := Int.eq_ofNat_of_zero_le hq0
  have dq0 : decide ((q : Int) < 0) = false := decide_eq_false (by omega)
  by_cases hqn : q < k + m
  rotate_left
  · have dq1 : (k : Int) + (m : Int) ≤ (q : Int) := by omega
    clear kca hf hla hna hal qa qX hXl hP hkm
    generalize enc k m la = X at *
    have K := Lib.hid (Lk.start w)
    replace K := Lib.hid (K.out.rr' ha)
    clear ha
    go_enter Try.func26, Try.ntmps26
    go_wp2_with (first
      | (go_at_call 69; (with_reducible refine (awake6 _).mono ?_); rintro e w1 ⟨rfl, hbel⟩; (first | replace K := Lib.hid (K.out.below hbel) | replace K := Lib.hid ((K.out.alloc _).below hbel) | replace K := Lib.hid (((K.out.alloc _).alloc _).below hbel) | replace K := Lib.hid ((((K.out.alloc _).alloc _).alloc _).below hbel) | replace K := Lib.hid (((((K.out.alloc _).alloc _).alloc _).alloc _).below hbel) | replace K := Lib.hid (K.out.drew.below hbel) | replace K := Lib.hid ((K.out.drewN _).below hbel)); clear hbel)
      | (go_at_call 37; (with_reducible refine (new_any _).mono ?_); rintro e w2 ⟨rfl, hbel, hg⟩; (first | replace K := Lib.hid (K.out.below hbel) | replace K := Lib.hid ((K.out.alloc _).below hbel) | replace K := Lib.hid (((K.out.alloc _).alloc _).below hbel) | replace K := Lib.hid ((((K.out.alloc _).alloc _).alloc _).below hbel) | replace K := Lib.hid (((((K.out.alloc _).alloc _).alloc _).alloc _).below hbel) | replace K := Lib.hid (K.out.drew.below hbel) | replace K := Lib.hid ((K.out.drewN _).below hbel)); clear hbel; replace K := Lib.hid (K.out.withF hg); clear hg)
      | (go_at_call 70; (with_reducible refine (FW.out _ _ _ ?_).mono ?_); (first | exact K.out.at (.head _) | exact (K.out.alloc _).at (.head _) | exact ((K.out.alloc _).alloc _).at (.head _) | exact (((K.out.alloc _).alloc _).alloc _).at (.head _) | exact ((((K.out.alloc _).alloc _).alloc _).alloc _).at (.head _) | exact K.out.drew.at (.head _) | exact (K.out.drewN _).at (.head _)); rintro e w3 ⟨rfl, hbel⟩; (first | replace K := Lib.hid (K.out.below hbel) | replace K := Lib.hid ((K.out.alloc _).below hbel) | replace K := Lib.hid (((K.out.alloc _).alloc _).below hbel) | replace K := Lib.hid ((((K.out.alloc _).alloc _).alloc _).below hbel) | replace K := Lib.hid (((((K.out.alloc _).alloc _).alloc _).alloc _).below hbel) | replace K := Lib.hid (K.out.drew.below hbel) | replace K := Lib.hid ((K.out.drewN _).below hbel)); clear hbel)
      | (go_at_call 71; (with_reducible refine (HEA.out _ _ _ _ ?_ ?_).mono ?_); (first | exact K.out.gf | exact (K.out.alloc _).gf | exact K.out.drew.gf | exact ((K.out.alloc _).alloc _).gf | exact (((K.out.alloc _).alloc _).alloc _).gf | exact (((((K.out.alloc _).alloc _).alloc _).alloc _)).gf); (first | exact K.out.at (.head _) | exact (K.out.alloc _).at (.head _) | exact ((K.out.alloc _).alloc _).at (.head _) | exact (((K.out.alloc _).alloc _).alloc _).at (.head _) | exact ((((K.out.alloc _).alloc _).alloc _).alloc _).at (.head _) | exact K.out.drew.at (.head _) | exact (K.out.drewN _).at (.head _)); rintro e w4 ⟨Ax, cx, rfl, hr, hbel⟩; (first | replace K := Lib.hid (K.out.below hbel) | replace K := Lib.hid ((K.out.alloc _).below hbel) | replace K := Lib.hid (((K.out.alloc _).alloc _).below hbel) | replace K := Lib.hid ((((K.out.alloc _).alloc _).alloc _).below hbel) | replace K := Lib.hid (((((K.out.alloc _).alloc _).alloc _).alloc _).below hbel) | replace K := Lib.hid (K.out.drew.below hbel) | replace K := Lib.hid ((K.out.drewN _).below hbel)); replace K := Lib.hid (K.out.rr' hr); clear hr; clear hbel))
    go_ret
    exact ⟨rfl, K.out.since⟩
  have dq1 : ¬ (k : Int) + (m : Int) ≤ (q : Int) := by omega
  by_cases hp0 : 0 ≤ p
  rotate_left
  · have dp0 : decide (p < 0) = true := decide_eq_true (by omega)
    clear kca hf hla hna hal qa qX hXl hP hkm
    generalize enc k m la = X at *
    have K := Lib.hid (Lk.start w)
    replace K := Lib.hid (K.out.rr' ha)
    clear ha
    go_enter Try.func26, Try.ntmps26
    go_wp2_with (first
      | (go_at_call 69; (with_reducible refine (awake6 _).mono ?_); rintro e w1 ⟨rfl, hbel⟩; (first | replace K := Lib.hid (K.out.below hbel) | replace K := Lib.hid ((K.out.alloc _).below hbel) | replace K := Lib.hid (((K.out.alloc _).alloc _).below hbel) | replace K := Lib.hid ((((K.out.alloc _).alloc _).alloc _).below hbel) | replace K := Lib.hid (((((K.out.alloc _).alloc _).alloc _).alloc _).below hbel) | replace K := Lib.hid (K.out.drew.below hbel) | replace K := Lib.hid ((K.out.drewN _).below hbel)); clear hbel)
      | (go_at_call 37; (with_reducible refine (new_any _).mono ?_); rintro e w2 ⟨rfl, hbel, hg⟩; (first | replace K := Lib.hid (K.out.below hbel) | replace K := Lib.hid ((K.out.alloc _).below hbel) | replace K := Lib.hid (((K.out.alloc _).alloc _).below hbel) | replace K := Lib.hid ((((K.out.alloc _).alloc _).alloc _).below hbel) | replace K := Lib.hid (((((K.out.alloc _).alloc _).alloc _).alloc _).below hbel) | replace K := Lib.hid (K.out.drew.below hbel) | replace K := Lib.hid ((K.out.drewN _).below hbel)); clear hbel; replace K := Lib.hid (K.out.withF hg); clear hg)
      | (go_at_call 70; (with_reducible refine (FW.out _ _ _ ?_).mono ?_); (first | exact K.out.at (.head _) | exact (K.out.alloc _).at (.head _) | exact ((K.out.alloc _).alloc _).at (.head _) | exact (((K.out.alloc _).alloc _).alloc _).at (.head _) | exact ((((K.out.alloc _).alloc _).alloc _).alloc _).at (.head _) | exact K.out.drew.at (.head _) | exact (K.out.drewN _).at (.head _)); rintro e w3 ⟨rfl, hbel⟩; (first | replace K := Lib.hid (K.out.below hbel) | replace K := Lib.hid ((K.out.alloc _).below hbel) | replace K := Lib.hid (((K.out.alloc _).alloc _).below hbel) | replace K := Lib.hid ((((K.out.alloc _).alloc _).alloc _).below hbel) | replace K := Lib.hid (((((K.out.alloc _).alloc _).alloc _).alloc _).below hbel) | replace K := Lib.hid (K.out.drew.below hbel) | replace K := Lib.hid ((K.out.drewN _).below hbel)); clear hbel)
      | (go_at_call 71; (with_reducible refine (HEA.out _ _ _ _ ?_ ?_).mono ?_); (first | exact K.out.gf | exact (K.out.alloc _).gf | exact K.out.drew.gf | exact ((K.out.alloc _).alloc _).gf | exact (((K.out.alloc _).alloc _).alloc _).gf | exact (((((K.out.alloc _).alloc _).alloc _).alloc _)).gf); (first | exact K.out.at (.head _) | exact (K.out.alloc _).at (.head _) | exact ((K.out.alloc _).alloc _).at (.head _) | exact (((K.out.alloc _).alloc _).alloc _).at (.head _) | exact ((((K.out.alloc _).alloc _).alloc _).alloc _).at (.head _) | exact K.out.drew.at (.head _) | exact (K.out.drewN _).at (.head _)); rintro e w4 ⟨Ax, cx, rfl, hr, hbel⟩; (first | replace K := Lib.hid (K.out.below hbel) | replace K := Lib.hid ((K.out.alloc _).below hbel) | replace K := Lib.hid (((K.out.alloc _).alloc _).below hbel) | replace K := Lib.hid ((((K.out.alloc _).alloc _).alloc _).below hbel) | replace K := Lib.hid (((((K.out.alloc _).alloc _).alloc _).alloc _).below hbel) | replace K := Lib.hid (K.out.drew.below hbel) | replace K := Lib.hid ((K.out.drewN _).below hbel)); replace K := Lib.hid (K.out.rr' hr); clear hr; clear hbel))
    go_ret
    exact ⟨rfl, K.out.since⟩
  obtain ⟨p, rfl⟩ := Int.eq_ofNat_of_zero_le hp0
  have dp0 : decide ((p : Int) < 0) = false := decide_eq_false (by omega)
  by_cases hpn : p < P
  rotate_left
  · have dp1 : (P : Int) ≤ (p : Int) := by omega
    clear kca hf hla hna hal qa qX hXl hP hkm
    generalize enc k m la = X at *
    have K := Lib.hid (Lk.start w)
    replace K := Lib.hid (K.out.rr' ha)
    clear ha
    go_enter Try.func26, Try.ntmps26
    go_wp2_with (first
      | (go_at_call 69; (with_reducible refine (awake6 _).mono ?_); rintro e w1 ⟨rfl, hbel⟩; (first | replace K := Lib.hid (K.out.below hbel) | replace K := Lib.hid ((K.out.alloc _).below hbel) | replace K := Lib.hid (((K.out.alloc _).alloc _).below hbel) | replace K := Lib.hid ((((K.out.alloc _).alloc _).alloc _).below hbel) | replace K := Lib.hid (((((K.out.alloc _).alloc _).alloc _).alloc _).below hbel) | replace K := Lib.hid (K.out.drew.below hbel) | replace K := Lib.hid ((K.out.drewN _).below hbel)); clear hbel)
      | (go_at_call 37; (with_reducible refine (new_any _).mono ?_); rintro e w2 ⟨rfl, hbel, hg⟩; (first | replace K := Lib.hid (K.out.below hbel) | replace K := Lib.hid ((K.out.alloc _).below hbel) | replace K := Lib.hid (((K.out.alloc _).alloc _).below hbel) | replace K := Lib.hid ((((K.out.alloc _).alloc _).alloc _).below hbel) | replace K := Lib.hid (((((K.out.alloc _).alloc _).alloc _).alloc _).below hbel) | replace K := Lib.hid (K.out.drew.below hbel) | replace K := Lib.hid ((K.out.drewN _).below hbel)); clear hbel; replace K := Lib.hid (K.out.withF hg); clear hg)
      | (go_at_call 70; (with_reducible refine (FW.out _ _ _ ?_).mono ?_); (first | exact K.out.at (.head _) | exact (K.out.alloc _).at (.head _) | exact ((K.out.alloc _).alloc _).at (.head _) | exact (((K.out.alloc _).alloc _).alloc _).at (.head _) | exact ((((K.out.alloc _).alloc _).alloc _).alloc _).at (.head _) | exact K.out.drew.at (.head _) | exact (K.out.drewN _).at (.head _)); rintro e w3 ⟨rfl, hbel⟩; (first | replace K := Lib.hid (K.out.below hbel) | replace K := Lib.hid ((K.out.alloc _).below hbel) | replace K := Lib.hid (((K.out.alloc _).alloc _).below hbel) | replace K := Lib.hid ((((K.out.alloc _).alloc _).alloc _).below hbel) | replace K := Lib.hid (((((K.out.alloc _).alloc _).alloc _).alloc _).below hbel) | replace K := Lib.hid (K.out.drew.below hbel) | replace K := Lib.hid ((K.out.drewN _).below hbel)); clear hbel)
      | (go_at_call 71; (with_reducible refine (HEA.out _ _ _ _ ?_ ?_).mono ?_); (first | exact K.out.gf | exact (K.out.alloc _).gf | exact K.out.drew.gf | exact ((K.out.alloc _).alloc _).gf | exact (((K.out.alloc _).alloc _).alloc _).gf | exact (((((K.out.alloc _).alloc _).alloc _).alloc _)).gf); (first | exact K.out.at (.head _) | exact (K.out.alloc _).at (.head _) | exact ((K.out.alloc _).alloc _).at (.head _) | exact (((K.out.alloc _).alloc _).alloc _).at (.head _) | exact ((((K.out.alloc _).alloc _).alloc _).alloc _).at (.head _) | exact K.out.drew.at (.head _) | exact (K.out.drewN _).at (.head _)); rintro e w4 ⟨Ax, cx, rfl, hr, hbel⟩; (first | replace K := Lib.hid (K.out.below hbel) | replace K := Lib.hid ((K.out.alloc _).below hbel) | replace K := Lib.hid (((K.out.alloc _).alloc _).below hbel) | replace K := Lib.hid ((((K.out.alloc _).alloc _).alloc _).below hbel) | replace K := Lib.hid (((((K.out.alloc _).alloc _).alloc _).alloc _).below hbel) | replace K := Lib.hid (K.out.drew.below hbel) | replace K := Lib.hid ((K.out.drewN _).below hbel)); replace K := Lib.hid (K.out.rr' hr); clear hr; clear hbel; obtain ⟨b1, o1, A1, c1, hA, y1, _⟩ := (K.out.at (.tail _ (.head _))).get (i := 0) hka; subst hA; rw [Nat.add_zero, HP.out] at y1))
    go_ret
    exact ⟨rfl, K.out.since⟩
  have dp1 : ¬ (P : Int) ≤ (p : Int) := by omega
  have qY := qX.putL (p := p) hqn y
  have hYl : (putL (enc k m la) q p y).length = k + m := qY.len
  have hNE := enc_put_ne qa hk1 hkb (by omega) hqn hpn hy
  have CPY : Hid (∀ A c w, Rr w A c (enc k m la) → Calls Try.prog 79 #[.slice A (enc k m la).length c] w fun e w' => ∃ A' c' rs, e = .returned (.slice A' (enc k m la).length c') ∧ lsts rs = enc k m la ∧ MadeR w w' A' (enc k m la).length c' rs) := fun A c w h => by
    obtain ⟨vs, h1, h2⟩ := h.ex
    exact ref06_copied A _ c vs _ w h1 h2 rfl (by omega) (qX.le (by omega))
  have FT : Hid (∀ b A c w, GfAt w b → Rr w A c (putL (enc k m la) q p y) → Calls Try.prog 73 #[fp b, .int .i64 k, .int .i64 m, .slice A (enc k m la).length c] w (BoR w false 0)) := fun b A c w hg h => by
    have := fit_yes (r := false) hkm qY.alk (qY.le (by omega)) ⟨(fun h => by cases h), fun h => absurd h hNE⟩ b A c w hg h
    rw [hYl] at this
    rw [hXl]
    exact this
  have qT := qY.take (k := k) (by omega)
  have qZ := qT.enc hk1 m
  have hZl : (enc k m ((putL (enc k m la) q p y).take k)).length = k + m := qZ.len
  have HEZ : Hid (∀ b A c w, GfAt w b → Rr w A c ((putL (enc k m la) q p y).take k) → Calls Try.prog 71 #[fp b, .int .i64 k, .int .i64 m, .slice A k c] w (ShR w (enc k m ((putL (enc k m la) q p y).take k)) 0)) := fun b A c w hg hr => by
    have := enc_yes hkm qT.alk (qT.le (by omega)) b A c w hg hr
    rw [qT.len] at this
    exact this
  have ROWX : Hid (∀ i, i < k + m → lenAt (enc k m la) i = P) := fun i hi => qX.row i hi
  have ROWZ : Hid (∀ i, i < k + m → lenAt (enc k m ((putL (enc k m la) q p y).take k)) i = P) := fun i hi => qZ.row i hi
  have UNL : Hid (q < k → ∀ i, k ≤ i → i < k + m → at2 (enc k m ((putL (enc k m la) q p y).take k)) i p ≠ at2 (enc k m la) i p) := fun hqk i h1 h2 h3 => by
    rw [enc_put qa hk1 hqk hpn h1 h2] at h3
    have := congrArg (fun z => at2 (enc k m la) i p + z) h3
    (try dsimp only at this)
    rw [F.add_self, ← F.add_assoc, F.add_self, F.zero_add] at this
    rcases F.mul_eq_zero.1 this with h4 | h4
    · exact parF_ne hkb (by omega) hqk h4
    · exact hy h4
  have PUT : Hid (putL (enc k m la) q p y = (enc k m la).set q (((enc k m la).getD q []).set p (at2 (enc k m la) q p + y))) := rfl
  have dz0 : (((enc k m ((putL (enc k m la) q p y).take k)).length : Int) == (k : Int) + (m : Int)) = true := by rw [beq_iff_eq]; omega
  have dz1 : (((enc k m ((putL (enc k m la) q p y).take k)).length : Int) != (k : Int) + (m : Int)) = false := by rw [bne_eq_false_iff_eq]; omega
  have hXL2 : k + m ≤ (enc k m la).length := by omega
  have hXL3 : (enc k m la).length ≤ 256 := by omega
  have hZL2 : k + m ≤ (enc k m ((putL (enc k m la) q p y).take k)).length := by omega
  have HXL := Lib.hid hXl
  have HZL := Lib.hid hZl
  clear kca hf hla hna hal qa qX hXl hP hkm qY hYl hNE qT qZ hZl hy
  generalize enc k m ((putL (enc k m la) q p y).take k) = Z at *
  generalize putL (enc k m la) q p y = Yl at *
  generalize enc k m la = X at *
  have K := Lib.hid (Lk.start w)
  replace K := Lib.hid (K.out.rr' ha)
  clear ha
  go_enter Try.func26, Try.ntmps26
  go_wp2_with (first
    | (go_at_call 69; (with_reducible refine (awake6 _).mono ?_); rintro e w1 ⟨rfl, hbel⟩; (first | replace K := Lib.hid (K.out.below hbel) | replace K := Lib.hid ((K.out.alloc _).below hbel) | replace K := Lib.hid (((K.out.alloc _).alloc _).below hbel) | replace K := Lib.hid ((((K.out.alloc _).alloc _).alloc _).below hbel) | replace K := Lib.hid (((((K.out.alloc _).alloc _).alloc _).alloc _).below hbel) | replace K := Lib.hid (K.out.drew.below hbel) | replace K := Lib.hid ((K.out.drewN _).below hbel)); clear hbel)
    | (go_at_call 37; (with_reducible refine (new_any _).mono ?_); rintro e w2 ⟨rfl, hbel, hg⟩; (first | replace K := Lib.hid (K.out.below hbel) | replace K := Lib.hid ((K.out.alloc _).below hbel) | replace K := Lib.hid (((K.out.alloc _).alloc _).below hbel) | replace K := Lib.hid ((((K.out.alloc _).alloc _).alloc _).below hbel) | replace K := Lib.hid (((((K.out.alloc _).alloc _).alloc _).alloc _).below hbel) | replace K := Lib.hid (K.out.drew.below hbel) | replace K := Lib.hid ((K.out.drewN _).below hbel)); clear hbel; replace K := Lib.hid (K.out.withF hg); clear hg)
    | (go_at_call 70; (with_reducible refine (FW.out _ _ _ ?_).mono ?_); (first | exact K.out.at (.head _) | exact (K.out.alloc _).at (.head _) | exact ((K.out.alloc _).alloc _).at (.head _) | exact (((K.out.alloc _).alloc _).alloc _).at (.head _) | exact ((((K.out.alloc _).alloc _).alloc _).alloc _).at (.head _) | exact K.out.drew.at (.head _) | exact (K.out.drewN _).at (.head _)); rintro e w3 ⟨rfl, hbel⟩; (first | replace K := Lib.hid (K.out.below hbel) | replace K := Lib.hid ((K.out.alloc _).below hbel) | replace K := Lib.hid (((K.out.alloc _).alloc _).below hbel) | replace K := Lib.hid ((((K.out.alloc _).alloc _).alloc _).below hbel) | replace K := Lib.hid (((((K.out.alloc _).alloc _).alloc _).alloc _).below hbel) | replace K := Lib.hid (K.out.drew.below hbel) | replace K := Lib.hid ((K.out.drewN _).below hbel)); clear hbel)
    | (go_at_call 71; (with_reducible refine (HEA.out _ _ _ _ ?_ ?_).mono ?_); (first | exact K.out.gf | exact (K.out.alloc _).gf | exact K.out.drew.gf | exact ((K.out.alloc _).alloc _).gf | exact (((K.out.alloc _).alloc _).alloc _).gf | exact (((((K.out.alloc _).alloc _).alloc _).alloc _)).gf); (first | exact K.out.at (.head _) | exact (K.out.alloc _).at (.head _) | exact ((K.out.alloc _).alloc _).at (.head _) | exact (((K.out.alloc _).alloc _).alloc _).at (.head _) | exact ((((K.out.alloc _).alloc _).alloc _).alloc _).at (.head _) | exact K.out.drew.at (.head _) | exact (K.out.drewN _).at (.head _)); rintro e w4 ⟨Ax, cx, rfl, hr, hbel⟩; (first | replace K := Lib.hid (K.out.below hbel) | replace K := Lib.hid ((K.out.alloc _).below hbel) | replace K := Lib.hid (((K.out.alloc _).alloc _).below hbel) | replace K := Lib.hid ((((K.out.alloc _).alloc _).alloc _).below hbel) | replace K := Lib.hid (((((K.out.alloc _).alloc _).alloc _).alloc _).below hbel) | replace K := Lib.hid (K.out.drew.below hbel) | replace K := Lib.hid ((K.out.drewN _).below hbel)); replace K := Lib.hid (K.out.rr' hr); clear hr; clear hbel; obtain ⟨b1, o1, A1, c1, hA, y1, _⟩ := (K.out.at (.tail _ (.head _))).get (i := 0) hka; subst hA; rw [Nat.add_zero, HP.out] at y1)
    | (go_at_call 79; (with_reducible refine (CPY.out _ _ _ ?_).mono ?_); (first | exact K.out.at (.head _) | exact (K.out.alloc _).at (.head _) | exact ((K.out.alloc _).alloc _).at (.head _) | exact (((K.out.alloc _).alloc _).alloc _).at (.head _) | exact ((((K.out.alloc _).alloc _).alloc _).alloc _).at (.head _) | exact K.out.drew.at (.head _) | exact (K.out.drewN _).at (.head _)); rintro e w9 ⟨Ao, co, rs, rfl, hls, hmr⟩; have HLS := Lib.hid hls; have MR := Lib.hid hmr; clear hls hmr))
  clear y1
  have hrs : rs.length = X.length := by rw [← HLS.out, length_lsts]
  obtain ⟨r, hr⟩ : ∃ r, rs[q]? = some r := ⟨rs[q]'(by omega), List.getElem?_eq_getElem _⟩
  have hrx : r.2.2 = X.getD q [] := by
    have := lsts_at HLS.out hr
    rw [List.getD_eq_getElem?_getD, this]; rfl
  have hrl : r.2.2.length = P := by rw [hrx]; exact ROWX.out q hqn
  obtain ⟨g, hgA, hcl, hfz, hmk⟩ := MR.out.byte hr (x := p) (by omega)
  have hls2 : ∀ z, lsts (rs.set q (r.1, r.2.1, r.2.2.set p z)) = X.set q ((X.getD q []).set p z) := fun z => by rw [lsts_set, HLS.out, ← hrx]
  have hv : at2 X q p = r.2.2.getD p 0 := by unfold at2; rw [hrx]
  have MK : Hid (∀ nd, MadeR w4 ((w9.drewN nd).setCell ⟨g, p, none⟩ (bv (r.2.2.getD p 0 + y))) Ao X.length co (rs.set q (r.1, r.2.1, r.2.2.set p (r.2.2.getD p 0 + y)))) := fun nd => hmk nd _
  have LS2 : Hid (lsts (rs.set q (r.1, r.2.1, r.2.2.set p (r.2.2.getD p 0 + y))) = Yl) := by show _ = _; rw [hls2, PUT.out, hv]
  obtain ⟨b3, o3, hA3, _, hc3⟩ := Sl.at' MR.out.sl (by rw [length_vals]; omega)
  subst hA3
  have y3 := hc3 q (.slice (some ⟨g, 0, none⟩) P r.2.1) (by unfold vals; rw [List.getElem?_map, hr]; show some (rowV r) = _; unfold rowV; rw [hrl, hgA])
  have hqt : (q : Int) < (X.length : Int) := by omega
  have hpt : (p : Int) < (P : Int) := by omega
  have hco := MR.out.sl.mx
  unfold maxLen at hco
  have hcle := MR.out.sl.le
  rw [length_vals, hrs] at hcle
  clear hrs hr hrx hrl hgA hmk hls2 hv hc3
  generalize r.2.2.getD p 0 = u at *
  generalize rs.set q (r.1, r.2.1, r.2.2.set p (u + y)) = rs2 at *
  have hxo := xor_n u y
  go_wp2
  refine wp_region_still_tail 15 (by kernel_rfl) (by kernel_rfl) ?_
  simp only [List.take_succ_cons, List.take_zero, List.drop_succ_cons, List.drop_zero]
  repeat still_step
  refine wpStill_nil ?_
  change wpList _ _ _ _ _ w9.drew
  replace MK := Lib.hid (MK.out 1)
  replace K := Lib.hid ((K.out.below MK.out.bel).rr' (MK.out.rr LS2.out))
  clear MK LS2 MR HLS
  by_cases hqk : q < k
  rotate_left
  · have dk : (k : Int) ≤ (q : Int) := by omega
    go_wp2_with (first
      | (go_at_call 73; (with_reducible refine (FT.out _ _ _ _ ?_ ?_).mono ?_); (first | exact K.out.gf | exact (K.out.alloc _).gf | exact K.out.drew.gf | exact ((K.out.alloc _).alloc _).gf | exact (((K.out.alloc _).alloc _).alloc _).gf | exact (((((K.out.alloc _).alloc _).alloc _).alloc _)).gf); (first | exact K.out.at (.head _) | exact (K.out.alloc _).at (.head _) | exact ((K.out.alloc _).alloc _).at (.head _) | exact (((K.out.alloc _).alloc _).alloc _).at (.head _) | exact ((((K.out.alloc _).alloc _).alloc _).alloc _).at (.head _) | exact K.out.drew.at (.head _) | exact (K.out.drewN _).at (.head _)); rintro e w5 ⟨rfl, hbel⟩; (first | replace K := Lib.hid (K.out.below hbel) | replace K := Lib.hid ((K.out.alloc _).below hbel) | replace K := Lib.hid (((K.out.alloc _).alloc _).below hbel) | replace K := Lib.hid ((((K.out.alloc _).alloc _).alloc _).below hbel) | replace K := Lib.hid (((((K.out.alloc _).alloc _).alloc _).alloc _).below hbel) | replace K := Lib.hid (K.out.drew.below hbel) | replace K := Lib.hid ((K.out.drewN _).below hbel)); clear hbel))
    go_ret
    exact ⟨rfl, K.out.since⟩
  have dk : ¬ (k : Int) ≤ (q : Int) := by omega
  have hkco : (k : Int) ≤ (co : Int) := by omega
  go_wp2_with (first
    | (go_at_call 73; (with_reducible refine (FT.out _ _ _ _ ?_ ?_).mono ?_); (first | exact K.out.gf | exact (K.out.alloc _).gf | exact K.out.drew.gf | exact ((K.out.alloc _).alloc _).gf | exact (((K.out.alloc _).alloc _).alloc _).gf | exact (((((K.out.alloc _).alloc _).alloc _).alloc _)).gf); (first | exact K.out.at (.head _) | exact (K.out.alloc _).at (.head _) | exact ((K.out.alloc _).alloc _).at (.head _) | exact (((K.out.alloc _).alloc _).alloc _).at (.head _) | exact ((((K.out.alloc _).alloc _).alloc _).alloc _).at (.head _) | exact K.out.drew.at (.head _) | exact (K.out.drewN _).at (.head _)); rintro e w5 ⟨rfl, hbel⟩; (first | replace K := Lib.hid (K.out.below hbel) | replace K := Lib.hid ((K.out.alloc _).below hbel) | replace K := Lib.hid (((K.out.alloc _).alloc _).below hbel) | replace K := Lib.hid ((((K.out.alloc _).alloc _).alloc _).below hbel) | replace K := Lib.hid (((((K.out.alloc _).alloc _).alloc _).alloc _).below hbel) | replace K := Lib.hid (K.out.drew.below hbel) | replace K := Lib.hid ((K.out.drewN _).below hbel)); clear hbel)
    | (go_at_call 71; (with_reducible refine (HEZ.out _ _ _ _ ?_ ?_).mono ?_); (first | exact K.out.gf | exact (K.out.alloc _).gf | exact K.out.drew.gf | exact ((K.out.alloc _).alloc _).gf | exact (((K.out.alloc _).alloc _).alloc _).gf | exact (((((K.out.alloc _).alloc _).alloc _).alloc _)).gf); (first | exact (K.out.at (.head _)).take _ | exact ((K.out.alloc _).at (.head _)).take _ | exact (((K.out.alloc _).alloc _).at (.head _)).take _ | exact ((((K.out.alloc _).alloc _).alloc _).at (.head _)).take _ | exact (((((K.out.alloc _).alloc _).alloc _).alloc _).at (.head _)).take _ | exact (K.out.drew.at (.head _)).take _ | exact ((K.out.drewN _).at (.head _)).take _); rintro e w6 ⟨Az, cz, rfl, hr, hbel⟩; (first | replace K := Lib.hid (K.out.below hbel) | replace K := Lib.hid ((K.out.alloc _).below hbel) | replace K := Lib.hid (((K.out.alloc _).alloc _).below hbel) | replace K := Lib.hid ((((K.out.alloc _).alloc _).alloc _).below hbel) | replace K := Lib.hid (((((K.out.alloc _).alloc _).alloc _).alloc _).below hbel) | replace K := Lib.hid (K.out.drew.below hbel) | replace K := Lib.hid ((K.out.drewN _).below hbel)); replace K := Lib.hid (K.out.rr' hr); clear hr; clear hbel))
  have S0 := Lib.hid (Since.refl w6)
  clear hxo y3 hcl hfz
  go_loopw [23] (fun v wr => ∃ i : Nat, k ≤ i ∧ i ≤ k + m ∧ v = .int .i64 i ∧ Since w6 wr) (fun v _ => k + m - (intOf v).toNat)
  case atStart => exact ⟨k, Nat.le_refl _, by omega, rfl, S0.out⟩
  case round =>
    clear S0
    obtain ⟨i, hi1, hi2, rfl, hs⟩ := hrel
    replace K := Lib.hid (K.out.below hs)
    have S1 := Lib.hid hs
    clear hs
    by_cases hlt : i < k + m
    · have hne := UNL.out hqk i hi1 hlt
      obtain ⟨b4, o4, A4, c4, hA, y4, h4⟩ := (K.out.at (.tail _ (.tail _ (.head _)))).get (i := i) (by omega)
      subst hA
      obtain ⟨b5, o5, A5, c5, hA, y5, h5⟩ := (K.out.at (.head _)).get (i := i) (by omega)
      subst hA
      rw [ROWX.out i hlt] at y4
      rw [ROWZ.out i hlt] at y5
      obtain ⟨b6, o6, hA, _, hc⟩ := Bs.at' h4 (by have : (X.getD i []).length = P := ROWX.out i hlt; omega)
      subst hA
      have y6 := hc p (by have : (X.getD i []).length = P := ROWX.out i hlt; omega)
      obtain ⟨b7, o7, hA, _, hc'⟩ := Bs.at' h5 (by have : (Z.getD i []).length = P := ROWZ.out i hlt; omega)
      subst hA
      have y7 := hc' p (by have : (Z.getD i []).length = P := ROWZ.out i hlt; omega)
      have dn := bne_n hne
      unfold at2 at dn
      have hit : (i : Int) < (k : Int) + (m : Int) := by omega
      have hix : (i : Int) < (X.length : Int) := by omega
      have hiz : (i : Int) < (Z.length : Int) := by omega
      clear hc hc' h4 h5 hne
      generalize (X.getD i []).getD p 0 = xv at *
      generalize (Z.getD i []).getD p 0 = zv at *
      go_wp2
      go_quiet (fail)
      go_wp2
      go_roundw
      case rel => exact ⟨i + 1, by omega, by omega, by go_num, S1.out.drewN _⟩
      case measure => simp [intOf]; omega
    · have hit : ¬ (i : Int) < (k : Int) + (m : Int) := by omega
      go_wp2
      go_ret
      exact ⟨rfl, K.out.since⟩
end Go.Proofs.Ytmkjplpnoohfnaa
