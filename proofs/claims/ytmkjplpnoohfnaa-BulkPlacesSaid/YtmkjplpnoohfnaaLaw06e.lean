/- BulkPlaces, walked. -/
import Derived.Test.YtmkjplpnoohfnaaLaw06c
namespace Go.Proofs.Ytmkjplpnoohfnaa
open Go.RowKit
set_option linter.unusedVariables false
set_option linter.unusedSimpArgs false
/-- one place of each -/
def colL (la : List (List F)) (p : Nat) : List (List F) := la.map fun l => [l.getD p 0]
theorem length_colL (la : List (List F)) (p : Nat) : (colL la p).length = la.length := List.length_map ..
theorem colL_at {la : List (List F)} {p a : Nat} (ha : a < la.length) : (colL la p)[a]? = some [at2 la a p] := by
  unfold colL at2
  rw [List.getElem?_map, List.getElem?_eq_getElem ha, List.getD_eq_getElem?_getD (l := la), List.getElem?_eq_getElem ha]; rfl
theorem eql_colL {la : List (List F)} {k p : Nat} (h : la.length = k) : Eql (colL la p) k 1 := ⟨by rw [length_colL, h], fun i hi => by
  unfold lenAt
  rw [List.getD_eq_getElem?_getD, colL_at (by omega)]; rfl⟩
theorem at2_colL {la : List (List F)} {p a : Nat} (ha : a < la.length) : at2 (colL la p) a 0 = at2 la a p := by
  show ((colL la p).getD a []).getD 0 0 = _
  rw [List.getD_eq_getElem?_getD (l := colL la p), colL_at ha]; rfl
theorem enc_col {k m L p : Nat} {la : List (List F)} (h : Eql la k L) (h1 : 1 ≤ k) (hp : p < L) {i : Nat} (hi : i < k + m) : at2 (enc k m (colL la p)) i 0 = at2 (enc k m la) i p := by
  rw [at2_enc (eql_colL h.len) h1 hi (by decide), at2_enc h h1 hi hp]
  by_cases e : i < k
  · rw [if_pos e, if_pos e, at2_colL (by rw [h.len]; exact e)]
  · rw [if_neg e, if_neg e]
    exact sumF_congr fun t ht => by rw [at2_colL (by rw [h.len]; exact ht)]
theorem own_one (w : World) (y : F) : ownR (w.alloc (.cells #[bv y] 5)) w.heap.size (some ⟨w.heap.size, 0, none⟩, 1, [y]) :=
  ⟨rfl, .inr ⟨w.heap.size, 1, #[bv y], rfl, Nat.le_refl _, heap_alloc_new w _, Nat.le_refl _, by unfold maxLen; omega, rfl, rfl⟩⟩
set_option maxRecDepth 1000000 in
set_option maxHeartbeats 4000000 in
theorem walk_BulkPlaces {w : World} (k : Int) (hk : -9223372036854775808 ≤ k ∧ k ≤ 9223372036854775807) (m : Int) (hm : -9223372036854775808 ≤ m ∧ m ≤ 9223372036854775807) (Aa : Option Addr) (ca : Nat) (la : List (List F)) (ha : Rr w Aa ca la) (p : Int) (hp : -9223372036854775808 ≤ p ∧ p ≤ 9223372036854775807) :
    Calls Try.prog 27 #[.int .i64 k, .int .i64 m, .slice Aa la.length ca, .int .i64 p] w fun e w' => e = .returned (.bool true) ∧ Below w.heap.size w w' := by
  by_cases hf : FewP k m la
  rotate_left
  · have FW : Hid (∀ A c w, Rr w A c la → Calls Try.prog 70 #[.int .i64 k, .int .i64 m, .slice A la.length c] w fun e w' => e = .returned (.bool false) ∧ Below w.heap.size w w') := fun A c w h => few_any k m A c la false w hk hm h (by simp [hf])
    have K := Lib.hid (Lk.start w)
    replace K := Lib.hid (K.out.rr' ha)
    clear ha
    go_enter Try.func27, Try.ntmps27
    go_wp2_with (first
      | (go_at_call 69; (with_reducible refine (awake6 _).mono ?_); rintro e w1 ⟨rfl, hbel⟩; (first | replace K := Lib.hid (K.out.below hbel) | replace K := Lib.hid ((K.out.alloc _).below hbel) | replace K := Lib.hid (((K.out.alloc _).alloc _).below hbel) | replace K := Lib.hid ((((K.out.alloc _).alloc _).alloc _).below hbel) | replace K := Lib.hid (((((K.out.alloc _).alloc _).alloc _).alloc _).below hbel) | replace K := Lib.hid (K.out.drew.below hbel) | replace K := Lib.hid ((K.out.drewN _).below hbel)); clear hbel)
      | (go_at_call 37; (with_reducible refine (new_any _).mono ?_); rintro e w2 ⟨rfl, hbel, hg⟩; (first | replace K := Lib.hid (K.out.below hbel) | replace K := Lib.hid ((K.out.alloc _).below hbel) | replace K := Lib.hid (((K.out.alloc _).alloc _).below hbel) | replace K := Lib.hid ((((K.out.alloc _).alloc _).alloc _).below hbel) | replace K := Lib.hid (((((K.out.alloc _).alloc _).alloc _).alloc _).below hbel) | replace K := Lib.hid (K.out.drew.below hbel) | replace K := Lib.hid ((K.out.drewN _).below hbel)); clear hbel; replace K := Lib.hid (K.out.withF hg); clear hg)
      | (go_at_call 70; (with_reducible refine (FW.out _ _ _ ?_).mono ?_); (first | exact K.out.at (.head _) | exact (K.out.alloc _).at (.head _) | exact ((K.out.alloc _).alloc _).at (.head _) | exact (((K.out.alloc _).alloc _).alloc _).at (.head _) | exact ((((K.out.alloc _).alloc _).alloc _).alloc _).at (.head _) | exact K.out.drew.at (.head _) | exact (K.out.drewN _).at (.head _)); rintro e w3 ⟨rfl, hbel⟩; (first | replace K := Lib.hid (K.out.below hbel) | replace K := Lib.hid ((K.out.alloc _).below hbel) | replace K := Lib.hid (((K.out.alloc _).alloc _).below hbel) | replace K := Lib.hid ((((K.out.alloc _).alloc _).alloc _).below hbel) | replace K := Lib.hid (((((K.out.alloc _).alloc _).alloc _).alloc _).below hbel) | replace K := Lib.hid (K.out.drew.below hbel) | replace K := Lib.hid ((K.out.drewN _).below hbel)); clear hbel))
    go_ret
    exact ⟨rfl, K.out.since⟩
  have FW : Hid (∀ A c w, Rr w A c la → Calls Try.prog 70 #[.int .i64 k, .int .i64 m, .slice A la.length c] w fun e w' => e = .returned (.bool true) ∧ Below w.heap.size w w') := fun A c w h => few_any k m A c la true w hk hm h (by simp [hf])
  have hna : la.length ≤ 900 := by have := hf.1; omega
  have hla := hf.le
  obtain ⟨X, E, kca, EA, _⟩ := enc_out k m la hk hm hna hla
  have HEA := Lib.hid EA
  clear EA
  by_cases hE : E = 0
  rotate_left
  · have dE0 : (E == 0) = false := by rw [beq_eq_false_iff_ne]; exact hE
    have dE1 : (E != 0) = true := by rw [bne_iff_ne]; exact hE
    clear hE kca hf hla hna
    have K := Lib.hid (Lk.start w)
    replace K := Lib.hid (K.out.rr' ha)
    clear ha
    go_enter Try.func27, Try.ntmps27
    go_wp2_with (first
      | (go_at_call 69; (with_reducible refine (awake6 _).mono ?_); rintro e w1 ⟨rfl, hbel⟩; (first | replace K := Lib.hid (K.out.below hbel) | replace K := Lib.hid ((K.out.alloc _).below hbel) | replace K := Lib.hid (((K.out.alloc _).alloc _).below hbel) | replace K := Lib.hid ((((K.out.alloc _).alloc _).alloc _).below hbel) | replace K := Lib.hid (((((K.out.alloc _).alloc _).alloc _).alloc _).below hbel) | replace K := Lib.hid (K.out.drew.below hbel) | replace K := Lib.hid ((K.out.drewN _).below hbel)); clear hbel)
      | (go_at_call 37; (with_reducible refine (new_any _).mono ?_); rintro e w2 ⟨rfl, hbel, hg⟩; (first | replace K := Lib.hid (K.out.below hbel) | replace K := Lib.hid ((K.out.alloc _).below hbel) | replace K := Lib.hid (((K.out.alloc _).alloc _).below hbel) | replace K := Lib.hid ((((K.out.alloc _).alloc _).alloc _).below hbel) | replace K := Lib.hid (((((K.out.alloc _).alloc _).alloc _).alloc _).below hbel) | replace K := Lib.hid (K.out.drew.below hbel) | replace K := Lib.hid ((K.out.drewN _).below hbel)); clear hbel; replace K := Lib.hid (K.out.withF hg); clear hg)
      | (go_at_call 70; (with_reducible refine (FW.out _ _ _ ?_).mono ?_); (first | exact K.out.at (.head _) | exact (K.out.alloc _).at (.head _) | exact ((K.out.alloc _).alloc _).at (.head _) | exact (((K.out.alloc _).alloc _).alloc _).at (.head _) | exact ((((K.out.alloc _).alloc _).alloc _).alloc _).at (.head _) | exact K.out.drew.at (.head _) | exact (K.out.drewN _).at (.head _)); rintro e w3 ⟨rfl, hbel⟩; (first | replace K := Lib.hid (K.out.below hbel) | replace K := Lib.hid ((K.out.alloc _).below hbel) | replace K := Lib.hid (((K.out.alloc _).alloc _).below hbel) | replace K := Lib.hid ((((K.out.alloc _).alloc _).alloc _).below hbel) | replace K := Lib.hid (((((K.out.alloc _).alloc _).alloc _).alloc _).below hbel) | replace K := Lib.hid (K.out.drew.below hbel) | replace K := Lib.hid ((K.out.drewN _).below hbel)); clear hbel)
      | (go_at_call 71; (with_reducible refine (HEA.out _ _ _ _ ?_ ?_).mono ?_); (first | exact K.out.gf | exact (K.out.alloc _).gf | exact K.out.drew.gf | exact ((K.out.alloc _).alloc _).gf | exact (((K.out.alloc _).alloc _).alloc _).gf | exact (((((K.out.alloc _).alloc _).alloc _).alloc _)).gf); (first | exact K.out.at (.head _) | exact (K.out.alloc _).at (.head _) | exact ((K.out.alloc _).alloc _).at (.head _) | exact (((K.out.alloc _).alloc _).alloc _).at (.head _) | exact ((((K.out.alloc _).alloc _).alloc _).alloc _).at (.head _) | exact K.out.drew.at (.head _) | exact (K.out.drewN _).at (.head _)); rintro e w4 ⟨Ax, cx, rfl, hr, hbel⟩; (first | replace K := Lib.hid (K.out.below hbel) | replace K := Lib.hid ((K.out.alloc _).below hbel) | replace K := Lib.hid (((K.out.alloc _).alloc _).below hbel) | replace K := Lib.hid ((((K.out.alloc _).alloc _).alloc _).below hbel) | replace K := Lib.hid (((((K.out.alloc _).alloc _).alloc _).alloc _).below hbel) | replace K := Lib.hid (K.out.drew.below hbel) | replace K := Lib.hid ((K.out.drewN _).below hbel)); replace K := Lib.hid (K.out.rr' hr); clear hr; clear hbel))
    go_ret
    exact ⟨rfl, K.out.since⟩
  subst hE
  obtain ⟨k, m, rfl, rfl, hkm, hal, rfl, hk1, hkb⟩ := kca.ok
  have qa := hal.eql
  have hka : 0 < la.length := by rw [qa.len]; omega
  obtain ⟨P, hP⟩ : ∃ P, lenAt la 0 = P := ⟨_, rfl⟩
  have hP30 : P ≤ 30 := by rw [← hP]; exact hf.2.1 0 hka
  rw [hP] at qa
  have HP := Lib.hid hP
  have d4 : (0 : Int) < (la.length : Int) := by omega
  have qX := qa.enc hk1 m
  have hXl : (enc k m la).length = k + m := qX.len
  by_cases hp0 : 0 ≤ p
  rotate_left
  · have dp0 : decide (p < 0) = true := decide_eq_true (by omega)
    clear kca hf hla hna hal qa qX hXl hP hkm
    generalize enc k m la = X at *
    have K := Lib.hid (Lk.start w)
    replace K := Lib.hid (K.out.rr' ha)
    clear ha
    go_enter Try.func27, Try.ntmps27
    go_wp2_with (first
      | (go_at_call 69; (with_reducible refine (awake6 _).mono ?_); rintro e w1 ⟨rfl, hbel⟩; (first | replace K := Lib.hid (K.out.below hbel) | replace K := Lib.hid ((K.out.alloc _).below hbel) | replace K := Lib.hid (((K.out.alloc _).alloc _).below hbel) | replace K := Lib.hid ((((K.out.alloc _).alloc _).alloc _).below hbel) | replace K := Lib.hid (((((K.out.alloc _).alloc _).alloc _).alloc _).below hbel) | replace K := Lib.hid (K.out.drew.below hbel) | replace K := Lib.hid ((K.out.drewN _).below hbel)); clear hbel)
      | (go_at_call 37; (with_reducible refine (new_any _).mono ?_); rintro e w2 ⟨rfl, hbel, hg⟩; (first | replace K := Lib.hid (K.out.below hbel) | replace K := Lib.hid ((K.out.alloc _).below hbel) | replace K := Lib.hid (((K.out.alloc _).alloc _).below hbel) | replace K := Lib.hid ((((K.out.alloc _).alloc _).alloc _).below hbel) | replace K := Lib.hid (((((K.out.alloc _).alloc _).alloc _).alloc _).below hbel) | replace K := Lib.hid (K.out.drew.below hbel) | replace K := Lib.hid ((K.out.drewN _).below hbel)); clear hbel; replace K := Lib.hid (K.out.withF hg); clear hg)
      | (go_at_call 70; (with_reducible refine (FW.out _ _ _ ?_).mono ?_); (first | exact K.out.at (.head _) | exact (K.out.alloc _).at (.head _) | exact ((K.out.alloc _).alloc _).at (.head _) | exact (((K.out.alloc _).alloc _).alloc _).at (.head _) | exact ((((K.out.alloc _).alloc _).alloc _).alloc _).at (.head _) | exact K.out.drew.at (.head _) | exact (K.out.drewN _).at (.head _)); rintro e w3 ⟨rfl, hbel⟩; (first | replace K := Lib.hid (K.out.below hbel) | replace K := Lib.hid ((K.out.alloc _).below hbel) | replace K := Lib.hid (((K.out.alloc _).alloc _).below hbel) | replace K := Lib.hid ((((K.out.alloc _).alloc _).alloc _).below hbel) | replace K := Lib.hid (((((K.out.alloc _).alloc _).alloc _).alloc _).below hbel) | replace K := Lib.hid (K.out.drew.below hbel) | replace K := Lib.hid ((K.out.drewN _).below hbel)); clear hbel)
      | (go_at_call 71; (with_reducible refine (HEA.out _ _ _ _ ?_ ?_).mono ?_); (first | exact K.out.gf | exact (K.out.alloc _).gf | exact K.out.drew.gf | exact ((K.out.alloc _).alloc _).gf | exact (((K.out.alloc _).alloc _).alloc _).gf | exact (((((K.out.alloc _).alloc _).alloc _).alloc _)).gf); (first | exact K.out.at (.head _) | exact (K.out.alloc _).at (.head _) | exact ((K.out.alloc _).alloc _).at (.head _) | exact (((K.out.alloc _).alloc _).alloc _).at (.head _) | exact ((((K.out.alloc _).alloc _).alloc _).alloc _).at (.head _) | exact K.out.drew.at (.head _) | exact (K.out.drewN _).at (.head _)); rintro e w4 ⟨Ax, cx, rfl, hr, hbel⟩; (first | replace K := Lib.hid (K.out.below hbel) | replace K := Lib.hid ((K.out.alloc _).below hbel) | replace K := Lib.hid (((K.out.alloc _).alloc _).below hbel) | replace K := Lib.hid ((((K.out.alloc _).alloc _).alloc _).below hbel) | replace K := Lib.hid (((((K.out.alloc _).alloc _).alloc _).alloc _).below hbel) | replace K := Lib.hid (K.out.drew.below hbel) | replace K := Lib.hid ((K.out.drewN _).below hbel)); replace K := Lib.hid (K.out.rr' hr); clear hr; clear hbel))
    go_ret
    exact ⟨rfl, K.out.since⟩
  obtain ⟨p, rfl⟩ := Int.eq_ofNat_of_zero_le hp0
  have dp0 : decide ((p : Int) < 0) = false := decide_eq_false (by omega)
  by_cases hpn : p < P
  rotate_left
  · have dp1 : (P : Int) ≤ (p : Int) := by omega
    clear kca hf hla hna hal qa qX hXl hP hkm
    generalize enc k m la = X at *
    have K := Lib.hid (Lk.start w)
    replace K := Lib.hid (K.out.rr' ha)
    clear ha
    go_enter Try.func27, Try.ntmps27
    go_wp2_with (first
      | (go_at_call 69; (with_reducible refine (awake6 _).mono ?_); rintro e w1 ⟨rfl, hbel⟩; (first | replace K := Lib.hid (K.out.below hbel) | replace K := Lib.hid ((K.out.alloc _).below hbel) | replace K := Lib.hid (((K.out.alloc _).alloc _).below hbel) | replace K := Lib.hid ((((K.out.alloc _).alloc _).alloc _).below hbel) | replace K := Lib.hid (((((K.out.alloc _).alloc _).alloc _).alloc _).below hbel) | replace K := Lib.hid (K.out.drew.below hbel) | replace K := Lib.hid ((K.out.drewN _).below hbel)); clear hbel)
      | (go_at_call 37; (with_reducible refine (new_any _).mono ?_); rintro e w2 ⟨rfl, hbel, hg⟩; (first | replace K := Lib.hid (K.out.below hbel) | replace K := Lib.hid ((K.out.alloc _).below hbel) | replace K := Lib.hid (((K.out.alloc _).alloc _).below hbel) | replace K := Lib.hid ((((K.out.alloc _).alloc _).alloc _).below hbel) | replace K := Lib.hid (((((K.out.alloc _).alloc _).alloc _).alloc _).below hbel) | replace K := Lib.hid (K.out.drew.below hbel) | replace K := Lib.hid ((K.out.drewN _).below hbel)); clear hbel; replace K := Lib.hid (K.out.withF hg); clear hg)
      | (go_at_call 70; (with_reducible refine (FW.out _ _ _ ?_).mono ?_); (first | exact K.out.at (.head _) | exact (K.out.alloc _).at (.head _) | exact ((K.out.alloc _).alloc _).at (.head _) | exact (((K.out.alloc _).alloc _).alloc _).at (.head _) | exact ((((K.out.alloc _).alloc _).alloc _).alloc _).at (.head _) | exact K.out.drew.at (.head _) | exact (K.out.drewN _).at (.head _)); rintro e w3 ⟨rfl, hbel⟩; (first | replace K := Lib.hid (K.out.below hbel) | replace K := Lib.hid ((K.out.alloc _).below hbel) | replace K := Lib.hid (((K.out.alloc _).alloc _).below hbel) | replace K := Lib.hid ((((K.out.alloc _).alloc _).alloc _).below hbel) | replace K := Lib.hid (((((K.out.alloc _).alloc _).alloc _).alloc _).below hbel) | replace K := Lib.hid (K.out.drew.below hbel) | replace K := Lib.hid ((K.out.drewN _).below hbel)); clear hbel)
      | (go_at_call 71; (with_reducible refine (HEA.out _ _ _ _ ?_ ?_).mono ?_); (first | exact K.out.gf | exact (K.out.alloc _).gf | exact K.out.drew.gf | exact ((K.out.alloc _).alloc _).gf | exact (((K.out.alloc _).alloc _).alloc _).gf | exact (((((K.out.alloc _).alloc _).alloc _).alloc _)).gf); (first | exact K.out.at (.head _) | exact (K.out.alloc _).at (.head _) | exact ((K.out.alloc _).alloc _).at (.head _) | exact (((K.out.alloc _).alloc _).alloc _).at (.head _) | exact ((((K.out.alloc _).alloc _).alloc _).alloc _).at (.head _) | exact K.out.drew.at (.head _) | exact (K.out.drewN _).at (.head _)); rintro e w4 ⟨Ax, cx, rfl, hr, hbel⟩; (first | replace K := Lib.hid (K.out.below hbel) | replace K := Lib.hid ((K.out.alloc _).below hbel) | replace K := Lib.hid (((K.out.alloc _).alloc _).below hbel) | replace K := Lib.hid ((((K.out.alloc _).alloc _).alloc _).below hbel) | replace K := Lib.hid (((((K.out.alloc _).alloc _).alloc _).alloc _).below hbel) | replace K := Lib.hid (K.out.drew.below hbel) | replace K := Lib.hid ((K.out.drewN _).below hbel)); replace K := Lib.hid (K.out.rr' hr); clear hr; clear hbel; obtain ⟨b1, o1, A1, c1, hA, y1, _⟩ := (K.out.at (.tail _ (.head _))).get (i := 0) hka; subst hA; rw [Nat.add_zero, HP.out] at y1))
    go_ret
    exact ⟨rfl, K.out.since⟩
  have dp1 : ¬ (P : Int) ≤ (p : Int) := by omega
  have dp3 : decide (P ≤ p) = false := decide_eq_false (by omega)
  have qC := eql_colL (p := p) qa.len
  have qY := qC.enc hk1 m
  have hYl : (enc k m (colL la p)).length = k + m := qY.len
  have HEY : Hid (∀ b A c w, GfAt w b → Rr w A c (colL la p) → Calls Try.prog 71 #[fp b, .int .i64 k, .int .i64 m, .slice A la.length c] w (ShR w (enc k m (colL la p)) 0)) := fun b A c w hg hr => by
    have := enc_yes hkm qC.alk (qC.le (by omega)) b A c w hg hr
    rw [length_colL] at this
    exact this
  have ROWA : Hid (∀ i, i < la.length → lenAt la i = P) := fun i hi => qa.row i (by rw [← qa.len]; exact hi)
  have ROWX : Hid (∀ i, i < k + m → lenAt (enc k m la) i = P) := fun i hi => qX.row i hi
  have ROWY : Hid (∀ i, i < k + m → lenAt (enc k m (colL la p)) i = 1) := fun i hi => qY.row i hi
  have SAM : Hid (∀ i, i < k + m → at2 (enc k m (colL la p)) i 0 = at2 (enc k m la) i p) := fun i hi => enc_col qa hk1 hpn hi
  have COL : Hid (∀ i, i < la.length → (colL la p)[i]? = some [at2 la i p]) := fun i hi => colL_at hi
  have CLN : Hid ((colL la p).length = la.length) := length_colL _ _
  have dz0 : (((enc k m (colL la p)).length : Int) == ((enc k m la).length : Int)) = true := by rw [beq_iff_eq]; omega
  have dz1 : (((enc k m (colL la p)).length : Int) != ((enc k m la).length : Int)) = false := by rw [bne_eq_false_iff_eq]; omega
  have HXL := Lib.hid hXl
  have HYL := Lib.hid hYl
  have hXle : (enc k m la).length ≤ 256 := by omega
  have hYge : (enc k m la).length ≤ (enc k m (colL la p)).length := by omega
  clear kca hf hla hal qa qX hXl hP hkm qC qY hYl
  generalize enc k m (colL la p) = Yy at *
  generalize enc k m la = X at *
  generalize colL la p = C at *
  have K := Lib.hid (Lk.start w)
  replace K := Lib.hid (K.out.rr' ha)
  clear ha
  go_enter Try.func27, Try.ntmps27
  go_wp2_with (first
    | (go_at_call 69; (with_reducible refine (awake6 _).mono ?_); rintro e w1 ⟨rfl, hbel⟩; (first | replace K := Lib.hid (K.out.below hbel) | replace K := Lib.hid ((K.out.alloc _).below hbel) | replace K := Lib.hid (((K.out.alloc _).alloc _).below hbel) | replace K := Lib.hid ((((K.out.alloc _).alloc _).alloc _).below hbel) | replace K := Lib.hid (((((K.out.alloc _).alloc _).alloc _).alloc _).below hbel) | replace K := Lib.hid (K.out.drew.below hbel) | replace K := Lib.hid ((K.out.drewN _).below hbel)); clear hbel)
    | (go_at_call 37; (with_reducible refine (new_any _).mono ?_); rintro e w2 ⟨rfl, hbel, hg⟩; (first | replace K := Lib.hid (K.out.below hbel) | replace K := Lib.hid ((K.out.alloc _).below hbel) | replace K := Lib.hid (((K.out.alloc _).alloc _).below hbel) | replace K := Lib.hid ((((K.out.alloc _).alloc _).alloc _).below hbel) | replace K := Lib.hid (((((K.out.alloc _).alloc _).alloc _).alloc _).below hbel) | replace K := Lib.hid (K.out.drew.below hbel) | replace K := Lib.hid ((K.out.drewN _).below hbel)); clear hbel; replace K := Lib.hid (K.out.withF hg); clear hg)
    | (go_at_call 70; (with_reducible refine (FW.out _ _ _ ?_).mono ?_); (first | exact K.out.at (.head _) | exact (K.out.alloc _).at (.head _) | exact ((K.out.alloc _).alloc _).at (.head _) | exact (((K.out.alloc _).alloc _).alloc _).at (.head _) | exact ((((K.out.alloc _).alloc _).alloc _).alloc _).at (.head _) | exact K.out.drew.at (.head _) | exact (K.out.drewN _).at (.head _)); rintro e w3 ⟨rfl, hbel⟩; (first | replace K := Lib.hid (K.out.below hbel) | replace K := Lib.hid ((K.out.alloc _).below hbel) | replace K := Lib.hid (((K.out.alloc _).alloc _).below hbel) | replace K := Lib.hid ((((K.out.alloc _).alloc _).alloc _).below hbel) | replace K := Lib.hid (((((K.out.alloc _).alloc _).alloc _).alloc _).below hbel) | replace K := Lib.hid (K.out.drew.below hbel) | replace K := Lib.hid ((K.out.drewN _).below hbel)); clear hbel)
    | (go_at_call 71; (with_reducible refine (HEA.out _ _ _ _ ?_ ?_).mono ?_); (first | exact K.out.gf | exact (K.out.alloc _).gf | exact K.out.drew.gf | exact ((K.out.alloc _).alloc _).gf | exact (((K.out.alloc _).alloc _).alloc _).gf | exact (((((K.out.alloc _).alloc _).alloc _).alloc _)).gf); (first | exact K.out.at (.head _) | exact (K.out.alloc _).at (.head _) | exact ((K.out.alloc _).alloc _).at (.head _) | exact (((K.out.alloc _).alloc _).alloc _).at (.head _) | exact ((((K.out.alloc _).alloc _).alloc _).alloc _).at (.head _) | exact K.out.drew.at (.head _) | exact (K.out.drewN _).at (.head _)); rintro e w4 ⟨Ax, cx, rfl, hr, hbel⟩; (first | replace K := Lib.hid (K.out.below hbel) | replace K := Lib.hid ((K.out.alloc _).below hbel) | replace K := Lib.hid (((K.out.alloc _).alloc _).below hbel) | replace K := Lib.hid ((((K.out.alloc _).alloc _).alloc _).below hbel) | replace K := Lib.hid (((((K.out.alloc _).alloc _).alloc _).alloc _).below hbel) | replace K := Lib.hid (K.out.drew.below hbel) | replace K := Lib.hid ((K.out.drewN _).below hbel)); replace K := Lib.hid (K.out.rr' hr); clear hr; clear hbel; obtain ⟨b1, o1, A1, c1, hA, y1, _⟩ := (K.out.at (.tail _ (.head _))).get (i := 0) hka; subst hA; rw [Nat.add_zero, HP.out] at y1))
  clear y1
  have M0 : Hid (MadeR w4 w4 none 0 0 []) := ⟨World.ownsRow_nil _ _ _ _, Grid.nil _ _, Below.refl _ _⟩
  go_loopw [13, 14] (fun u v wr => ∃ (i : Nat) (rs : List Row) (A5 : Option Addr) (c5 : Nat), i ≤ la.length ∧ v = .int .i64 i ∧ u = .slice A5 i c5 ∧ lsts rs = C.take i ∧ MadeR w4 wr A5 i c5 rs) (fun _ v _ => la.length - (intOf v).toNat)
  case atStart => exact ⟨0, [], none, 0, Nat.zero_le _, rfl, rfl, rfl, M0.out⟩
  case round =>
    clear M0
    obtain ⟨i, rs, A5, c5, hi, rfl, rfl, hls, hmr⟩ := hrel
    have HLS := Lib.hid hls
    have MR := Lib.hid hmr
    clear hls hmr
    by_cases hlt : i < la.length
    · obtain ⟨b2, o2, A2, c2, hA, y2, h2⟩ := ((K.out.below MR.out.bel).at (.tail _ (.head _))).get (i := i) hlt
      injection hA with hA
      obtain ⟨rfl, rfl⟩ : b1 = b2 ∧ o1 = o2 := by injection hA with e1 e2; exact ⟨e1, e2⟩
      clear hA
      rw [ROWA.out i hlt] at y2
      obtain ⟨b3, o3, hA, _, hc⟩ := Bs.at' h2 (by have : (la.getD i []).length = P := ROWA.out i hlt; omega)
      subst hA
      have y3 := hc p (by have : (la.getD i []).length = P := ROWA.out i hlt; omega)
      have CI := Lib.hid (COL.out i hlt)
      unfold at2 at CI
      clear hc h2
      generalize (la.getD i []).getD p 0 = v at *
      have hit : (i : Int) < (la.length : Int) := by omega
      have hpt : (p : Int) < (P : Int) := by omega
      go_wp2_with (at_builtin; refine app_spine _ rfl _ _ rfl w4.heap.size A5 c5 i (vals rs) rfl (own_below MR.out.sp ((below_alloc wr (.cells #[bv v] 5)).trans ((below_alloc _ _).mono (by simp)))) _ 1 (.slice (some ⟨wr.heap.size, 0, none⟩) 1 1) rfl (lit_row _ (by simp)) rfl (by omega) ?hb ?_; (case hb => exact Nat.le_trans MR.out.bel.size (by simp; omega)); intro A6 c6 w6 ho6 hg6; have HO6 := Lib.hid ho6; have HG6 := Lib.hid hg6; clear ho6 hg6)
      go_roundw
      case rel =>
        refine ⟨i + 1, rs ++ [(some ⟨wr.heap.size, 0, none⟩, 1, [v])], A6, c6, by omega, by go_num, rfl, ?_, MR.out.push (below_alloc wr (.cells #[bv v] 5)) (own_one wr v) (.cells #[.slice (some ⟨wr.heap.size, 0, none⟩) 1 1] 28) HO6.out HG6.out⟩
        rw [lsts_append, HLS.out, List.take_add_one, CI.out]; rfl
      case measure => simp [intOf]; omega
    · obtain rfl : i = la.length := by omega
      have hit : ¬ ((la.length : Nat) : Int) < (la.length : Int) := by omega
      have hal : lsts rs = C := by rw [HLS.out, List.take_of_length_le (by rw [CLN.out]; exact Nat.le_refl _)]
      replace K := Lib.hid ((K.out.below MR.out.bel).rr' (MR.out.rr hal))
      clear hal MR HLS
      go_wp2_with (first
        | (go_at_call 71; (with_reducible refine (HEY.out _ _ _ _ ?_ ?_).mono ?_); (first | exact K.out.gf | exact (K.out.alloc _).gf | exact K.out.drew.gf | exact ((K.out.alloc _).alloc _).gf | exact (((K.out.alloc _).alloc _).alloc _).gf | exact (((((K.out.alloc _).alloc _).alloc _).alloc _)).gf); (first | exact K.out.at (.head _) | exact (K.out.alloc _).at (.head _) | exact ((K.out.alloc _).alloc _).at (.head _) | exact (((K.out.alloc _).alloc _).alloc _).at (.head _) | exact ((((K.out.alloc _).alloc _).alloc _).alloc _).at (.head _) | exact K.out.drew.at (.head _) | exact (K.out.drewN _).at (.head _)); rintro e w5 ⟨Ay, cy, rfl, hr, hbel⟩; (first | replace K := Lib.hid (K.out.below hbel) | replace K := Lib.hid ((K.out.alloc _).below hbel) | replace K := Lib.hid (((K.out.alloc _).alloc _).below hbel) | replace K := Lib.hid ((((K.out.alloc _).alloc _).alloc _).below hbel) | replace K := Lib.hid (((((K.out.alloc _).alloc _).alloc _).alloc _).below hbel) | replace K := Lib.hid (K.out.drew.below hbel) | replace K := Lib.hid ((K.out.drewN _).below hbel)); replace K := Lib.hid (K.out.rr' hr); clear hr; clear hbel))
      have S0 := Lib.hid (Since.refl w5)
      go_loopw [17] (fun v wi => ∃ i : Nat, i ≤ X.length ∧ v = .int .i64 i ∧ Since w5 wi) (fun v _ => X.length - (intOf v).toNat)
      case atStart => exact ⟨0, Nat.zero_le _, rfl, S0.out⟩
      case round =>
        clear S0
        rename World => wi
        obtain ⟨i, hi, rfl, hs⟩ := hrel
        replace K := Lib.hid (K.out.below hs)
        have S1 := Lib.hid hs
        clear hs
        by_cases hlt : i < X.length
        · have hik : i < k + m := by rw [← HXL.out]; exact hlt
          obtain ⟨b4, o4, A4, c4, hA, y4, h4⟩ := (K.out.at (.tail _ (.tail _ (.head _)))).get (i := i) hlt
          subst hA
          obtain ⟨b5, o5, A5', c5', hA, y5, h5⟩ := (K.out.at (.head _)).get (i := i) (by omega)
          subst hA
          have hr4 := ROWX.out i hik
          have hr5 := ROWY.out i hik
          rw [hr4] at y4
          rw [hr5] at y5
          obtain ⟨b6, o6, hA, _, hc⟩ := Bs.at' h4 (by have : (X.getD i []).length = P := hr4; omega)
          subst hA
          have y6 := hc p (by have : (X.getD i []).length = P := hr4; omega)
          obtain ⟨b7, o7, hA, _, hc'⟩ := Bs.at' h5 (by have : (Yy.getD i []).length = 1 := hr5; omega)
          subst hA
          have y7 := hc' 0 (by have : (Yy.getD i []).length = 1 := hr5; omega)
          rw [Nat.add_zero, show (Yy.getD i []).getD 0 0 = (X.getD i []).getD p 0 from SAM.out i hik] at y7
          have hit : (i : Int) < (X.length : Int) := by omega
          have hiy : (i : Int) < (Yy.length : Int) := by omega
          have hpt : (p : Int) < (P : Int) := by omega
          have dp2 : decide ((P : Int) ≤ (p : Int)) = false := decide_eq_false (by omega)
          clear hc hc' h4 h5 hr4 hr5
          generalize (X.getD i []).getD p 0 = xv at *
          have dv0 := beq_n (rfl : xv = xv)
          have dv1 := neq_n (rfl : xv = xv)
          go_wp2
          go_quiet (fail)
          go_wp2
          go_roundw
          case rel => exact ⟨i + 1, by omega, by go_num, S1.out.drewN _⟩
          case measure => simp [intOf]; omega
        · have hit : ¬ (i : Int) < (X.length : Int) := by omega
          go_wp2
          go_ret
          exact ⟨rfl, K.out.since⟩
end Go.Proofs.Ytmkjplpnoohfnaa
