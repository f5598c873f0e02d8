/- EraseBack, walked. -/
import Derived.Test.YtmkjplpnoohfnaaLaw07c
import Derived.Test.YtmkjplpnoohfnaaErp
namespace Go.Proofs.Ytmkjplpnoohfnaa
open Go.RowKit
set_option linter.unusedVariables false
set_option linter.unusedSimpArgs false
set_option maxRecDepth 1000000 in
set_option maxHeartbeats 4000000 in
theorem walk_EraseBack {w : World} (k : Int) (hk : -9223372036854775808 ≤ k ∧ k ≤ 9223372036854775807) (m : Int) (hm : -9223372036854775808 ≤ m ∧ m ≤ 9223372036854775807) (Aa : Option Addr) (ca : Nat) (la : List (List F)) (ha : Rr w Aa ca la) (Al : Option Addr) (cl : Nat) (has : List Bool) (hh : Sl w Al cl (has.map Value.bool)) (Aj : Option Addr) (cj : Nat) (lj : List F) (hj : Bs w Aj cj lj) :
    Calls Try.prog 32 #[.int .i64 k, .int .i64 m, .slice Aa la.length ca, .slice Al has.length cl, .slice Aj lj.length cj] w fun e w' => e = .returned (.bool true) ∧ Below w.heap.size w w' := by
  have HH := Lib.hid hh
  clear hh
  by_cases hfa : FewP k m la
  rotate_left
  · have FA : Hid (∀ A c w, Rr w A c la → Calls Try.prog 70 #[.int .i64 k, .int .i64 m, .slice A la.length c] w fun e w' => e = .returned (.bool false) ∧ Below w.heap.size w w') := fun A c w h => few_any k m A c la false w hk hm h (by simp [hfa])
    have K := Lib.hid (Lk.start w)
    replace K := Lib.hid (K.out.rr' ha)
    replace K := Lib.hid (K.out.bs' hj)
    clear ha hj
    go_enter Try.func32, Try.ntmps32
    go_wp2_with (first
      | (go_at_call 84; (with_reducible refine (awake7 _).mono ?_); rintro e w1 ⟨rfl, hbel⟩; (first | replace K := Lib.hid (K.out.below hbel) | replace K := Lib.hid ((K.out.alloc _).below hbel) | replace K := Lib.hid (((K.out.alloc _).alloc _).below hbel) | replace K := Lib.hid ((((K.out.alloc _).alloc _).alloc _).below hbel) | replace K := Lib.hid (((((K.out.alloc _).alloc _).alloc _).alloc _).below hbel) | replace K := Lib.hid (K.out.drew.below hbel) | replace K := Lib.hid ((K.out.drewN _).below hbel)); clear hbel)
      | (go_at_call 37; (with_reducible refine (new_any _).mono ?_); rintro e w2 ⟨rfl, hbel, hg⟩; (first | replace K := Lib.hid (K.out.below hbel) | replace K := Lib.hid ((K.out.alloc _).below hbel) | replace K := Lib.hid (((K.out.alloc _).alloc _).below hbel) | replace K := Lib.hid ((((K.out.alloc _).alloc _).alloc _).below hbel) | replace K := Lib.hid (((((K.out.alloc _).alloc _).alloc _).alloc _).below hbel) | replace K := Lib.hid (K.out.drew.below hbel) | replace K := Lib.hid ((K.out.drewN _).below hbel)); clear hbel; replace K := Lib.hid (K.out.withF hg); clear hg)
      | (go_at_call 70; (with_reducible refine (FA.out _ _ _ ?_).mono ?_); (first | exact K.out.at (.head _) | exact (K.out.alloc _).at (.head _) | exact ((K.out.alloc _).alloc _).at (.head _) | exact (((K.out.alloc _).alloc _).alloc _).at (.head _) | exact ((((K.out.alloc _).alloc _).alloc _).alloc _).at (.head _) | exact K.out.drew.at (.head _) | exact (K.out.drewN _).at (.head _)); rintro e w3 ⟨rfl, hbel⟩; (first | replace K := Lib.hid (K.out.below hbel) | replace K := Lib.hid ((K.out.alloc _).below hbel) | replace K := Lib.hid (((K.out.alloc _).alloc _).below hbel) | replace K := Lib.hid ((((K.out.alloc _).alloc _).alloc _).below hbel) | replace K := Lib.hid (((((K.out.alloc _).alloc _).alloc _).alloc _).below hbel) | replace K := Lib.hid (K.out.drew.below hbel) | replace K := Lib.hid ((K.out.drewN _).below hbel)); clear hbel))
    go_ret
    exact ⟨rfl, K.out.since⟩
  have FA : Hid (∀ A c w, Rr w A c la → Calls Try.prog 70 #[.int .i64 k, .int .i64 m, .slice A la.length c] w fun e w' => e = .returned (.bool true) ∧ Below w.heap.size w w') := fun A c w h => few_any k m A c la true w hk hm h (by simp [hfa])
  have hla := hfa.le
  have hna : la.length ≤ 900 := by have := hfa.1; omega
  obtain ⟨X, E, kca, EA, _⟩ := enc_out k m la hk hm hna hla
  have HEA := Lib.hid EA
  clear EA
  by_cases hE : E = 0
  rotate_left
  · have dE0 : (E == 0) = false := by rw [beq_eq_false_iff_ne]; exact hE
    have dE1 : (E != 0) = true := by rw [bne_iff_ne]; exact hE
    clear hE kca hfa hla hna
    have K := Lib.hid (Lk.start w)
    replace K := Lib.hid (K.out.rr' ha)
    replace K := Lib.hid (K.out.bs' hj)
    clear ha hj
    go_enter Try.func32, Try.ntmps32
    go_wp2_with (first
      | (go_at_call 84; (with_reducible refine (awake7 _).mono ?_); rintro e w1 ⟨rfl, hbel⟩; (first | replace K := Lib.hid (K.out.below hbel) | replace K := Lib.hid ((K.out.alloc _).below hbel) | replace K := Lib.hid (((K.out.alloc _).alloc _).below hbel) | replace K := Lib.hid ((((K.out.alloc _).alloc _).alloc _).below hbel) | replace K := Lib.hid (((((K.out.alloc _).alloc _).alloc _).alloc _).below hbel) | replace K := Lib.hid (K.out.drew.below hbel) | replace K := Lib.hid ((K.out.drewN _).below hbel)); clear hbel)
      | (go_at_call 37; (with_reducible refine (new_any _).mono ?_); rintro e w2 ⟨rfl, hbel, hg⟩; (first | replace K := Lib.hid (K.out.below hbel) | replace K := Lib.hid ((K.out.alloc _).below hbel) | replace K := Lib.hid (((K.out.alloc _).alloc _).below hbel) | replace K := Lib.hid ((((K.out.alloc _).alloc _).alloc _).below hbel) | replace K := Lib.hid (((((K.out.alloc _).alloc _).alloc _).alloc _).below hbel) | replace K := Lib.hid (K.out.drew.below hbel) | replace K := Lib.hid ((K.out.drewN _).below hbel)); clear hbel; replace K := Lib.hid (K.out.withF hg); clear hg)
      | (go_at_call 70; (with_reducible refine (FA.out _ _ _ ?_).mono ?_); (first | exact K.out.at (.head _) | exact (K.out.alloc _).at (.head _) | exact ((K.out.alloc _).alloc _).at (.head _) | exact (((K.out.alloc _).alloc _).alloc _).at (.head _) | exact ((((K.out.alloc _).alloc _).alloc _).alloc _).at (.head _) | exact K.out.drew.at (.head _) | exact (K.out.drewN _).at (.head _)); rintro e w3 ⟨rfl, hbel⟩; (first | replace K := Lib.hid (K.out.below hbel) | replace K := Lib.hid ((K.out.alloc _).below hbel) | replace K := Lib.hid (((K.out.alloc _).alloc _).below hbel) | replace K := Lib.hid ((((K.out.alloc _).alloc _).alloc _).below hbel) | replace K := Lib.hid (((((K.out.alloc _).alloc _).alloc _).alloc _).below hbel) | replace K := Lib.hid (K.out.drew.below hbel) | replace K := Lib.hid ((K.out.drewN _).below hbel)); clear hbel)
      | (go_at_call 71; (with_reducible refine (HEA.out _ _ _ _ ?_ ?_).mono ?_); (first | exact K.out.gf | exact (K.out.alloc _).gf | exact K.out.drew.gf | exact ((K.out.alloc _).alloc _).gf | exact (((K.out.alloc _).alloc _).alloc _).gf | exact (((((K.out.alloc _).alloc _).alloc _).alloc _)).gf); (first | exact K.out.at (.head _) | exact (K.out.alloc _).at (.head _) | exact ((K.out.alloc _).alloc _).at (.head _) | exact (((K.out.alloc _).alloc _).alloc _).at (.head _) | exact ((((K.out.alloc _).alloc _).alloc _).alloc _).at (.head _) | exact K.out.drew.at (.head _) | exact (K.out.drewN _).at (.head _)); rintro e w4 ⟨Ax, cx, rfl, hr, hbel⟩; (first | replace K := Lib.hid (K.out.below hbel) | replace K := Lib.hid ((K.out.alloc _).below hbel) | replace K := Lib.hid (((K.out.alloc _).alloc _).below hbel) | replace K := Lib.hid ((((K.out.alloc _).alloc _).alloc _).below hbel) | replace K := Lib.hid (((((K.out.alloc _).alloc _).alloc _).alloc _).below hbel) | replace K := Lib.hid (K.out.drew.below hbel) | replace K := Lib.hid ((K.out.drewN _).below hbel)); replace K := Lib.hid (K.out.rr' hr); clear hr; clear hbel))
    go_ret
    exact ⟨rfl, K.out.since⟩
  subst hE
  obtain ⟨k, m, rfl, rfl, hkm, hal, rfl, hk1, hkb⟩ := kca.ok
  have qa := hal.eql
  have qX := qa.enc hk1 m
  have hXl : (enc k m la).length = k + m := qX.len
  have hl30 : lenAt la 0 ≤ 30 := hfa.2.1 0 (by have := qa.len; omega)
  by_cases hhl : has.length = k + m
  rotate_left
  · have d0 : ((has.length : Int) == (k : Int) + (m : Int)) = false := by rw [beq_eq_false_iff_ne]; omega
    have d1 : ((has.length : Int) != (k : Int) + (m : Int)) = true := by rw [bne_iff_ne]; omega
    clear hfa hla hna qa qX hal hhl
    have K := Lib.hid (Lk.start w)
    replace K := Lib.hid (K.out.rr' ha)
    replace K := Lib.hid (K.out.bs' hj)
    clear ha hj
    go_enter Try.func32, Try.ntmps32
    go_wp2_with (first
      | (go_at_call 84; (with_reducible refine (awake7 _).mono ?_); rintro e w1 ⟨rfl, hbel⟩; (first | replace K := Lib.hid (K.out.below hbel) | replace K := Lib.hid ((K.out.alloc _).below hbel) | replace K := Lib.hid (((K.out.alloc _).alloc _).below hbel) | replace K := Lib.hid ((((K.out.alloc _).alloc _).alloc _).below hbel) | replace K := Lib.hid (((((K.out.alloc _).alloc _).alloc _).alloc _).below hbel) | replace K := Lib.hid (K.out.drew.below hbel) | replace K := Lib.hid ((K.out.drewN _).below hbel)); clear hbel)
      | (go_at_call 37; (with_reducible refine (new_any _).mono ?_); rintro e w2 ⟨rfl, hbel, hg⟩; (first | replace K := Lib.hid (K.out.below hbel) | replace K := Lib.hid ((K.out.alloc _).below hbel) | replace K := Lib.hid (((K.out.alloc _).alloc _).below hbel) | replace K := Lib.hid ((((K.out.alloc _).alloc _).alloc _).below hbel) | replace K := Lib.hid (((((K.out.alloc _).alloc _).alloc _).alloc _).below hbel) | replace K := Lib.hid (K.out.drew.below hbel) | replace K := Lib.hid ((K.out.drewN _).below hbel)); clear hbel; replace K := Lib.hid (K.out.withF hg); clear hg)
      | (go_at_call 70; (with_reducible refine (FA.out _ _ _ ?_).mono ?_); (first | exact K.out.at (.head _) | exact (K.out.alloc _).at (.head _) | exact ((K.out.alloc _).alloc _).at (.head _) | exact (((K.out.alloc _).alloc _).alloc _).at (.head _) | exact ((((K.out.alloc _).alloc _).alloc _).alloc _).at (.head _) | exact K.out.drew.at (.head _) | exact (K.out.drewN _).at (.head _)); rintro e w3 ⟨rfl, hbel⟩; (first | replace K := Lib.hid (K.out.below hbel) | replace K := Lib.hid ((K.out.alloc _).below hbel) | replace K := Lib.hid (((K.out.alloc _).alloc _).below hbel) | replace K := Lib.hid ((((K.out.alloc _).alloc _).alloc _).below hbel) | replace K := Lib.hid (((((K.out.alloc _).alloc _).alloc _).alloc _).below hbel) | replace K := Lib.hid (K.out.drew.below hbel) | replace K := Lib.hid ((K.out.drewN _).below hbel)); clear hbel)
      | (go_at_call 71; (with_reducible refine (HEA.out _ _ _ _ ?_ ?_).mono ?_); (first | exact K.out.gf | exact (K.out.alloc _).gf | exact K.out.drew.gf | exact ((K.out.alloc _).alloc _).gf | exact (((K.out.alloc _).alloc _).alloc _).gf | exact (((((K.out.alloc _).alloc _).alloc _).alloc _)).gf); (first | exact K.out.at (.head _) | exact (K.out.alloc _).at (.head _) | exact ((K.out.alloc _).alloc _).at (.head _) | exact (((K.out.alloc _).alloc _).alloc _).at (.head _) | exact ((((K.out.alloc _).alloc _).alloc _).alloc _).at (.head _) | exact K.out.drew.at (.head _) | exact (K.out.drewN _).at (.head _)); rintro e w4 ⟨Ax, cx, rfl, hr, hbel⟩; (first | replace K := Lib.hid (K.out.below hbel) | replace K := Lib.hid ((K.out.alloc _).below hbel) | replace K := Lib.hid (((K.out.alloc _).alloc _).below hbel) | replace K := Lib.hid ((((K.out.alloc _).alloc _).alloc _).below hbel) | replace K := Lib.hid (((((K.out.alloc _).alloc _).alloc _).alloc _).below hbel) | replace K := Lib.hid (K.out.drew.below hbel) | replace K := Lib.hid ((K.out.drewN _).below hbel)); replace K := Lib.hid (K.out.rr' hr); clear hr; clear hbel))
    go_ret
    exact ⟨rfl, K.out.since⟩
  have d0 : ((has.length : Int) == (k : Int) + (m : Int)) = true := by rw [beq_iff_eq]; omega
  have d1 : ((has.length : Int) != (k : Int) + (m : Int)) = false := by rw [bne_eq_false_iff_eq]; omega
  by_cases h20 : k + m ≤ 20
  rotate_left
  · have d2 : (20 : Int) < (k : Int) + (m : Int) := by omega
    clear hfa hla hna qa qX hal
    have K := Lib.hid (Lk.start w)
    replace K := Lib.hid (K.out.rr' ha)
    replace K := Lib.hid (K.out.bs' hj)
    clear ha hj
    go_enter Try.func32, Try.ntmps32
    go_wp2_with (first
      | (go_at_call 84; (with_reducible refine (awake7 _).mono ?_); rintro e w1 ⟨rfl, hbel⟩; (first | replace K := Lib.hid (K.out.below hbel) | replace K := Lib.hid ((K.out.alloc _).below hbel) | replace K := Lib.hid (((K.out.alloc _).alloc _).below hbel) | replace K := Lib.hid ((((K.out.alloc _).alloc _).alloc _).below hbel) | replace K := Lib.hid (((((K.out.alloc _).alloc _).alloc _).alloc _).below hbel) | replace K := Lib.hid (K.out.drew.below hbel) | replace K := Lib.hid ((K.out.drewN _).below hbel)); clear hbel)
      | (go_at_call 37; (with_reducible refine (new_any _).mono ?_); rintro e w2 ⟨rfl, hbel, hg⟩; (first | replace K := Lib.hid (K.out.below hbel) | replace K := Lib.hid ((K.out.alloc _).below hbel) | replace K := Lib.hid (((K.out.alloc _).alloc _).below hbel) | replace K := Lib.hid ((((K.out.alloc _).alloc _).alloc _).below hbel) | replace K := Lib.hid (((((K.out.alloc _).alloc _).alloc _).alloc _).below hbel) | replace K := Lib.hid (K.out.drew.below hbel) | replace K := Lib.hid ((K.out.drewN _).below hbel)); clear hbel; replace K := Lib.hid (K.out.withF hg); clear hg)
      | (go_at_call 70; (with_reducible refine (FA.out _ _ _ ?_).mono ?_); (first | exact K.out.at (.head _) | exact (K.out.alloc _).at (.head _) | exact ((K.out.alloc _).alloc _).at (.head _) | exact (((K.out.alloc _).alloc _).alloc _).at (.head _) | exact ((((K.out.alloc _).alloc _).alloc _).alloc _).at (.head _) | exact K.out.drew.at (.head _) | exact (K.out.drewN _).at (.head _)); rintro e w3 ⟨rfl, hbel⟩; (first | replace K := Lib.hid (K.out.below hbel) | replace K := Lib.hid ((K.out.alloc _).below hbel) | replace K := Lib.hid (((K.out.alloc _).alloc _).below hbel) | replace K := Lib.hid ((((K.out.alloc _).alloc _).alloc _).below hbel) | replace K := Lib.hid (((((K.out.alloc _).alloc _).alloc _).alloc _).below hbel) | replace K := Lib.hid (K.out.drew.below hbel) | replace K := Lib.hid ((K.out.drewN _).below hbel)); clear hbel)
      | (go_at_call 71; (with_reducible refine (HEA.out _ _ _ _ ?_ ?_).mono ?_); (first | exact K.out.gf | exact (K.out.alloc _).gf | exact K.out.drew.gf | exact ((K.out.alloc _).alloc _).gf | exact (((K.out.alloc _).alloc _).alloc _).gf | exact (((((K.out.alloc _).alloc _).alloc _).alloc _)).gf); (first | exact K.out.at (.head _) | exact (K.out.alloc _).at (.head _) | exact ((K.out.alloc _).alloc _).at (.head _) | exact (((K.out.alloc _).alloc _).alloc _).at (.head _) | exact ((((K.out.alloc _).alloc _).alloc _).alloc _).at (.head _) | exact K.out.drew.at (.head _) | exact (K.out.drewN _).at (.head _)); rintro e w4 ⟨Ax, cx, rfl, hr, hbel⟩; (first | replace K := Lib.hid (K.out.below hbel) | replace K := Lib.hid ((K.out.alloc _).below hbel) | replace K := Lib.hid (((K.out.alloc _).alloc _).below hbel) | replace K := Lib.hid ((((K.out.alloc _).alloc _).alloc _).below hbel) | replace K := Lib.hid (((((K.out.alloc _).alloc _).alloc _).alloc _).below hbel) | replace K := Lib.hid (K.out.drew.below hbel) | replace K := Lib.hid ((K.out.drewN _).below hbel)); replace K := Lib.hid (K.out.rr' hr); clear hr; clear hbel))
    go_ret
    exact ⟨rfl, K.out.since⟩
  have d2 : ¬ (20 : Int) < (k : Int) + (m : Int) := by omega
  have hXm : ∀ l, l ∈ enc k m la → l.length ≤ 100000 := fun l hl => by
    obtain ⟨i, hi, rfl⟩ := List.mem_iff_getElem.1 hl
    have := qX.row i (by omega)
    unfold lenAt at this
    rw [List.getD_eq_getElem?_getD, List.getElem?_eq_getElem hi] at this
    have h2 : ((enc k m la)[i]).length = lenAt la 0 := this
    unfold lenAt at h2
    have : (la.getD 0 []).length ≤ 30 := hl30
    omega
  obtain ⟨Y, G, hc1, h1⟩ := dec_out_g (k : Int) (m : Int) has (lostT (enc k m la) has lj (enc k m la).length) hk hm (fun i hi => by
    have := qX.row i (by have := idx_lt hi; omega)
    unfold lenAt at this ⊢
    rw [lostT_row (idx_has hi)]
    unfold lenAt at hl30
    omega)
  have BC := back_case hkm qa hhl hc1
  have hhX : has.length = (enc k m la).length := by omega
  have HD1 : Hid (∀ b Ah ch A c w, GfAt w b → Sl w Ah ch (has.map Value.bool) → Rr w A c (lostT (enc k m la) has lj (enc k m la).length) → Calls Try.prog 85 #[fp b, .int .i64 k, .int .i64 m, .slice Ah (enc k m la).length ch, .slice A (enc k m la).length c] w (ShR w Y G)) := fun b Ah ch A c w hg hh hr => by have := h1 b Ah ch A c w hg hh hr; rw [length_lostT, hhX] at this; exact this
  have CNT : Hid (∀ A c w, Sl w A c (has.map Value.bool) → Calls Try.prog 87 #[.slice A (enc k m la).length c] w fun e w' => e = .returned (.int .i64 ((idx has has.length).length : Int)) ∧ Below w.heap.size w w') := fun A c w h => by have := count_out has (enc k m la).length hhX (by omega) A c w h; rw [← hhX] at this ⊢; exact this
  have CPY : Hid (∀ A c w, Rr w A c (enc k m la) → Calls Try.prog 79 #[.slice A (enc k m la).length c] w fun e w' => ∃ A' c' rs, e = .returned (.slice A' (enc k m la).length c') ∧ lsts rs = enc k m la ∧ MadeR w w' A' (enc k m la).length c' rs) := fun A c w h => by
    obtain ⟨vs, h1, h2⟩ := h.ex
    exact ref06_copied A _ c vs (enc k m la) w h1 h2 rfl (by omega) hXm
  have hX0 : 0 < (enc k m la).length := by omega
  have HXL := Lib.hid hXl
  rw [hhX] at d0 d1 ⊢
  have HHX := Lib.hid hhX
  have SM : Hid (∀ A c A' c' w, Rr w A c (enc k m la) → Rr w A' c' (enc k m la) → Calls Try.prog 75 #[.slice A (enc k m la).length c, .slice A' (enc k m la).length c'] w fun e w' => e = .returned (.bool true) ∧ Below w.heap.size w w') := fun A c A' c' w h h' => same_out _ _ true (by simp) (by omega) A c A' c' w h h'
  clear hfa hla hna hXl hl30 hhl hXm hc1 h1 hhX kca
  have hX20 : (enc k m la).length ≤ 20 := by have := HXL.out; omega
  clear hal qa qX
  generalize enc k m la = X at *
  generalize (idx has has.length).length = C at *
  have K := Lib.hid (Lk.start w)
  replace K := Lib.hid (K.out.rr' ha)
  replace K := Lib.hid (K.out.bs' hj)
  clear ha hj
  go_enter Try.func32, Try.ntmps32
  go_wp2_with (first
    | (go_at_call 84; (with_reducible refine (awake7 _).mono ?_); rintro e w1 ⟨rfl, hbel⟩; (first | replace K := Lib.hid (K.out.below hbel) | replace K := Lib.hid ((K.out.alloc _).below hbel) | replace K := Lib.hid (((K.out.alloc _).alloc _).below hbel) | replace K := Lib.hid ((((K.out.alloc _).alloc _).alloc _).below hbel) | replace K := Lib.hid (((((K.out.alloc _).alloc _).alloc _).alloc _).below hbel) | replace K := Lib.hid (K.out.drew.below hbel) | replace K := Lib.hid ((K.out.drewN _).below hbel)); clear hbel)
    | (go_at_call 37; (with_reducible refine (new_any _).mono ?_); rintro e w2 ⟨rfl, hbel, hg⟩; (first | replace K := Lib.hid (K.out.below hbel) | replace K := Lib.hid ((K.out.alloc _).below hbel) | replace K := Lib.hid (((K.out.alloc _).alloc _).below hbel) | replace K := Lib.hid ((((K.out.alloc _).alloc _).alloc _).below hbel) | replace K := Lib.hid (((((K.out.alloc _).alloc _).alloc _).alloc _).below hbel) | replace K := Lib.hid (K.out.drew.below hbel) | replace K := Lib.hid ((K.out.drewN _).below hbel)); clear hbel; replace K := Lib.hid (K.out.withF hg); clear hg)
    | (go_at_call 70; (with_reducible refine (FA.out _ _ _ ?_).mono ?_); (first | exact K.out.at (.head _) | exact (K.out.alloc _).at (.head _) | exact ((K.out.alloc _).alloc _).at (.head _) | exact (((K.out.alloc _).alloc _).alloc _).at (.head _) | exact ((((K.out.alloc _).alloc _).alloc _).alloc _).at (.head _) | exact K.out.drew.at (.head _) | exact (K.out.drewN _).at (.head _)); rintro e w3 ⟨rfl, hbel⟩; (first | replace K := Lib.hid (K.out.below hbel) | replace K := Lib.hid ((K.out.alloc _).below hbel) | replace K := Lib.hid (((K.out.alloc _).alloc _).below hbel) | replace K := Lib.hid ((((K.out.alloc _).alloc _).alloc _).below hbel) | replace K := Lib.hid (((((K.out.alloc _).alloc _).alloc _).alloc _).below hbel) | replace K := Lib.hid (K.out.drew.below hbel) | replace K := Lib.hid ((K.out.drewN _).below hbel)); clear hbel)
    | (go_at_call 71; (with_reducible refine (HEA.out _ _ _ _ ?_ ?_).mono ?_); (first | exact K.out.gf | exact (K.out.alloc _).gf | exact K.out.drew.gf | exact ((K.out.alloc _).alloc _).gf | exact (((K.out.alloc _).alloc _).alloc _).gf | exact (((((K.out.alloc _).alloc _).alloc _).alloc _)).gf); (first | exact K.out.at (.head _) | exact (K.out.alloc _).at (.head _) | exact ((K.out.alloc _).alloc _).at (.head _) | exact (((K.out.alloc _).alloc _).alloc _).at (.head _) | exact ((((K.out.alloc _).alloc _).alloc _).alloc _).at (.head _) | exact K.out.drew.at (.head _) | exact (K.out.drewN _).at (.head _)); rintro e w4 ⟨Ax, cx, rfl, hr, hbel⟩; (first | replace K := Lib.hid (K.out.below hbel) | replace K := Lib.hid ((K.out.alloc _).below hbel) | replace K := Lib.hid (((K.out.alloc _).alloc _).below hbel) | replace K := Lib.hid ((((K.out.alloc _).alloc _).alloc _).below hbel) | replace K := Lib.hid (((((K.out.alloc _).alloc _).alloc _).alloc _).below hbel) | replace K := Lib.hid (K.out.drew.below hbel) | replace K := Lib.hid ((K.out.drewN _).below hbel)); replace K := Lib.hid (K.out.rr' hr); clear hr; clear hbel)
    | (go_at_call 79; (with_reducible refine (CPY.out _ _ _ ?_).mono ?_); (first | exact K.out.at (.head _) | exact (K.out.alloc _).at (.head _) | exact ((K.out.alloc _).alloc _).at (.head _) | exact (((K.out.alloc _).alloc _).alloc _).at (.head _) | exact ((((K.out.alloc _).alloc _).alloc _).alloc _).at (.head _) | exact K.out.drew.at (.head _) | exact (K.out.drewN _).at (.head _)); rintro e w9 ⟨A0, c0, rs0, rfl, hls, hmr⟩; obtain ⟨g, hA, hsp⟩ := Spn.of hmr hls hX0; subst hA; have SP := Lib.hid hsp; clear hls hmr hsp))
  go_loopw [17] (fun v wr => ∃ i : Nat, i ≤ X.length ∧ v = .int .i64 i ∧ Spn w4 wr g X.length c0 (lostT X has lj i)) (fun v _ => X.length - (intOf v).toNat)
  case atStart => exact ⟨0, Nat.zero_le _, rfl, by rw [lostT_zero]; exact SP.out⟩
  case round =>
    clear SP
    obtain ⟨i, hi, rfl, hsp⟩ := hrel
    have SI := Lib.hid hsp
    clear hsp
    by_cases hlt : i < X.length
    · have hit : (i : Int) < (X.length : Int) := by omega
      obtain ⟨bh, oh, hA1, _, hch⟩ := Sl.at' (HH.out.below (K.out.below SI.out.bel).since) (by rw [List.length_map, HHX.out]; omega)
      subst hA1
      obtain ⟨q, hq⟩ : ∃ q, has.getD i false = q := ⟨_, rfl⟩
      have yh := hch i (.bool q) (by rw [List.getElem?_map, List.getElem?_eq_getElem (by rw [HHX.out]; exact hlt), ← hq, List.getD_eq_getElem?_getD, List.getElem?_eq_getElem (by rw [HHX.out]; exact hlt)]; rfl)
      have HQ := Lib.hid hq
      clear hch hq
      cases q with
      | true =>
        go_wp2
        go_roundw
        case rel => exact ⟨i + 1, by omega, by go_num, by rw [lostT_skip HQ.out]; exact SI.out⟩
        case measure => simp [intOf]; omega
      | false =>
        obtain ⟨⟨v0, hc0⟩, hf0, hB0⟩ := SI.out.at (i := i) hlt
        have SP2 := Lib.hid (SI.out.put (i := i) (K.out.sat (.head _)))
        rw [lostT_put HQ.out hlt] at SP2
        go_wp2
        go_roundw
        case rel => exact ⟨i + 1, by omega, by go_num, SP2.out⟩
        case measure => simp [intOf]; omega
    · obtain rfl : i = X.length := by omega
      have hit : ¬ ((X.length : Nat) : Int) < ((X.length : Nat) : Int) := by omega
      replace K := Lib.hid ((K.out.below SI.out.bel).rr' SI.out.rr)
      clear SI
      by_cases hkc : k ≤ C
      · obtain ⟨rfl, rfl⟩ := BC.1 hkc
        have hkt : ¬ (C : Int) < (k : Int) := by omega
        go_wp2_with (first
          | (go_at_call 85; (with_reducible refine (HD1.out _ _ _ _ _ _ ?_ ?_ ?_).mono ?_); (first | exact K.out.gf | exact (K.out.alloc _).gf | exact K.out.drew.gf | exact ((K.out.alloc _).alloc _).gf | exact (((K.out.alloc _).alloc _).alloc _).gf | exact (((((K.out.alloc _).alloc _).alloc _).alloc _)).gf); (first | exact HH.out.below K.out.since | exact HH.out.below (K.out.alloc _).since | exact HH.out.below ((K.out.alloc _).alloc _).since | exact HH.out.below (((K.out.alloc _).alloc _).alloc _).since | exact HH.out.below ((((K.out.alloc _).alloc _).alloc _).alloc _).since | exact HH.out.below K.out.drew.since | exact HH.out.below (K.out.drewN _).since); (first | exact K.out.at (.head _) | exact (K.out.alloc _).at (.head _) | exact ((K.out.alloc _).alloc _).at (.head _) | exact (((K.out.alloc _).alloc _).alloc _).at (.head _) | exact ((((K.out.alloc _).alloc _).alloc _).alloc _).at (.head _) | exact K.out.drew.at (.head _) | exact (K.out.drewN _).at (.head _)); rintro e w10 ⟨Ay, cy, rfl, hr, hbel⟩; (first | replace K := Lib.hid (K.out.below hbel) | replace K := Lib.hid ((K.out.alloc _).below hbel) | replace K := Lib.hid (((K.out.alloc _).alloc _).below hbel) | replace K := Lib.hid ((((K.out.alloc _).alloc _).alloc _).below hbel) | replace K := Lib.hid (((((K.out.alloc _).alloc _).alloc _).alloc _).below hbel) | replace K := Lib.hid (K.out.drew.below hbel) | replace K := Lib.hid ((K.out.drewN _).below hbel)); replace K := Lib.hid (K.out.rr' hr); clear hr; clear hbel)
          | (go_at_call 87; (with_reducible refine (CNT.out _ _ _ ?_).mono ?_); (first | exact HH.out.below K.out.since | exact HH.out.below (K.out.alloc _).since | exact HH.out.below ((K.out.alloc _).alloc _).since | exact HH.out.below (((K.out.alloc _).alloc _).alloc _).since | exact HH.out.below ((((K.out.alloc _).alloc _).alloc _).alloc _).since | exact HH.out.below K.out.drew.since | exact HH.out.below (K.out.drewN _).since); rintro e w11 ⟨rfl, hbel⟩; (first | replace K := Lib.hid (K.out.below hbel) | replace K := Lib.hid ((K.out.alloc _).below hbel) | replace K := Lib.hid (((K.out.alloc _).alloc _).below hbel) | replace K := Lib.hid ((((K.out.alloc _).alloc _).alloc _).below hbel) | replace K := Lib.hid (((((K.out.alloc _).alloc _).alloc _).alloc _).below hbel) | replace K := Lib.hid (K.out.drew.below hbel) | replace K := Lib.hid ((K.out.drewN _).below hbel)); clear hbel)
          | (go_at_call 75; (with_reducible refine (SM.out _ _ _ _ _ ?_ ?_).mono ?_); (first | exact K.out.at (.tail _ (.tail _ (.head _))) | exact (K.out.alloc _).at (.tail _ (.tail _ (.head _))) | exact ((K.out.alloc _).alloc _).at (.tail _ (.tail _ (.head _))) | exact (((K.out.alloc _).alloc _).alloc _).at (.tail _ (.tail _ (.head _))) | exact ((((K.out.alloc _).alloc _).alloc _).alloc _).at (.tail _ (.tail _ (.head _))) | exact K.out.drew.at (.tail _ (.tail _ (.head _))) | exact (K.out.drewN _).at (.tail _ (.tail _ (.head _)))); (first | exact K.out.at (.head _) | exact (K.out.alloc _).at (.head _) | exact ((K.out.alloc _).alloc _).at (.head _) | exact (((K.out.alloc _).alloc _).alloc _).at (.head _) | exact ((((K.out.alloc _).alloc _).alloc _).alloc _).at (.head _) | exact K.out.drew.at (.head _) | exact (K.out.drewN _).at (.head _)); rintro e w12 ⟨rfl, hbel⟩; (first | replace K := Lib.hid (K.out.below hbel) | replace K := Lib.hid ((K.out.alloc _).below hbel) | replace K := Lib.hid (((K.out.alloc _).alloc _).below hbel) | replace K := Lib.hid ((((K.out.alloc _).alloc _).alloc _).below hbel) | replace K := Lib.hid (((((K.out.alloc _).alloc _).alloc _).alloc _).below hbel) | replace K := Lib.hid (K.out.drew.below hbel) | replace K := Lib.hid ((K.out.drewN _).below hbel)); clear hbel))
        go_ret
        exact ⟨rfl, K.out.since⟩
      · obtain ⟨rfl, rfl⟩ := BC.2 (by omega)
        have hkt : (C : Int) < (k : Int) := by omega
        go_wp2_with (first
          | (go_at_call 85; (with_reducible refine (HD1.out _ _ _ _ _ _ ?_ ?_ ?_).mono ?_); (first | exact K.out.gf | exact (K.out.alloc _).gf | exact K.out.drew.gf | exact ((K.out.alloc _).alloc _).gf | exact (((K.out.alloc _).alloc _).alloc _).gf | exact (((((K.out.alloc _).alloc _).alloc _).alloc _)).gf); (first | exact HH.out.below K.out.since | exact HH.out.below (K.out.alloc _).since | exact HH.out.below ((K.out.alloc _).alloc _).since | exact HH.out.below (((K.out.alloc _).alloc _).alloc _).since | exact HH.out.below ((((K.out.alloc _).alloc _).alloc _).alloc _).since | exact HH.out.below K.out.drew.since | exact HH.out.below (K.out.drewN _).since); (first | exact K.out.at (.head _) | exact (K.out.alloc _).at (.head _) | exact ((K.out.alloc _).alloc _).at (.head _) | exact (((K.out.alloc _).alloc _).alloc _).at (.head _) | exact ((((K.out.alloc _).alloc _).alloc _).alloc _).at (.head _) | exact K.out.drew.at (.head _) | exact (K.out.drewN _).at (.head _)); rintro e w10 ⟨Ay, cy, rfl, hr, hbel⟩; (first | replace K := Lib.hid (K.out.below hbel) | replace K := Lib.hid ((K.out.alloc _).below hbel) | replace K := Lib.hid (((K.out.alloc _).alloc _).below hbel) | replace K := Lib.hid ((((K.out.alloc _).alloc _).alloc _).below hbel) | replace K := Lib.hid (((((K.out.alloc _).alloc _).alloc _).alloc _).below hbel) | replace K := Lib.hid (K.out.drew.below hbel) | replace K := Lib.hid ((K.out.drewN _).below hbel)); replace K := Lib.hid (K.out.rr' hr); clear hr; clear hbel)
          | (go_at_call 87; (with_reducible refine (CNT.out _ _ _ ?_).mono ?_); (first | exact HH.out.below K.out.since | exact HH.out.below (K.out.alloc _).since | exact HH.out.below ((K.out.alloc _).alloc _).since | exact HH.out.below (((K.out.alloc _).alloc _).alloc _).since | exact HH.out.below ((((K.out.alloc _).alloc _).alloc _).alloc _).since | exact HH.out.below K.out.drew.since | exact HH.out.below (K.out.drewN _).since); rintro e w11 ⟨rfl, hbel⟩; (first | replace K := Lib.hid (K.out.below hbel) | replace K := Lib.hid ((K.out.alloc _).below hbel) | replace K := Lib.hid (((K.out.alloc _).alloc _).below hbel) | replace K := Lib.hid ((((K.out.alloc _).alloc _).alloc _).below hbel) | replace K := Lib.hid (((((K.out.alloc _).alloc _).alloc _).alloc _).below hbel) | replace K := Lib.hid (K.out.drew.below hbel) | replace K := Lib.hid ((K.out.drewN _).below hbel)); clear hbel))
        go_ret
        exact ⟨rfl, K.out.since⟩
end Go.Proofs.Ytmkjplpnoohfnaa
