/- SyndromeCode, walked. -/
import Derived.Test.YtmkjplpnoohfnaaSyc
namespace Go.Proofs.Ytmkjplpnoohfnaa
open Go.RowKit
set_option linter.unusedVariables false
set_option linter.unusedSimpArgs false
theorem enc_app {k m : Nat} {l : List F} (h : l.length = k) (h1 : 1 ≤ k) {i : Nat} (hi : i < k + m) : at2 (enc k m (colW l)) i 0 = app k (genF k) (fun t => l.getD t 0) i := by
  rw [at2_enc (eql_colW h) h1 hi (by decide)]
  unfold app
  by_cases e : i < k
  · rw [if_pos e, at2_colW (by omega), sumF_congr (g := fun j => dlt i j * l.getD j 0) fun j _ => by rw [genF, if_pos e]]
    exact (sumF_dlt_left (fun t => l.getD t 0) e).symm
  · rw [if_neg e]
    refine sumF_congr fun t ht => ?_
    rw [genF, if_neg e, at2_colW (by omega)]
    unfold parF
    rw [show k + (i - k) = i by omega]
/-- the syndromes of a code's word are nought -/
theorem code_nought {k m : Nat} {l : List F} (hkm : k + m ≤ 256) (h : l.length = k) (h1 : 1 ≤ k) : ∀ i, i < m → (synL k m (tab (k + m) fun i => at2 (enc k m (colW l)) i 0)).getD i 0 = 0 := fun i hi => by
  rw [synL, getD_tab _ hi, syn_congr (v := app k (genF k) fun t => l.getD t 0) fun j hj => by rw [getD_tab _ hj, enc_app h h1 hj]]
  exact syn_code hkm _ hi
theorem getD_take_lt {l : List F} {k i : Nat} (h : i < k) : (l.take k).getD i 0 = l.getD i 0 := by
  rw [List.getD_eq_getElem?_getD, List.getElem?_take, if_pos h, ← List.getD_eq_getElem?_getD]
theorem colW_take (l : List F) (k : Nat) : (colW l).take k = colW (l.take k) := by unfold colW; rw [List.map_take]
theorem code_iff {k m : Nat} {l : List F} (hkm : k + m ≤ 256) (h : l.length = k + m) (h1 : 1 ≤ k) : enc k m ((colW l).take k) = colW l ↔ ∀ i, i < m → (synL k m l).getD i 0 = 0 := by
  have hk : (l.take k).length = k := by rw [List.length_take]; omega
  rw [colW_take]
  constructor
  · intro e i hi
    have := code_nought hkm hk h1 i hi
    rw [synL, getD_tab _ hi] at this ⊢
    refine Eq.trans (syn_congr (fun j hj => ?_) i) this
    rw [getD_tab _ hj, e, at2_colW (by omega)]
  · intro hz
    refine ((eql_colW hk).enc h1 m).ext (eql_colW h) fun a x ha hx => ?_
    obtain rfl : x = 0 := by omega
    rw [enc_app hk h1 ha, at2_colW (by omega)]
    have := syn_zero hkm (fun t => l.getD t 0) (fun j hj => by have := hz j hj; rwa [synL, getD_tab _ hj] at this) a ha
    rw [this]
    unfold app
    exact sumF_congr fun t ht => by show genF k a t * (l.take k).getD t 0 = _; rw [getD_take_lt ht]
set_option maxRecDepth 1000000 in
set_option maxHeartbeats 4000000 in
theorem walk_SyndromeCode {w : World} (k : Int) (hk : -9223372036854775808 ≤ k ∧ k ≤ 9223372036854775807) (m : Int) (hm : -9223372036854775808 ≤ m ∧ m ≤ 9223372036854775807) (Ao : Option Addr) (co : Nat) (lo : List F) (ho : Bs w Ao co lo) :
    Calls Try.prog 29 #[.int .i64 k, .int .i64 m, .slice Ao lo.length co] w fun e w' => e = .returned (.bool true) ∧ Below w.heap.size w w' := by
  by_cases hkm : okkm k m
  rotate_left
  · have FW : Hid (∀ w, Calls Try.prog 49 #[.int .i64 k, .int .i64 m] w fun e w' => e = .returned (.bool true) ∧ w = w') := fun w => few8_bad k m hk hm hkm w
    have CK : Hid (∀ w, Calls Try.prog 38 #[.int .i64 k, .int .i64 m] w fun e w' => e = .returned (.int .i64 50) ∧ w = w') := fun w => cauchy_check_bad k m hk hm hkm w
    clear hkm
    have K := Lib.hid (Lk.start w)
    replace K := Lib.hid (K.out.bs' ho)
    clear ho
    go_enter Try.func29, Try.ntmps29
    go_wp2_with (first
      | (go_at_call 48; (with_reducible refine (awake8 _).mono ?_); rintro e w1 ⟨rfl, hbel⟩; (first | replace K := Lib.hid (K.out.below hbel) | replace K := Lib.hid ((K.out.alloc _).below hbel) | replace K := Lib.hid (((K.out.alloc _).alloc _).below hbel) | replace K := Lib.hid ((((K.out.alloc _).alloc _).alloc _).below hbel) | replace K := Lib.hid (((((K.out.alloc _).alloc _).alloc _).alloc _).below hbel) | replace K := Lib.hid (K.out.drew.below hbel) | replace K := Lib.hid ((K.out.drewN _).below hbel)); clear hbel)
      | (go_at_call 37; (with_reducible refine (new_any _).mono ?_); rintro e w2 ⟨rfl, hbel, hg⟩; (first | replace K := Lib.hid (K.out.below hbel) | replace K := Lib.hid ((K.out.alloc _).below hbel) | replace K := Lib.hid (((K.out.alloc _).alloc _).below hbel) | replace K := Lib.hid ((((K.out.alloc _).alloc _).alloc _).below hbel) | replace K := Lib.hid (((((K.out.alloc _).alloc _).alloc _).alloc _).below hbel) | replace K := Lib.hid (K.out.drew.below hbel) | replace K := Lib.hid ((K.out.drewN _).below hbel)); clear hbel; replace K := Lib.hid (K.out.withF hg); clear hg)
      | (go_at_call 49; (with_reducible refine (FW.out _).mono ?_); rintro e wx ⟨rfl, rfl⟩)
      | (go_at_call 38; (with_reducible refine (CK.out _).mono ?_); rintro e wx ⟨rfl, rfl⟩))
    go_ret
    exact ⟨rfl, K.out.since⟩
  by_cases h30 : k + m ≤ 30
  rotate_left
  · have FW : Hid (∀ w, Calls Try.prog 49 #[.int .i64 k, .int .i64 m] w fun e w' => e = .returned (.bool false) ∧ w = w') := fun w => few8_big k m hkm h30 w
    clear hkm h30
    have K := Lib.hid (Lk.start w)
    replace K := Lib.hid (K.out.bs' ho)
    clear ho
    go_enter Try.func29, Try.ntmps29
    go_wp2_with (first
      | (go_at_call 48; (with_reducible refine (awake8 _).mono ?_); rintro e w1 ⟨rfl, hbel⟩; (first | replace K := Lib.hid (K.out.below hbel) | replace K := Lib.hid ((K.out.alloc _).below hbel) | replace K := Lib.hid (((K.out.alloc _).alloc _).below hbel) | replace K := Lib.hid ((((K.out.alloc _).alloc _).alloc _).below hbel) | replace K := Lib.hid (((((K.out.alloc _).alloc _).alloc _).alloc _).below hbel) | replace K := Lib.hid (K.out.drew.below hbel) | replace K := Lib.hid ((K.out.drewN _).below hbel)); clear hbel)
      | (go_at_call 37; (with_reducible refine (new_any _).mono ?_); rintro e w2 ⟨rfl, hbel, hg⟩; (first | replace K := Lib.hid (K.out.below hbel) | replace K := Lib.hid ((K.out.alloc _).below hbel) | replace K := Lib.hid (((K.out.alloc _).alloc _).below hbel) | replace K := Lib.hid ((((K.out.alloc _).alloc _).alloc _).below hbel) | replace K := Lib.hid (((((K.out.alloc _).alloc _).alloc _).alloc _).below hbel) | replace K := Lib.hid (K.out.drew.below hbel) | replace K := Lib.hid ((K.out.drewN _).below hbel)); clear hbel; replace K := Lib.hid (K.out.withF hg); clear hg)
      | (go_at_call 49; (with_reducible refine (FW.out _).mono ?_); rintro e wx ⟨rfl, rfl⟩))
    go_ret
    exact ⟨rfl, K.out.since⟩
  have FW : Hid (∀ w, Calls Try.prog 49 #[.int .i64 k, .int .i64 m] w fun e w' => e = .returned (.bool true) ∧ w = w') := fun w => few8_ok k m hkm h30 w
  have CK : Hid (∀ w, Calls Try.prog 38 #[.int .i64 k, .int .i64 m] w fun e w' => e = .returned (.int .i64 0) ∧ w = w') := fun w => cauchy_check_ok k m hkm w
  obtain ⟨k, m, rfl, rfl⟩ := okkm_nat hkm
  obtain ⟨g1, g2, g3⟩ := id hkm
  have hk1 : 1 ≤ k := by omega
  have hkb : k + m ≤ 30 := by omega
  by_cases hlk : k ≤ lo.length
  rotate_left
  · have dl : (lo.length : Int) < (k : Int) := by omega
    clear hkm h30 hlk g1 g2 g3
    have K := Lib.hid (Lk.start w)
    replace K := Lib.hid (K.out.bs' ho)
    clear ho
    go_enter Try.func29, Try.ntmps29
    go_wp2_with (first
      | (go_at_call 48; (with_reducible refine (awake8 _).mono ?_); rintro e w1 ⟨rfl, hbel⟩; (first | replace K := Lib.hid (K.out.below hbel) | replace K := Lib.hid ((K.out.alloc _).below hbel) | replace K := Lib.hid (((K.out.alloc _).alloc _).below hbel) | replace K := Lib.hid ((((K.out.alloc _).alloc _).alloc _).below hbel) | replace K := Lib.hid (((((K.out.alloc _).alloc _).alloc _).alloc _).below hbel) | replace K := Lib.hid (K.out.drew.below hbel) | replace K := Lib.hid ((K.out.drewN _).below hbel)); clear hbel)
      | (go_at_call 37; (with_reducible refine (new_any _).mono ?_); rintro e w2 ⟨rfl, hbel, hg⟩; (first | replace K := Lib.hid (K.out.below hbel) | replace K := Lib.hid ((K.out.alloc _).below hbel) | replace K := Lib.hid (((K.out.alloc _).alloc _).below hbel) | replace K := Lib.hid ((((K.out.alloc _).alloc _).alloc _).below hbel) | replace K := Lib.hid (((((K.out.alloc _).alloc _).alloc _).alloc _).below hbel) | replace K := Lib.hid (K.out.drew.below hbel) | replace K := Lib.hid ((K.out.drewN _).below hbel)); clear hbel; replace K := Lib.hid (K.out.withF hg); clear hg)
      | (go_at_call 49; (with_reducible refine (FW.out _).mono ?_); rintro e wx ⟨rfl, rfl⟩)
      | (go_at_call 38; (with_reducible refine (CK.out _).mono ?_); rintro e wx ⟨rfl, rfl⟩))
    go_ret
    exact ⟨rfl, K.out.since⟩
  have dl : ¬ (lo.length : Int) < (k : Int) := by omega
  have hw := ho.len
  have hwm := ho.mx
  unfold maxLen at hwm
  have hkc : (k : Int) ≤ (co : Int) := by omega
  have ht : (lo.take k).length = k := by rw [List.length_take]; omega
  have qC := eql_colW ht
  have qX := qC.enc hk1 m
  have hXl : (enc k m (colW (lo.take k))).length = k + m := qX.len
  have HC1 : Hid (∀ A c w, Bs w A c (lo.take k) → Calls Try.prog 81 #[.slice A k c] w fun e w' => ∃ A' c', e = .returned (.slice A' k c') ∧ Rr w' A' c' (colW (lo.take k)) ∧ Below w.heap.size w w') := fun A c w h => column_out _ k ht (by omega) A c w h
  have HE1 : Hid (∀ b A c w, GfAt w b → Rr w A c (colW (lo.take k)) → Calls Try.prog 71 #[fp b, .int .i64 k, .int .i64 m, .slice A k c] w fun e w' => ∃ A' c', e = .returned (.tuple #[.slice A' (k + m) c', .int .i64 0]) ∧ Rr w' A' c' (enc k m (colW (lo.take k))) ∧ Below w.heap.size w w') := fun b A c w hg hr => by
    have := enc_yes hkm qC.alk (qC.le (by omega)) b A c w hg hr
    rw [qC.len] at this
    refine this.mono fun e w' h => ?_
    obtain ⟨A', c', he, h2⟩ := h
    rw [hXl] at he
    exact ⟨A', c', he, h2⟩
  have HLI : Hid (∀ A c w, Rr w A c (enc k m (colW (lo.take k))) → Calls Try.prog 82 #[.slice A (k + m) c] w fun e w' => ∃ A' c', e = .returned (.slice A' (k + m) c') ∧ Bs w' A' c' (tab (k + m) fun i => at2 (enc k m (colW (lo.take k))) i 0) ∧ Below w.heap.size w w') := fun A c w h => line_out _ (k + m) qX (by omega) A c w h
  have HOF : Hid (∀ b A c w l, l.length = k + m → GfAt w b → Bs w A c l → Calls Try.prog 52 #[fp b, .int .i64 k, .int .i64 m, .slice A (k + m) c] w fun e w' => ∃ A' c', e = .returned (.tuple #[.slice A' m c', .int .i64 0]) ∧ Bs w' A' c' (synL k m l) ∧ Below w.heap.size w w') := fun b A c w l hl hg h => (syn_of b k m A c l hkm hl w hg h).mono fun e w' ⟨A', c', he, h1, h2⟩ => ⟨A', c', he, own_sl h1, h2⟩
  have HO1 := Lib.hid (fun b A c w => HOF.out b A c w (tab (k + m) fun i => at2 (enc k m (colW (lo.take k))) i 0) (length_tab _ _))
  have HN1 : Hid (∀ A c w, Bs w A c (synL k m (tab (k + m) fun i => at2 (enc k m (colW (lo.take k))) i 0)) → Calls Try.prog 83 #[.slice A m c] w fun e w' => e = .returned (.bool true) ∧ Below w.heap.size w w') := fun A c w h => nought_out _ m true (length_tab _ _) ⟨fun _ => code_nought (by omega) ht hk1, fun _ => rfl⟩ A c w h
  by_cases hlm : lo.length = k + m
  rotate_left
  · have dm0 : ((lo.length : Int) == (k : Int) + (m : Int)) = false := by rw [beq_eq_false_iff_ne]; omega
    have dm1 : ((lo.length : Int) != (k : Int) + (m : Int)) = true := by rw [bne_iff_ne]; omega
    clear hlm
    clear hkm h30 hlk g1 g2 g3 ht qC qX hXl HOF
    generalize synL k m (tab (k + m) fun i => at2 (enc k m (colW (lo.take k))) i 0) = S1 at *
    generalize (tab (k + m) fun i => at2 (enc k m (colW (lo.take k))) i 0) = V1 at *
    generalize enc k m (colW (lo.take k)) = X at *
    generalize colW (lo.take k) = C at *
    have K := Lib.hid (Lk.start w)
    replace K := Lib.hid (K.out.bs' ho)
    clear ho
    go_enter Try.func29, Try.ntmps29
    go_wp2_with (first
      | (go_at_call 48; (with_reducible refine (awake8 _).mono ?_); rintro e w1 ⟨rfl, hbel⟩; (first | replace K := Lib.hid (K.out.below hbel) | replace K := Lib.hid ((K.out.alloc _).below hbel) | replace K := Lib.hid (((K.out.alloc _).alloc _).below hbel) | replace K := Lib.hid ((((K.out.alloc _).alloc _).alloc _).below hbel) | replace K := Lib.hid (((((K.out.alloc _).alloc _).alloc _).alloc _).below hbel) | replace K := Lib.hid (K.out.drew.below hbel) | replace K := Lib.hid ((K.out.drewN _).below hbel)); clear hbel)
      | (go_at_call 37; (with_reducible refine (new_any _).mono ?_); rintro e w2 ⟨rfl, hbel, hg⟩; (first | replace K := Lib.hid (K.out.below hbel) | replace K := Lib.hid ((K.out.alloc _).below hbel) | replace K := Lib.hid (((K.out.alloc _).alloc _).below hbel) | replace K := Lib.hid ((((K.out.alloc _).alloc _).alloc _).below hbel) | replace K := Lib.hid (((((K.out.alloc _).alloc _).alloc _).alloc _).below hbel) | replace K := Lib.hid (K.out.drew.below hbel) | replace K := Lib.hid ((K.out.drewN _).below hbel)); clear hbel; replace K := Lib.hid (K.out.withF hg); clear hg)
      | (go_at_call 49; (with_reducible refine (FW.out _).mono ?_); rintro e wx ⟨rfl, rfl⟩)
      | (go_at_call 38; (with_reducible refine (CK.out _).mono ?_); rintro e wx ⟨rfl, rfl⟩)
      | (go_at_call 81; (with_reducible refine (HC1.out _ _ _ ?_).mono ?_); (first | (have h := (K.out.sat (.head _)).take k; rw [← List.map_take] at h; exact h) | (have h := ((K.out.alloc _).sat (.head _)).take k; rw [← List.map_take] at h; exact h) | (have h := (((K.out.alloc _).alloc _).sat (.head _)).take k; rw [← List.map_take] at h; exact h) | (have h := ((((K.out.alloc _).alloc _).alloc _).sat (.head _)).take k; rw [← List.map_take] at h; exact h) | (have h := (((((K.out.alloc _).alloc _).alloc _).alloc _).sat (.head _)).take k; rw [← List.map_take] at h; exact h) | (have h := (K.out.drew.sat (.head _)).take k; rw [← List.map_take] at h; exact h) | (have h := ((K.out.drewN _).sat (.head _)).take k; rw [← List.map_take] at h; exact h)); rintro e w3 ⟨Ac, cc, rfl, hr, hbel⟩; (first | replace K := Lib.hid (K.out.below hbel) | replace K := Lib.hid ((K.out.alloc _).below hbel) | replace K := Lib.hid (((K.out.alloc _).alloc _).below hbel) | replace K := Lib.hid ((((K.out.alloc _).alloc _).alloc _).below hbel) | replace K := Lib.hid (((((K.out.alloc _).alloc _).alloc _).alloc _).below hbel) | replace K := Lib.hid (K.out.drew.below hbel) | replace K := Lib.hid ((K.out.drewN _).below hbel)); replace K := Lib.hid (K.out.rr' hr); clear hr; clear hbel)
      | (go_at_call 71; (with_reducible refine (HE1.out _ _ _ _ ?_ ?_).mono ?_); (first | exact K.out.gf | exact (K.out.alloc _).gf | exact K.out.drew.gf | exact ((K.out.alloc _).alloc _).gf | exact (((K.out.alloc _).alloc _).alloc _).gf | exact (((((K.out.alloc _).alloc _).alloc _).alloc _)).gf); (first | exact K.out.at (.head _) | exact (K.out.alloc _).at (.head _) | exact ((K.out.alloc _).alloc _).at (.head _) | exact (((K.out.alloc _).alloc _).alloc _).at (.head _) | exact ((((K.out.alloc _).alloc _).alloc _).alloc _).at (.head _) | exact K.out.drew.at (.head _) | exact (K.out.drewN _).at (.head _)); rintro e w4 ⟨Ax, cx, rfl, hr, hbel⟩; (first | replace K := Lib.hid (K.out.below hbel) | replace K := Lib.hid ((K.out.alloc _).below hbel) | replace K := Lib.hid (((K.out.alloc _).alloc _).below hbel) | replace K := Lib.hid ((((K.out.alloc _).alloc _).alloc _).below hbel) | replace K := Lib.hid (((((K.out.alloc _).alloc _).alloc _).alloc _).below hbel) | replace K := Lib.hid (K.out.drew.below hbel) | replace K := Lib.hid ((K.out.drewN _).below hbel)); replace K := Lib.hid (K.out.rr' hr); clear hr; clear hbel)
      | (go_at_call 82; (with_reducible refine (HLI.out _ _ _ ?_).mono ?_); (first | exact K.out.at (.head _) | exact (K.out.alloc _).at (.head _) | exact ((K.out.alloc _).alloc _).at (.head _) | exact (((K.out.alloc _).alloc _).alloc _).at (.head _) | exact ((((K.out.alloc _).alloc _).alloc _).alloc _).at (.head _) | exact K.out.drew.at (.head _) | exact (K.out.drewN _).at (.head _)); rintro e w5 ⟨Al, cl, rfl, hs, hbel⟩; (first | replace K := Lib.hid (K.out.below hbel) | replace K := Lib.hid ((K.out.alloc _).below hbel) | replace K := Lib.hid (((K.out.alloc _).alloc _).below hbel) | replace K := Lib.hid ((((K.out.alloc _).alloc _).alloc _).below hbel) | replace K := Lib.hid (((((K.out.alloc _).alloc _).alloc _).alloc _).below hbel) | replace K := Lib.hid (K.out.drew.below hbel) | replace K := Lib.hid ((K.out.drewN _).below hbel)); replace K := Lib.hid (K.out.bs' hs); clear hs; clear hbel)
      | (go_at_call 52; (with_reducible refine (HO1.out _ _ _ _ ?_ ?_).mono ?_); (first | exact K.out.gf | exact (K.out.alloc _).gf | exact K.out.drew.gf | exact ((K.out.alloc _).alloc _).gf | exact (((K.out.alloc _).alloc _).alloc _).gf | exact (((((K.out.alloc _).alloc _).alloc _).alloc _)).gf); (first | exact K.out.sat (.head _) | exact (K.out.alloc _).sat (.head _) | exact ((K.out.alloc _).alloc _).sat (.head _) | exact (((K.out.alloc _).alloc _).alloc _).sat (.head _) | exact ((((K.out.alloc _).alloc _).alloc _).alloc _).sat (.head _) | exact K.out.drew.sat (.head _) | exact (K.out.drewN _).sat (.head _)); rintro e w6 ⟨As, cs, rfl, hs, hbel⟩; (first | replace K := Lib.hid (K.out.below hbel) | replace K := Lib.hid ((K.out.alloc _).below hbel) | replace K := Lib.hid (((K.out.alloc _).alloc _).below hbel) | replace K := Lib.hid ((((K.out.alloc _).alloc _).alloc _).below hbel) | replace K := Lib.hid (((((K.out.alloc _).alloc _).alloc _).alloc _).below hbel) | replace K := Lib.hid (K.out.drew.below hbel) | replace K := Lib.hid ((K.out.drewN _).below hbel)); replace K := Lib.hid (K.out.bs' hs); clear hs; clear hbel)
      | (go_at_call 83; (with_reducible refine (HN1.out _ _ _ ?_).mono ?_); (first | exact K.out.sat (.head _) | exact (K.out.alloc _).sat (.head _) | exact ((K.out.alloc _).alloc _).sat (.head _) | exact (((K.out.alloc _).alloc _).alloc _).sat (.head _) | exact ((((K.out.alloc _).alloc _).alloc _).alloc _).sat (.head _) | exact K.out.drew.sat (.head _) | exact (K.out.drewN _).sat (.head _)); rintro e w7 ⟨rfl, hbel⟩; (first | replace K := Lib.hid (K.out.below hbel) | replace K := Lib.hid ((K.out.alloc _).below hbel) | replace K := Lib.hid (((K.out.alloc _).alloc _).below hbel) | replace K := Lib.hid ((((K.out.alloc _).alloc _).alloc _).below hbel) | replace K := Lib.hid (((((K.out.alloc _).alloc _).alloc _).alloc _).below hbel) | replace K := Lib.hid (K.out.drew.below hbel) | replace K := Lib.hid ((K.out.drewN _).below hbel)); clear hbel))
    go_ret
    exact ⟨rfl, K.out.since⟩
  have dm0 : ((lo.length : Int) == (k : Int) + (m : Int)) = true := by rw [beq_iff_eq]; omega
  have dm1 : ((lo.length : Int) != (k : Int) + (m : Int)) = false := by rw [bne_eq_false_iff_eq]; omega
  have qW := eql_colW hlm
  have hci := code_iff (k := k) (m := m) (l := lo) (by omega) hlm hk1
  have HC2 : Hid (∀ A c w, Bs w A c lo → Calls Try.prog 81 #[.slice A lo.length c] w fun e w' => ∃ A' c', e = .returned (.slice A' lo.length c') ∧ Rr w' A' c' (colW lo) ∧ Below w.heap.size w w') := fun A c w h => column_out _ _ rfl (by omega) A c w h
  obtain ⟨r, hr⟩ : ∃ r : Bool, r = decide (enc k m ((colW lo).take k) = colW lo) := ⟨_, rfl⟩
  have hr1 : r = true ↔ enc k m ((colW lo).take k) = colW lo := by rw [hr]; simp
  have HF2 : Hid (∀ b A c w, GfAt w b → Rr w A c (colW lo) → Calls Try.prog 73 #[fp b, .int .i64 k, .int .i64 m, .slice A lo.length c] w (BoR w r 0)) := fun b A c w hg h => by
    have := fit_yes hkm qW.alk (qW.le (by omega)) hr1 b A c w hg h
    rw [length_colW] at this
    exact this
  have HO2 : Hid (∀ b A c w, GfAt w b → Bs w A c lo → Calls Try.prog 52 #[fp b, .int .i64 k, .int .i64 m, .slice A lo.length c] w fun e w' => ∃ A' c', e = .returned (.tuple #[.slice A' m c', .int .i64 0]) ∧ Bs w' A' c' (synL k m lo) ∧ Below w.heap.size w w') := fun b A c w hg h => by have := HOF.out b A c w lo hlm hg h; rw [hlm]; exact this
  have HN2 : Hid (∀ A c w, Bs w A c (synL k m lo) → Calls Try.prog 83 #[.slice A m c] w fun e w' => e = .returned (.bool r) ∧ Below w.heap.size w w') := fun A c w h => nought_out _ m r (length_tab _ _) (hr1.trans hci) A c w h
  have drr : (r == r) = true := by rw [beq_iff_eq]
  clear hr hr1 hci qW hlm
  clear hkm h30 hlk g1 g2 g3 ht qC qX hXl HOF
  generalize synL k m (tab (k + m) fun i => at2 (enc k m (colW (lo.take k))) i 0) = S1 at *
  generalize (tab (k + m) fun i => at2 (enc k m (colW (lo.take k))) i 0) = V1 at *
  generalize enc k m (colW (lo.take k)) = X at *
  generalize colW (lo.take k) = C at *
  generalize synL k m lo = S2 at *
  generalize colW lo = C2 at *
  have K := Lib.hid (Lk.start w)
  replace K := Lib.hid (K.out.bs' ho)
  clear ho
  go_enter Try.func29, Try.ntmps29
  go_wp2_with (first
    | (go_at_call 48; (with_reducible refine (awake8 _).mono ?_); rintro e w1 ⟨rfl, hbel⟩; (first | replace K := Lib.hid (K.out.below hbel) | replace K := Lib.hid ((K.out.alloc _).below hbel) | replace K := Lib.hid (((K.out.alloc _).alloc _).below hbel) | replace K := Lib.hid ((((K.out.alloc _).alloc _).alloc _).below hbel) | replace K := Lib.hid (((((K.out.alloc _).alloc _).alloc _).alloc _).below hbel) | replace K := Lib.hid (K.out.drew.below hbel) | replace K := Lib.hid ((K.out.drewN _).below hbel)); clear hbel)
    | (go_at_call 37; (with_reducible refine (new_any _).mono ?_); rintro e w2 ⟨rfl, hbel, hg⟩; (first | replace K := Lib.hid (K.out.below hbel) | replace K := Lib.hid ((K.out.alloc _).below hbel) | replace K := Lib.hid (((K.out.alloc _).alloc _).below hbel) | replace K := Lib.hid ((((K.out.alloc _).alloc _).alloc _).below hbel) | replace K := Lib.hid (((((K.out.alloc _).alloc _).alloc _).alloc _).below hbel) | replace K := Lib.hid (K.out.drew.below hbel) | replace K := Lib.hid ((K.out.drewN _).below hbel)); clear hbel; replace K := Lib.hid (K.out.withF hg); clear hg)
    | (go_at_call 49; (with_reducible refine (FW.out _).mono ?_); rintro e wx ⟨rfl, rfl⟩)
    | (go_at_call 38; (with_reducible refine (CK.out _).mono ?_); rintro e wx ⟨rfl, rfl⟩)
    | (go_at_call 81; (with_reducible refine (HC1.out _ _ _ ?_).mono ?_); (first | (have h := (K.out.sat (.head _)).take k; rw [← List.map_take] at h; exact h) | (have h := ((K.out.alloc _).sat (.head _)).take k; rw [← List.map_take] at h; exact h) | (have h := (((K.out.alloc _).alloc _).sat (.head _)).take k; rw [← List.map_take] at h; exact h) | (have h := ((((K.out.alloc _).alloc _).alloc _).sat (.head _)).take k; rw [← List.map_take] at h; exact h) | (have h := (((((K.out.alloc _).alloc _).alloc _).alloc _).sat (.head _)).take k; rw [← List.map_take] at h; exact h) | (have h := (K.out.drew.sat (.head _)).take k; rw [← List.map_take] at h; exact h) | (have h := ((K.out.drewN _).sat (.head _)).take k; rw [← List.map_take] at h; exact h)); rintro e w3 ⟨Ac, cc, rfl, hr, hbel⟩; (first | replace K := Lib.hid (K.out.below hbel) | replace K := Lib.hid ((K.out.alloc _).below hbel) | replace K := Lib.hid (((K.out.alloc _).alloc _).below hbel) | replace K := Lib.hid ((((K.out.alloc _).alloc _).alloc _).below hbel) | replace K := Lib.hid (((((K.out.alloc _).alloc _).alloc _).alloc _).below hbel) | replace K := Lib.hid (K.out.drew.below hbel) | replace K := Lib.hid ((K.out.drewN _).below hbel)); replace K := Lib.hid (K.out.rr' hr); clear hr; clear hbel)
    | (go_at_call 71; (with_reducible refine (HE1.out _ _ _ _ ?_ ?_).mono ?_); (first | exact K.out.gf | exact (K.out.alloc _).gf | exact K.out.drew.gf | exact ((K.out.alloc _).alloc _).gf | exact (((K.out.alloc _).alloc _).alloc _).gf | exact (((((K.out.alloc _).alloc _).alloc _).alloc _)).gf); (first | exact K.out.at (.head _) | exact (K.out.alloc _).at (.head _) | exact ((K.out.alloc _).alloc _).at (.head _) | exact (((K.out.alloc _).alloc _).alloc _).at (.head _) | exact ((((K.out.alloc _).alloc _).alloc _).alloc _).at (.head _) | exact K.out.drew.at (.head _) | exact (K.out.drewN _).at (.head _)); rintro e w4 ⟨Ax, cx, rfl, hr, hbel⟩; (first | replace K := Lib.hid (K.out.below hbel) | replace K := Lib.hid ((K.out.alloc _).below hbel) | replace K := Lib.hid (((K.out.alloc _).alloc _).below hbel) | replace K := Lib.hid ((((K.out.alloc _).alloc _).alloc _).below hbel) | replace K := Lib.hid (((((K.out.alloc _).alloc _).alloc _).alloc _).below hbel) | replace K := Lib.hid (K.out.drew.below hbel) | replace K := Lib.hid ((K.out.drewN _).below hbel)); replace K := Lib.hid (K.out.rr' hr); clear hr; clear hbel)
    | (go_at_call 82; (with_reducible refine (HLI.out _ _ _ ?_).mono ?_); (first | exact K.out.at (.head _) | exact (K.out.alloc _).at (.head _) | exact ((K.out.alloc _).alloc _).at (.head _) | exact (((K.out.alloc _).alloc _).alloc _).at (.head _) | exact ((((K.out.alloc _).alloc _).alloc _).alloc _).at (.head _) | exact K.out.drew.at (.head _) | exact (K.out.drewN _).at (.head _)); rintro e w5 ⟨Al, cl, rfl, hs, hbel⟩; (first | replace K := Lib.hid (K.out.below hbel) | replace K := Lib.hid ((K.out.alloc _).below hbel) | replace K := Lib.hid (((K.out.alloc _).alloc _).below hbel) | replace K := Lib.hid ((((K.out.alloc _).alloc _).alloc _).below hbel) | replace K := Lib.hid (((((K.out.alloc _).alloc _).alloc _).alloc _).below hbel) | replace K := Lib.hid (K.out.drew.below hbel) | replace K := Lib.hid ((K.out.drewN _).below hbel)); replace K := Lib.hid (K.out.bs' hs); clear hs; clear hbel)
    | (go_at_call 52; (with_reducible refine (HO1.out _ _ _ _ ?_ ?_).mono ?_); (first | exact K.out.gf | exact (K.out.alloc _).gf | exact K.out.drew.gf | exact ((K.out.alloc _).alloc _).gf | exact (((K.out.alloc _).alloc _).alloc _).gf | exact (((((K.out.alloc _).alloc _).alloc _).alloc _)).gf); (first | exact K.out.sat (.head _) | exact (K.out.alloc _).sat (.head _) | exact ((K.out.alloc _).alloc _).sat (.head _) | exact (((K.out.alloc _).alloc _).alloc _).sat (.head _) | exact ((((K.out.alloc _).alloc _).alloc _).alloc _).sat (.head _) | exact K.out.drew.sat (.head _) | exact (K.out.drewN _).sat (.head _)); rintro e w6 ⟨As, cs, rfl, hs, hbel⟩; (first | replace K := Lib.hid (K.out.below hbel) | replace K := Lib.hid ((K.out.alloc _).below hbel) | replace K := Lib.hid (((K.out.alloc _).alloc _).below hbel) | replace K := Lib.hid ((((K.out.alloc _).alloc _).alloc _).below hbel) | replace K := Lib.hid (((((K.out.alloc _).alloc _).alloc _).alloc _).below hbel) | replace K := Lib.hid (K.out.drew.below hbel) | replace K := Lib.hid ((K.out.drewN _).below hbel)); replace K := Lib.hid (K.out.bs' hs); clear hs; clear hbel)
    | (go_at_call 83; (with_reducible refine (HN1.out _ _ _ ?_).mono ?_); (first | exact K.out.sat (.head _) | exact (K.out.alloc _).sat (.head _) | exact ((K.out.alloc _).alloc _).sat (.head _) | exact (((K.out.alloc _).alloc _).alloc _).sat (.head _) | exact ((((K.out.alloc _).alloc _).alloc _).alloc _).sat (.head _) | exact K.out.drew.sat (.head _) | exact (K.out.drewN _).sat (.head _)); rintro e w7 ⟨rfl, hbel⟩; (first | replace K := Lib.hid (K.out.below hbel) | replace K := Lib.hid ((K.out.alloc _).below hbel) | replace K := Lib.hid (((K.out.alloc _).alloc _).below hbel) | replace K := Lib.hid ((((K.out.alloc _).alloc _).alloc _).below hbel) | replace K := Lib.hid (((((K.out.alloc _).alloc _).alloc _).alloc _).below hbel) | replace K := Lib.hid (K.out.drew.below hbel) | replace K := Lib.hid ((K.out.drewN _).below hbel)); clear hbel)
    | (go_at_call 81; (with_reducible refine (HC2.out _ _ _ ?_).mono ?_); (first | exact K.out.sat (.tail _ (.tail _ (.head _))) | exact (K.out.alloc _).sat (.tail _ (.tail _ (.head _))) | exact ((K.out.alloc _).alloc _).sat (.tail _ (.tail _ (.head _))) | exact (((K.out.alloc _).alloc _).alloc _).sat (.tail _ (.tail _ (.head _))) | exact ((((K.out.alloc _).alloc _).alloc _).alloc _).sat (.tail _ (.tail _ (.head _))) | exact K.out.drew.sat (.tail _ (.tail _ (.head _))) | exact (K.out.drewN _).sat (.tail _ (.tail _ (.head _)))); rintro e w8 ⟨Ad, cd, rfl, hr, hbel⟩; (first | replace K := Lib.hid (K.out.below hbel) | replace K := Lib.hid ((K.out.alloc _).below hbel) | replace K := Lib.hid (((K.out.alloc _).alloc _).below hbel) | replace K := Lib.hid ((((K.out.alloc _).alloc _).alloc _).below hbel) | replace K := Lib.hid (((((K.out.alloc _).alloc _).alloc _).alloc _).below hbel) | replace K := Lib.hid (K.out.drew.below hbel) | replace K := Lib.hid ((K.out.drewN _).below hbel)); replace K := Lib.hid (K.out.rr' hr); clear hr; clear hbel)
    | (go_at_call 73; (with_reducible refine (HF2.out _ _ _ _ ?_ ?_).mono ?_); (first | exact K.out.gf | exact (K.out.alloc _).gf | exact K.out.drew.gf | exact ((K.out.alloc _).alloc _).gf | exact (((K.out.alloc _).alloc _).alloc _).gf | exact (((((K.out.alloc _).alloc _).alloc _).alloc _)).gf); (first | exact K.out.at (.head _) | exact (K.out.alloc _).at (.head _) | exact ((K.out.alloc _).alloc _).at (.head _) | exact (((K.out.alloc _).alloc _).alloc _).at (.head _) | exact ((((K.out.alloc _).alloc _).alloc _).alloc _).at (.head _) | exact K.out.drew.at (.head _) | exact (K.out.drewN _).at (.head _)); rintro e w9 ⟨rfl, hbel⟩; (first | replace K := Lib.hid (K.out.below hbel) | replace K := Lib.hid ((K.out.alloc _).below hbel) | replace K := Lib.hid (((K.out.alloc _).alloc _).below hbel) | replace K := Lib.hid ((((K.out.alloc _).alloc _).alloc _).below hbel) | replace K := Lib.hid (((((K.out.alloc _).alloc _).alloc _).alloc _).below hbel) | replace K := Lib.hid (K.out.drew.below hbel) | replace K := Lib.hid ((K.out.drewN _).below hbel)); clear hbel)
    | (go_at_call 52; (with_reducible refine (HO2.out _ _ _ _ ?_ ?_).mono ?_); (first | exact K.out.gf | exact (K.out.alloc _).gf | exact K.out.drew.gf | exact ((K.out.alloc _).alloc _).gf | exact (((K.out.alloc _).alloc _).alloc _).gf | exact (((((K.out.alloc _).alloc _).alloc _).alloc _)).gf); (first | exact K.out.sat (.tail _ (.tail _ (.head _))) | exact (K.out.alloc _).sat (.tail _ (.tail _ (.head _))) | exact ((K.out.alloc _).alloc _).sat (.tail _ (.tail _ (.head _))) | exact (((K.out.alloc _).alloc _).alloc _).sat (.tail _ (.tail _ (.head _))) | exact ((((K.out.alloc _).alloc _).alloc _).alloc _).sat (.tail _ (.tail _ (.head _))) | exact K.out.drew.sat (.tail _ (.tail _ (.head _))) | exact (K.out.drewN _).sat (.tail _ (.tail _ (.head _)))); rintro e w10 ⟨At, ct, rfl, hs, hbel⟩; (first | replace K := Lib.hid (K.out.below hbel) | replace K := Lib.hid ((K.out.alloc _).below hbel) | replace K := Lib.hid (((K.out.alloc _).alloc _).below hbel) | replace K := Lib.hid ((((K.out.alloc _).alloc _).alloc _).below hbel) | replace K := Lib.hid (((((K.out.alloc _).alloc _).alloc _).alloc _).below hbel) | replace K := Lib.hid (K.out.drew.below hbel) | replace K := Lib.hid ((K.out.drewN _).below hbel)); replace K := Lib.hid (K.out.bs' hs); clear hs; clear hbel)
    | (go_at_call 83; (with_reducible refine (HN2.out _ _ _ ?_).mono ?_); (first | exact K.out.sat (.head _) | exact (K.out.alloc _).sat (.head _) | exact ((K.out.alloc _).alloc _).sat (.head _) | exact (((K.out.alloc _).alloc _).alloc _).sat (.head _) | exact ((((K.out.alloc _).alloc _).alloc _).alloc _).sat (.head _) | exact K.out.drew.sat (.head _) | exact (K.out.drewN _).sat (.head _)); rintro e w11 ⟨rfl, hbel⟩; (first | replace K := Lib.hid (K.out.below hbel) | replace K := Lib.hid ((K.out.alloc _).below hbel) | replace K := Lib.hid (((K.out.alloc _).alloc _).below hbel) | replace K := Lib.hid ((((K.out.alloc _).alloc _).alloc _).below hbel) | replace K := Lib.hid (((((K.out.alloc _).alloc _).alloc _).alloc _).below hbel) | replace K := Lib.hid (K.out.drew.below hbel) | replace K := Lib.hid ((K.out.drewN _).below hbel)); clear hbel))
  go_ret
  exact ⟨rfl, K.out.since⟩
end Go.Proofs.Ytmkjplpnoohfnaa
