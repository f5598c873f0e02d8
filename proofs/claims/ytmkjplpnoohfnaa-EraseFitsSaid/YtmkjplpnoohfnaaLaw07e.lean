/- EraseFits, walked. -/
import Derived.Test.YtmkjplpnoohfnaaLaw07d
namespace Go.Proofs.Ytmkjplpnoohfnaa
open Go.RowKit
set_option linter.unusedVariables false
set_option linter.unusedSimpArgs false
theorem DecCase.ok {k m : Int} {has : List Bool} {ls X : List (List F)} (h : DecCase k m has ls X 0) : ∃ k' m' : Nat, k = k' ∧ m = m' ∧ okkm k' m' ∧ has.length = k' + m' ∧ ls.length = k' + m' ∧ k' ≤ (idx has has.length).length ∧ Dec k' m' has ls X := by
  rcases h with ⟨_, h, _⟩ | ⟨_, _, h, _⟩ | ⟨_, _, _, h, _⟩ | ⟨_, _, _, _, h, _⟩ | ⟨a, b, _, d, _, hd⟩
  · omega
  · omega
  · omega
  · omega
  · obtain ⟨k', m', rfl, rfl⟩ := okkm_nat a
    exact ⟨k', m', rfl, rfl, a, by omega, by omega, by omega, hd⟩
theorem DecCase.no {k m : Int} {has : List Bool} {ls X : List (List F)} {E : Int} (h : DecCase k m has ls X E) (hE : E ≠ 0) : X = [] := by
  rcases h with ⟨_, _, h⟩ | ⟨_, _, _, h⟩ | ⟨_, _, _, _, h⟩ | ⟨_, _, _, _, _, h⟩ | ⟨_, _, _, _, h, _⟩
  · exact h
  · exact h
  · exact h
  · exact h
  · exact absurd h hE
theorem mem_fst {k i : Nat} {has : List Bool} (h : has.getD i false = true) (hi : i < has.length) (hc : (idx has i).length < k) : i ∈ fst k has := by
  obtain ⟨r, hr⟩ := idx_prefix has (i + 1) (has.length - (i + 1))
  rw [show i + 1 + (has.length - (i + 1)) = has.length by omega, idx_succ, if_pos h] at hr
  unfold fst
  have e : ((idx has has.length).take k)[(idx has i).length]? = some i := by
    rw [List.getElem?_take_of_lt hc, hr, List.append_assoc, List.getElem?_append_right (Nat.le_refl _), Nat.sub_self]; rfl
  exact List.mem_of_getElem? e
theorem Dec.row {k m i : Nat} {has : List Bool} {ls X : List (List F)} (h : Dec k m has ls X) (h1 : 1 ≤ k) (hn : has.length = k + m) (hi : i ∈ fst k has) : X.getD i [] = ls.getD i [] := by
  obtain ⟨D, L, q1, rfl, q3, q4, q5⟩ := h
  have hik : i < k + m := by have := fst_lt hi; omega
  obtain ⟨t, ht, e⟩ := List.mem_iff_getElem.1 hi
  have htk : t < k := by
    have : (fst k has).length ≤ k := by unfold fst; rw [List.length_take]; omega
    omega
  have e' : (fst k has).getD t 0 = i := by rw [List.getD_eq_getElem?_getD, List.getElem?_eq_getElem ht]; exact e
  have l1 : ((enc k m D).getD i []).length = L := (q1.enc h1 m).row i hik
  have l2 : (ls.getD i []).length = L := by have := q4 t htk; rw [e'] at this; exact this
  have hx : ∀ x, x < L → ((enc k m D).getD i []).getD x 0 = (ls.getD i []).getD x 0 := fun x hx => by have := q5 t htk x hx; rw [e'] at this; exact this
  generalize (enc k m D).getD i [] = r at *
  generalize ls.getD i [] = s at *
  refine List.ext_getElem (by omega) fun x h1 h2 => ?_
  have := hx x (by omega)
  rw [List.getD_eq_getElem?_getD, List.getElem?_eq_getElem h1, List.getD_eq_getElem?_getD, List.getElem?_eq_getElem h2] at this
  exact this
theorem Rr.one' {w : World} {A : Option Addr} {c : Nat} {ls : List (List F)} (h : Rr w A c ls) {i : Nat} (hi : i < ls.length) : Rr w (rowA A c i) (c - i) [ls.getD i []] := by
  have h1 := (h.drop (k := i) (by omega)).take 1
  have e2 : (ls.drop i).take 1 = [ls.getD i []] := by
    rw [List.drop_eq_getElem_cons hi, List.getD_eq_getElem?_getD, List.getElem?_eq_getElem hi]; rfl
  rwa [e2] at h1
/-- the flags that the law lays: all but one, or all -/
def allP (which : Int) (m : Nat) (a : Nat) : Bool := decide (¬ (a : Int) = which) || decide (m = 0)
def allT (N : Nat) (p : Nat → Bool) (i : Nat) : List Bool := (List.range N).map fun a => decide (a < i) && p a
theorem length_allT (N : Nat) (p : Nat → Bool) (i : Nat) : (allT N p i).length = N := by unfold allT; simp
theorem allT_zero (N : Nat) (p : Nat → Bool) : List.replicate N (Value.bool false) = (allT N p 0).map Value.bool := by
  refine List.ext_getElem (by simp [length_allT]) fun a h1 h2 => ?_
  simp [allT]
theorem allT_put {N i : Nat} {p : Nat → Bool} {q : Bool} (hq : p i = q) : ((allT N p i).map Value.bool).set i (.bool q) = (allT N p (i + 1)).map Value.bool := by
  refine List.ext_getElem (by simp [length_allT]) fun a h1 h2 => ?_
  rw [List.getElem_set]
  by_cases e : i = a
  · subst e; simp [allT, hq]
  · rw [if_neg e]
    have : decide (a < i) = decide (a < i + 1) := by rw [decide_eq_decide]; omega
    simp [allT, this]
theorem allT_at {N a : Nat} {p : Nat → Bool} (h : a < N) : (allT N p N).getD a false = p a := by
  rw [List.getD_eq_getElem?_getD, List.getElem?_eq_getElem (by rw [length_allT]; exact h)]
  simp [allT, h]
theorem all_count {k m : Nat} {which : Int} (n : Nat) (hn : n ≤ k + m) : n ≤ (idx (allT (k + m) (allP which m) (k + m)) n).length + (if m = 0 then 0 else if which < (n : Int) then 1 else 0) := by
  induction n with
  | zero => omega
  | succ n ih =>
    have ih := ih (by omega)
    rw [idx_succ, allT_at (by omega)]
    by_cases hm : m = 0
    · rw [if_pos hm] at ih ⊢
      rw [if_pos (by unfold allP; simp [hm])]
      simp; omega
    · rw [if_neg hm] at ih ⊢
      by_cases e : (n : Int) = which
      · rw [if_neg (by omega)] at ih
        have h2 : allP which m n = false := by unfold allP; simp [e, hm]
        rw [h2, if_neg (show ¬ (false = true) from fun h => by cases h), if_pos (show which < ((n + 1 : Nat) : Int) by omega)]
        simp; omega
      · have : allP which m n = true := by unfold allP; simp [e]
        rw [if_pos this]
        have h3 : (if which < (n : Int) then 1 else 0 : Nat) ≤ (if which < ((n + 1 : Nat) : Int) then 1 else 0 : Nat) := by
          split
          · rw [if_pos (by omega)]
            exact Nat.le_refl _
          · exact Nat.zero_le _
        simp only [List.length_append, List.length_cons, List.length_nil]
        omega
/-- a stripe is decoded from itself -/
theorem self_case {k m : Nat} {has : List Bool} {ls X Y : List (List F)} {E : Int} {which : Int} (hkm : okkm k m) (hd : Dec k m has ls X) (h : DecCase k m (allT (k + m) (allP which m) (k + m)) X Y E) : E = 0 ∧ Y = X := by
  obtain ⟨g1, g2, g3⟩ := id hkm
  obtain ⟨D, L, q1, rfl, q3, q4, q5⟩ := hd
  have hX := q1.enc (show 1 ≤ k by omega) m
  have hal := length_allT (k + m) (allP which m) (k + m)
  have hc : k ≤ (idx (allT (k + m) (allP which m) (k + m)) (allT (k + m) (allP which m) (k + m)).length).length := by
    rw [hal]
    have := all_count (k := k) (m := m) (which := which) (k + m) (Nat.le_refl _)
    split at this
    · omega
    · split at this <;> omega
  rcases h with ⟨q, _⟩ | ⟨_, q, _⟩ | ⟨_, _, q, _⟩ | ⟨_, _, _, q, rfl, rfl⟩ | ⟨_, _, _, q, rfl, hd⟩
  · exact absurd hkm q
  · exact absurd ⟨by omega, by rw [hX.len]; omega⟩ q
  · exact absurd (fun i j hi hj => by rw [hX.row i (by have := idx_lt hi; omega), hX.row j (by have := idx_lt hj; omega)]) q
  · omega
  · simp only [Int.toNat_natCast] at hd
    have hm0 : ∀ i, i < k → (fst k (allT (k + m) (allP which m) (k + m))).getD i 0 ∈ fst k (allT (k + m) (allP which m) (k + m)) := fun i hi => getD_mem (by rw [fst_len hc]; exact hi)
    exact ⟨rfl, Dec.eq hd (by omega) (by omega) hal hc q1 (fun i hi => hX.row _ (by have := fst_lt (hm0 i hi); omega)) fun i hi x hx => rfl⟩
set_option maxRecDepth 1000000 in
set_option maxHeartbeats 4000000 in
theorem walk_EraseFits {w : World} (k : Int) (hk : -9223372036854775808 ≤ k ∧ k ≤ 9223372036854775807) (m : Int) (hm : -9223372036854775808 ≤ m ∧ m ≤ 9223372036854775807) (Al : Option Addr) (cl : Nat) (has : List Bool) (hh : Sl w Al cl (has.map Value.bool)) (Aa : Option Addr) (ca : Nat) (la : List (List F)) (ha : Rr w Aa ca la) (which : Int) (hwhich : -9223372036854775808 ≤ which ∧ which ≤ 9223372036854775807) :
    Calls Try.prog 35 #[.int .i64 k, .int .i64 m, .slice Al has.length cl, .slice Aa la.length ca, .int .i64 which] w fun e w' => e = .returned (.bool true) ∧ Below w.heap.size w w' := by
  have HH := Lib.hid hh
  clear hh
  by_cases hfa : FewP k m la
  rotate_left
  · have FA : Hid (∀ A c w, Rr w A c la → Calls Try.prog 70 #[.int .i64 k, .int .i64 m, .slice A la.length c] w fun e w' => e = .returned (.bool false) ∧ Below w.heap.size w w') := fun A c w h => few_any k m A c la false w hk hm h (by simp [hfa])
    have K := Lib.hid (Lk.start w)
    replace K := Lib.hid (K.out.rr' ha)
    clear ha
    go_enter Try.func35, Try.ntmps35
    go_wp2_with (first
      | (go_at_call 84; (with_reducible refine (awake7 _).mono ?_); rintro e w1 ⟨rfl, hbel⟩; (first | replace K := Lib.hid (K.out.below hbel) | replace K := Lib.hid ((K.out.alloc _).below hbel) | replace K := Lib.hid (((K.out.alloc _).alloc _).below hbel) | replace K := Lib.hid ((((K.out.alloc _).alloc _).alloc _).below hbel) | replace K := Lib.hid (((((K.out.alloc _).alloc _).alloc _).alloc _).below hbel) | replace K := Lib.hid (K.out.drew.below hbel) | replace K := Lib.hid ((K.out.drewN _).below hbel)); clear hbel)
      | (go_at_call 37; (with_reducible refine (new_any _).mono ?_); rintro e w2 ⟨rfl, hbel, hg⟩; (first | replace K := Lib.hid (K.out.below hbel) | replace K := Lib.hid ((K.out.alloc _).below hbel) | replace K := Lib.hid (((K.out.alloc _).alloc _).below hbel) | replace K := Lib.hid ((((K.out.alloc _).alloc _).alloc _).below hbel) | replace K := Lib.hid (((((K.out.alloc _).alloc _).alloc _).alloc _).below hbel) | replace K := Lib.hid (K.out.drew.below hbel) | replace K := Lib.hid ((K.out.drewN _).below hbel)); clear hbel; replace K := Lib.hid (K.out.withF hg); clear hg)
      | (go_at_call 70; (with_reducible refine (FA.out _ _ _ ?_).mono ?_); (first | exact K.out.at (.head _) | exact (K.out.alloc _).at (.head _) | exact ((K.out.alloc _).alloc _).at (.head _) | exact (((K.out.alloc _).alloc _).alloc _).at (.head _) | exact ((((K.out.alloc _).alloc _).alloc _).alloc _).at (.head _) | exact K.out.drew.at (.head _) | exact (K.out.drewN _).at (.head _)); rintro e w3 ⟨rfl, hbel⟩; (first | replace K := Lib.hid (K.out.below hbel) | replace K := Lib.hid ((K.out.alloc _).below hbel) | replace K := Lib.hid (((K.out.alloc _).alloc _).below hbel) | replace K := Lib.hid ((((K.out.alloc _).alloc _).alloc _).below hbel) | replace K := Lib.hid (((((K.out.alloc _).alloc _).alloc _).alloc _).below hbel) | replace K := Lib.hid (K.out.drew.below hbel) | replace K := Lib.hid ((K.out.drewN _).below hbel)); clear hbel))
    go_ret
    exact ⟨rfl, K.out.since⟩
  have FA : Hid (∀ A c w, Rr w A c la → Calls Try.prog 70 #[.int .i64 k, .int .i64 m, .slice A la.length c] w fun e w' => e = .returned (.bool true) ∧ Below w.heap.size w w') := fun A c w h => few_any k m A c la true w hk hm h (by simp [hfa])
  by_cases h20 : la.length ≤ 20
  rotate_left
  · have d20 : (20 : Int) < (la.length : Int) := by omega
    have K := Lib.hid (Lk.start w)
    replace K := Lib.hid (K.out.rr' ha)
    clear ha
    go_enter Try.func35, Try.ntmps35
    go_wp2_with (first
      | (go_at_call 84; (with_reducible refine (awake7 _).mono ?_); rintro e w1 ⟨rfl, hbel⟩; (first | replace K := Lib.hid (K.out.below hbel) | replace K := Lib.hid ((K.out.alloc _).below hbel) | replace K := Lib.hid (((K.out.alloc _).alloc _).below hbel) | replace K := Lib.hid ((((K.out.alloc _).alloc _).alloc _).below hbel) | replace K := Lib.hid (((((K.out.alloc _).alloc _).alloc _).alloc _).below hbel) | replace K := Lib.hid (K.out.drew.below hbel) | replace K := Lib.hid ((K.out.drewN _).below hbel)); clear hbel)
      | (go_at_call 37; (with_reducible refine (new_any _).mono ?_); rintro e w2 ⟨rfl, hbel, hg⟩; (first | replace K := Lib.hid (K.out.below hbel) | replace K := Lib.hid ((K.out.alloc _).below hbel) | replace K := Lib.hid (((K.out.alloc _).alloc _).below hbel) | replace K := Lib.hid ((((K.out.alloc _).alloc _).alloc _).below hbel) | replace K := Lib.hid (((((K.out.alloc _).alloc _).alloc _).alloc _).below hbel) | replace K := Lib.hid (K.out.drew.below hbel) | replace K := Lib.hid ((K.out.drewN _).below hbel)); clear hbel; replace K := Lib.hid (K.out.withF hg); clear hg)
      | (go_at_call 70; (with_reducible refine (FA.out _ _ _ ?_).mono ?_); (first | exact K.out.at (.head _) | exact (K.out.alloc _).at (.head _) | exact ((K.out.alloc _).alloc _).at (.head _) | exact (((K.out.alloc _).alloc _).alloc _).at (.head _) | exact ((((K.out.alloc _).alloc _).alloc _).alloc _).at (.head _) | exact K.out.drew.at (.head _) | exact (K.out.drewN _).at (.head _)); rintro e w3 ⟨rfl, hbel⟩; (first | replace K := Lib.hid (K.out.below hbel) | replace K := Lib.hid ((K.out.alloc _).below hbel) | replace K := Lib.hid (((K.out.alloc _).alloc _).below hbel) | replace K := Lib.hid ((((K.out.alloc _).alloc _).alloc _).below hbel) | replace K := Lib.hid (((((K.out.alloc _).alloc _).alloc _).alloc _).below hbel) | replace K := Lib.hid (K.out.drew.below hbel) | replace K := Lib.hid ((K.out.drewN _).below hbel)); clear hbel))
    go_ret
    exact ⟨rfl, K.out.since⟩
  have d20 : ¬ (20 : Int) < (la.length : Int) := by omega
  have hla := hfa.le
  have hl30 : ∀ i, i < la.length → lenAt la i ≤ 30 := hfa.2.1
  obtain ⟨X, E, hc1, h1⟩ := dec_out k m has la hk hm hla
  have HD1 := Lib.hid h1
  clear h1
  by_cases hE : E = 0
  rotate_left
  · have dE0 : (E == 0) = false := by rw [beq_eq_false_iff_ne]; exact hE
    have dE1 : (E != 0) = true := by rw [bne_iff_ne]; exact hE
    obtain rfl := hc1.no hE
    clear hE hc1 hla hl30
    have K := Lib.hid (Lk.start w)
    replace K := Lib.hid (K.out.rr' ha)
    clear ha
    go_enter Try.func35, Try.ntmps35
    go_wp2_with (first
      | (go_at_call 84; (with_reducible refine (awake7 _).mono ?_); rintro e w1 ⟨rfl, hbel⟩; (first | replace K := Lib.hid (K.out.below hbel) | replace K := Lib.hid ((K.out.alloc _).below hbel) | replace K := Lib.hid (((K.out.alloc _).alloc _).below hbel) | replace K := Lib.hid ((((K.out.alloc _).alloc _).alloc _).below hbel) | replace K := Lib.hid (((((K.out.alloc _).alloc _).alloc _).alloc _).below hbel) | replace K := Lib.hid (K.out.drew.below hbel) | replace K := Lib.hid ((K.out.drewN _).below hbel)); clear hbel)
      | (go_at_call 37; (with_reducible refine (new_any _).mono ?_); rintro e w2 ⟨rfl, hbel, hg⟩; (first | replace K := Lib.hid (K.out.below hbel) | replace K := Lib.hid ((K.out.alloc _).below hbel) | replace K := Lib.hid (((K.out.alloc _).alloc _).below hbel) | replace K := Lib.hid ((((K.out.alloc _).alloc _).alloc _).below hbel) | replace K := Lib.hid (((((K.out.alloc _).alloc _).alloc _).alloc _).below hbel) | replace K := Lib.hid (K.out.drew.below hbel) | replace K := Lib.hid ((K.out.drewN _).below hbel)); clear hbel; replace K := Lib.hid (K.out.withF hg); clear hg)
      | (go_at_call 70; (with_reducible refine (FA.out _ _ _ ?_).mono ?_); (first | exact K.out.at (.head _) | exact (K.out.alloc _).at (.head _) | exact ((K.out.alloc _).alloc _).at (.head _) | exact (((K.out.alloc _).alloc _).alloc _).at (.head _) | exact ((((K.out.alloc _).alloc _).alloc _).alloc _).at (.head _) | exact K.out.drew.at (.head _) | exact (K.out.drewN _).at (.head _)); rintro e w3 ⟨rfl, hbel⟩; (first | replace K := Lib.hid (K.out.below hbel) | replace K := Lib.hid ((K.out.alloc _).below hbel) | replace K := Lib.hid (((K.out.alloc _).alloc _).below hbel) | replace K := Lib.hid ((((K.out.alloc _).alloc _).alloc _).below hbel) | replace K := Lib.hid (((((K.out.alloc _).alloc _).alloc _).alloc _).below hbel) | replace K := Lib.hid (K.out.drew.below hbel) | replace K := Lib.hid ((K.out.drewN _).below hbel)); clear hbel)
      | (go_at_call 85; (with_reducible refine (HD1.out _ _ _ _ _ _ ?_ ?_ ?_).mono ?_); (first | exact K.out.gf | exact (K.out.alloc _).gf | exact K.out.drew.gf | exact ((K.out.alloc _).alloc _).gf | exact (((K.out.alloc _).alloc _).alloc _).gf | exact (((((K.out.alloc _).alloc _).alloc _).alloc _)).gf); (first | exact HH.out.below K.out.since | exact HH.out.below (K.out.alloc _).since | exact HH.out.below ((K.out.alloc _).alloc _).since | exact HH.out.below (((K.out.alloc _).alloc _).alloc _).since | exact HH.out.below ((((K.out.alloc _).alloc _).alloc _).alloc _).since | exact HH.out.below K.out.drew.since | exact HH.out.below (K.out.drewN _).since); (first | exact K.out.at (.head _) | exact (K.out.alloc _).at (.head _) | exact ((K.out.alloc _).alloc _).at (.head _) | exact (((K.out.alloc _).alloc _).alloc _).at (.head _) | exact ((((K.out.alloc _).alloc _).alloc _).alloc _).at (.head _) | exact K.out.drew.at (.head _) | exact (K.out.drewN _).at (.head _)); rintro e w4 ⟨Ax, cx, rfl, hr, hbel⟩; (first | replace K := Lib.hid (K.out.below hbel) | replace K := Lib.hid ((K.out.alloc _).below hbel) | replace K := Lib.hid (((K.out.alloc _).alloc _).below hbel) | replace K := Lib.hid ((((K.out.alloc _).alloc _).alloc _).below hbel) | replace K := Lib.hid (((((K.out.alloc _).alloc _).alloc _).alloc _).below hbel) | replace K := Lib.hid (K.out.drew.below hbel) | replace K := Lib.hid ((K.out.drewN _).below hbel)); replace K := Lib.hid (K.out.rr' hr); clear hr; clear hbel))
    go_ret
    exact ⟨rfl, K.out.since⟩
  subst hE
  obtain ⟨k, m, rfl, rfl, hkm, hhl, hal, hkc, hd⟩ := hc1.ok
  obtain ⟨g1, g2, g3⟩ := id hkm
  have hXe : ∃ L, Eql X (k + m) L ∧ enc k m (X.take k) = X ∧ L ≤ 100000 := by
    obtain ⟨D, L, q1, rfl, q3, q4, q5⟩ := hd
    exact ⟨L, q1.enc (by omega) m, by rw [enc_take q1.len], q3⟩
  obtain ⟨Q, qX, hXt, hQ⟩ := hXe
  have hXl := qX.len
  have hXm : ∀ l, l ∈ X → l.length ≤ 100000 := fun l hl => by
    obtain ⟨i, hi, rfl⟩ := List.mem_iff_getElem.1 hl
    have := qX.row i (by omega)
    unfold lenAt at this
    rw [List.getD_eq_getElem?_getD, List.getElem?_eq_getElem hi] at this
    have h2 : (X[i]).length = Q := this
    omega
  have HFT : Hid (∀ b A c w, GfAt w b → Rr w A c X → Calls Try.prog 73 #[fp b, .int .i64 k, .int .i64 m, .slice A X.length c] w (BoR w true 0)) := fun b A c w hg hr => fit_yes hkm (by have := qX.alk; rwa [Int.natCast_add] at this) hXm ⟨fun _ => hXt, fun _ => rfl⟩ b A c w hg hr
  obtain ⟨Y, G, hc2, h2⟩ := dec_out (k : Int) (m : Int) (allT (k + m) (allP which m) (k + m)) X hk hm hXm
  obtain ⟨rfl, rfl⟩ := self_case hkm hd hc2
  have hKM : k + m = Y.length := by omega
  have HD2 : Hid (∀ b Ah ch A c w, GfAt w b → Sl w Ah ch ((allT Y.length (allP which m) Y.length).map Value.bool) → Rr w A c Y → Calls Try.prog 85 #[fp b, .int .i64 k, .int .i64 m, .slice Ah Y.length ch, .slice A Y.length c] w (ShR w Y 0)) := fun b Ah ch A c w hg hh hr => by rw [← hKM] at hh; have := h2 b Ah ch A c w hg hh hr; rw [length_allT, hKM] at this; exact this
  have ROW : Hid (∀ i, i < Y.length → has.getD i false = true → (idx has i).length < k → Y.getD i [] = la.getD i []) := fun i hi hh hc => hd.row (by omega) hhl (mem_fst hh (by omega) hc)
  have SM1 : Hid (∀ i, Y.getD i [] = la.getD i [] → ∀ A c A' c' w, Rr w A c [Y.getD i []] → Rr w A' c' [la.getD i []] → Calls Try.prog 75 #[.slice A 1 c, .slice A' 1 c'] w fun e w' => e = .returned (.bool true) ∧ Below w.heap.size w w') := fun i hi A c A' c' w h h' => same_out [Y.getD i []] [la.getD i []] true (by rw [hi]; simp) (by simp) A c A' c' w h h'
  have SM : Hid (∀ A c A' c' w, Rr w A c Y → Rr w A' c' Y → Calls Try.prog 75 #[.slice A Y.length c, .slice A' Y.length c'] w fun e w' => e = .returned (.bool true) ∧ Below w.heap.size w w') := fun A c A' c' w h h' => same_out _ _ true (by simp) (by omega) A c A' c' w h h'
  have hhY : has.length = Y.length := by omega
  have hlY : la.length = Y.length := by omega
  have HHY := Lib.hid hhY
  have HLY := Lib.hid hlY
  have HSUM : Hid ((k : Int) + (m : Int) = (Y.length : Int)) := by show _ = _; omega
  have ISC := Lib.hid (idx_succ has)
  have hY20 : Y.length ≤ 20 := by omega
  replace HD1 : Hid (∀ b Ah ch A c w, GfAt w b → Sl w Ah ch (has.map Value.bool) → Rr w A c la → Calls Try.prog 85 #[fp b, .int .i64 k, .int .i64 m, .slice Ah Y.length ch, .slice A la.length c] w (ShR w Y 0)) := fun b Ah ch A c w hg hh hr => by have := HD1.out b Ah ch A c w hg hh hr; rw [hhY] at this; exact this
  rw [hhY]
  clear hfa hla hc1 hc2 h2 hd hXt qX hXm hXl hKM hhl hal hkc hl30 hhY hlY
  rename List (List F) => X
  have K := Lib.hid (Lk.start w)
  replace K := Lib.hid (K.out.rr' ha)
  clear ha
  go_enter Try.func35, Try.ntmps35
  go_wp2_with (first
    | (go_at_call 84; (with_reducible refine (awake7 _).mono ?_); rintro e w1 ⟨rfl, hbel⟩; (first | replace K := Lib.hid (K.out.below hbel) | replace K := Lib.hid ((K.out.alloc _).below hbel) | replace K := Lib.hid (((K.out.alloc _).alloc _).below hbel) | replace K := Lib.hid ((((K.out.alloc _).alloc _).alloc _).below hbel) | replace K := Lib.hid (((((K.out.alloc _).alloc _).alloc _).alloc _).below hbel) | replace K := Lib.hid (K.out.drew.below hbel) | replace K := Lib.hid ((K.out.drewN _).below hbel)); clear hbel)
    | (go_at_call 37; (with_reducible refine (new_any _).mono ?_); rintro e w2 ⟨rfl, hbel, hg⟩; (first | replace K := Lib.hid (K.out.below hbel) | replace K := Lib.hid ((K.out.alloc _).below hbel) | replace K := Lib.hid (((K.out.alloc _).alloc _).below hbel) | replace K := Lib.hid ((((K.out.alloc _).alloc _).alloc _).below hbel) | replace K := Lib.hid (((((K.out.alloc _).alloc _).alloc _).alloc _).below hbel) | replace K := Lib.hid (K.out.drew.below hbel) | replace K := Lib.hid ((K.out.drewN _).below hbel)); clear hbel; replace K := Lib.hid (K.out.withF hg); clear hg)
    | (go_at_call 70; (with_reducible refine (FA.out _ _ _ ?_).mono ?_); (first | exact K.out.at (.head _) | exact (K.out.alloc _).at (.head _) | exact ((K.out.alloc _).alloc _).at (.head _) | exact (((K.out.alloc _).alloc _).alloc _).at (.head _) | exact ((((K.out.alloc _).alloc _).alloc _).alloc _).at (.head _) | exact K.out.drew.at (.head _) | exact (K.out.drewN _).at (.head _)); rintro e w3 ⟨rfl, hbel⟩; (first | replace K := Lib.hid (K.out.below hbel) | replace K := Lib.hid ((K.out.alloc _).below hbel) | replace K := Lib.hid (((K.out.alloc _).alloc _).below hbel) | replace K := Lib.hid ((((K.out.alloc _).alloc _).alloc _).below hbel) | replace K := Lib.hid (((((K.out.alloc _).alloc _).alloc _).alloc _).below hbel) | replace K := Lib.hid (K.out.drew.below hbel) | replace K := Lib.hid ((K.out.drewN _).below hbel)); clear hbel)
    | (go_at_call 85; (with_reducible refine (HD1.out _ _ _ _ _ _ ?_ ?_ ?_).mono ?_); (first | exact K.out.gf | exact (K.out.alloc _).gf | exact K.out.drew.gf | exact ((K.out.alloc _).alloc _).gf | exact (((K.out.alloc _).alloc _).alloc _).gf | exact (((((K.out.alloc _).alloc _).alloc _).alloc _)).gf); (first | exact HH.out.below K.out.since | exact HH.out.below (K.out.alloc _).since | exact HH.out.below ((K.out.alloc _).alloc _).since | exact HH.out.below (((K.out.alloc _).alloc _).alloc _).since | exact HH.out.below ((((K.out.alloc _).alloc _).alloc _).alloc _).since | exact HH.out.below K.out.drew.since | exact HH.out.below (K.out.drewN _).since); (first | exact K.out.at (.head _) | exact (K.out.alloc _).at (.head _) | exact ((K.out.alloc _).alloc _).at (.head _) | exact (((K.out.alloc _).alloc _).alloc _).at (.head _) | exact ((((K.out.alloc _).alloc _).alloc _).alloc _).at (.head _) | exact K.out.drew.at (.head _) | exact (K.out.drewN _).at (.head _)); rintro e w4 ⟨Ax, cx, rfl, hr, hbel⟩; (first | replace K := Lib.hid (K.out.below hbel) | replace K := Lib.hid ((K.out.alloc _).below hbel) | replace K := Lib.hid (((K.out.alloc _).alloc _).below hbel) | replace K := Lib.hid ((((K.out.alloc _).alloc _).alloc _).below hbel) | replace K := Lib.hid (((((K.out.alloc _).alloc _).alloc _).alloc _).below hbel) | replace K := Lib.hid (K.out.drew.below hbel) | replace K := Lib.hid ((K.out.drewN _).below hbel)); replace K := Lib.hid (K.out.rr' hr); clear hr; clear hbel)
    | (go_at_call 73; (with_reducible refine (HFT.out _ _ _ _ ?_ ?_).mono ?_); (first | exact K.out.gf | exact (K.out.alloc _).gf | exact K.out.drew.gf | exact ((K.out.alloc _).alloc _).gf | exact (((K.out.alloc _).alloc _).alloc _).gf | exact (((((K.out.alloc _).alloc _).alloc _).alloc _)).gf); (first | exact K.out.at (.head _) | exact (K.out.alloc _).at (.head _) | exact ((K.out.alloc _).alloc _).at (.head _) | exact (((K.out.alloc _).alloc _).alloc _).at (.head _) | exact ((((K.out.alloc _).alloc _).alloc _).alloc _).at (.head _) | exact K.out.drew.at (.head _) | exact (K.out.drewN _).at (.head _)); rintro e w5 ⟨rfl, hbel⟩; (first | replace K := Lib.hid (K.out.below hbel) | replace K := Lib.hid ((K.out.alloc _).below hbel) | replace K := Lib.hid (((K.out.alloc _).alloc _).below hbel) | replace K := Lib.hid ((((K.out.alloc _).alloc _).alloc _).below hbel) | replace K := Lib.hid (((((K.out.alloc _).alloc _).alloc _).alloc _).below hbel) | replace K := Lib.hid (K.out.drew.below hbel) | replace K := Lib.hid ((K.out.drewN _).below hbel)); clear hbel))
  have S0 := Lib.hid (Since.refl w5)
  go_loopw [18, 19] (fun u v wr => ∃ i : Nat, i ≤ X.length ∧ v = .int .i64 i ∧ u = .int .i64 ((idx has i).length : Int) ∧ Since w5 wr) (fun _ v _ => X.length - (intOf v).toNat)
  case atStart => exact ⟨0, Nat.zero_le _, rfl, rfl, S0.out⟩
  case round =>
    clear S0
    obtain ⟨i, hi, rfl, rfl, hs⟩ := hrel
    have S := Lib.hid hs
    clear hs
    by_cases hlt : i < X.length
    · have hit : (i : Int) < (X.length : Int) := by omega
      have hcb : (idx has i).length ≤ i := by unfold idx; exact Nat.le_trans (List.length_filter_le _ _) (by simp)
      by_cases hnk : (idx has i).length < k
      · have hnt : ((idx has i).length : Int) < (k : Int) := by omega
        obtain ⟨bh, oh, hA1, _, hch⟩ := Sl.at' (HH.out.below (K.out.below S.out).since) (by rw [List.length_map, HHY.out]; omega)
        subst hA1
        obtain ⟨q, hq⟩ : ∃ q, has.getD i false = q := ⟨_, rfl⟩
        have yh := hch i (.bool q) (by rw [List.getElem?_map, List.getElem?_eq_getElem (by rw [HHY.out]; exact hlt), ← hq, List.getD_eq_getElem?_getD, List.getElem?_eq_getElem (by rw [HHY.out]; exact hlt)]; rfl)
        have HQ := Lib.hid hq
        clear hch hq
        cases q with
        | true =>
          have NS : Hid ((idx has (i + 1)).length = (idx has i).length + 1) := by show _ = _; rw [ISC.out, HQ.out]; simp
          have RW_ := Lib.hid (ROW.out i hlt HQ.out hnk)
          have K := Lib.hid (K.out.below S.out)
          have hcx := (K.out.at (.head _)).le.2
          unfold maxLen at hcx
          have hcx1 := (K.out.at (.head _)).le.1
          have hca := (K.out.at (.tail _ (.head _))).le.2
          unfold maxLen at hca
          have hca1 := (K.out.at (.tail _ (.head _))).le.1
          rw [HLY.out] at hca1
          have hr1 := Rr.one' (K.out.at (.head _)) (i := i) hlt
          have hr2 := Rr.one' (K.out.at (.tail _ (.head _))) (i := i) (by rw [HLY.out]; exact hlt)
          obtain ⟨AR, har⟩ : ∃ AR, rowA Ax cx i = AR := ⟨_, rfl⟩
          obtain ⟨AS, has_⟩ : ∃ AS, rowA Aa ca i = AS := ⟨_, rfl⟩
          rw [har] at hr1
          rw [has_] at hr2
          have hif1 : (if cx = i then Ax else Option.map (fun x => x.add i) Ax) = AR := har
          have hif2 : (if ca = i then Aa else Option.map (fun x => x.add i) Aa) = AS := has_
          have R1 := Lib.hid hr1
          have R2 := Lib.hid hr2
          clear hr1 hr2 har has_
          have hx1 : (i : Int) + 1 ≤ (cx : Int) := by omega
          have hx2 : (i : Int) + 1 ≤ (ca : Int) := by omega
          have hwr : IntKind.i64.wrap ((i : Int) + 1) = (i : Int) + 1 := by rw [IntKind.wrap_i64]; omega
          have hwn : ((i : Int) + 1).toNat = i + 1 := by omega
          have hwg : 0 ≤ (i : Int) + 1 := by omega
          go_wp2
          go_region_law (go_simp; go_at_call 75; (with_reducible refine (SM1.out i RW_.out _ _ _ _ _ ?_ ?_).mono ?_); (first | exact R1.out | exact R1.out.below (below_drew0 _ 1)); (first | exact R2.out | exact R2.out.below (below_drew0 _ 1)); rintro e w7 ⟨rfl, hbel⟩; (first | have S7 := Lib.hid (S.out.below hbel) | have S7 := Lib.hid ((S.out.drewN 1).below hbel)); clear hbel)
          go_wp2
          go_roundw
          case rel => exact ⟨i + 1, by omega, by go_num, by rw [NS.out]; go_num, S7.out⟩
          case measure => simp [intOf]; omega
        | false =>
          have NS : Hid ((idx has (i + 1)).length = (idx has i).length) := by show _ = _; rw [ISC.out, HQ.out]; simp
          go_wp2
          go_roundw
          case rel => exact ⟨i + 1, by omega, by go_num, by rw [NS.out], S.out⟩
          case measure => simp [intOf]; omega
      · have hnt : ¬ ((idx has i).length : Int) < (k : Int) := by omega
        replace K := Lib.hid (K.out.below S.out)
        clear S
        go_wp2_with (refine make_bools _ rfl _ _ rfl .i64 .i64 ((k : Int) + (m : Int)) ((k : Int) + (m : Int)) X.length rfl rfl HSUM.out HSUM.out ?b ?_; (case b => omega); intro w8 hown hbel; rw [allT_zero X.length (allP which m)] at hown; have OWN := Lib.hid hown; have BEL := Lib.hid hbel; clear hown hbel)
        go_loopw [22] (fun v wj => ∃ x : Nat, x ≤ X.length ∧ v = .int .i64 x ∧ wj.ownsRow wr.heap.size 4 1 (.slice (some ⟨wr.heap.size, 0, none⟩) X.length X.length) X.length ((allT X.length (allP which m) x).map Value.bool) ∧ Below wr.heap.size wr wj) (fun v _ => X.length - (intOf v).toNat)
        case atStart => exact ⟨0, Nat.zero_le _, rfl, OWN.out, BEL.out⟩
        case round =>
          rename World => wj
          clear OWN BEL
          obtain ⟨x, hx, rfl, hown, hbel⟩ := hrel
          have OWN := Lib.hid hown
          have BEL := Lib.hid hbel
          clear hown hbel
          by_cases hlx : x < X.length
          · have hxt : (x : Int) < (X.length : Int) := by omega
            have hcl := OWN.out.cellAt x (by simp [length_allT]; omega)
            have hfz := OWN.out.frozenAt x
            have hsz := BEL.out.size
            rw [List.getElem?_map, List.getElem?_eq_getElem (by rw [length_allT]; exact hlx)] at hcl
            generalize (allT X.length (allP which m) x)[x]'(by rw [length_allT]; exact hlx) = old at hcl
            simp only [Option.map_some] at hcl
            by_cases hw : (x : Int) = which
            · have e0 : ((x : Int) == which) = true := by rw [beq_iff_eq]; exact hw
              have e1 : ((x : Int) != which) = false := by rw [bne_eq_false_iff_eq]; exact hw
              by_cases hm0 : m = 0
              · have e2 : ((m : Int) == 0) = true := by rw [beq_iff_eq]; omega
                have NXT := Lib.hid (OWN.out.stored x (.bool true)).1
                rw [allT_put (q := true) (by unfold allP; simp [hm0])] at NXT
                have BNX : Hid (Below wr.heap.size wr (wj.setCell ⟨wr.heap.size, x, none⟩ (.bool true))) := BEL.out.setCell (Nat.le_refl _) _
                clear hm0 hw
                go_wp2
                go_roundw
                case rel => exact ⟨x + 1, by omega, by go_num, NXT.out, BNX.out⟩
                case measure => simp [intOf]; omega
              · have e2 : ((m : Int) == 0) = false := by rw [beq_eq_false_iff_ne]; omega
                have NXT := Lib.hid (OWN.out.stored x (.bool false)).1
                rw [allT_put (q := false) (by unfold allP; simp [hm0, hw])] at NXT
                have BNX : Hid (Below wr.heap.size wr (wj.setCell ⟨wr.heap.size, x, none⟩ (.bool false))) := BEL.out.setCell (Nat.le_refl _) _
                clear hm0 hw
                go_wp2
                go_roundw
                case rel => exact ⟨x + 1, by omega, by go_num, NXT.out, BNX.out⟩
                case measure => simp [intOf]; omega
            · have e0 : ((x : Int) == which) = false := by rw [beq_eq_false_iff_ne]; exact hw
              have e1 : ((x : Int) != which) = true := by rw [bne_iff_ne]; exact hw
              have NXT := Lib.hid (OWN.out.stored x (.bool true)).1
              rw [allT_put (q := true) (by unfold allP; simp [hw])] at NXT
              have BNX : Hid (Below wr.heap.size wr (wj.setCell ⟨wr.heap.size, x, none⟩ (.bool true))) := BEL.out.setCell (Nat.le_refl _) _
              clear hw
              go_wp2
              go_roundw
              case rel => exact ⟨x + 1, by omega, by go_num, NXT.out, BNX.out⟩
              case measure => simp [intOf]; omega
          · obtain rfl : x = X.length := by omega
            have hxt : ¬ ((X.length : Nat) : Int) < ((X.length : Nat) : Int) := by omega
            replace K := Lib.hid (K.out.below BEL.out)
            have SALL := Lib.hid (own_sl OWN.out)
            have SA0 := Lib.hid (Since.refl wj)
            clear OWN BEL
            go_wp2_with (first
              | (go_at_call 85; (with_reducible refine (HD2.out _ _ _ _ _ _ ?_ ?_ ?_).mono ?_); (first | exact K.out.gf | exact (K.out.alloc _).gf | exact K.out.drew.gf | exact ((K.out.alloc _).alloc _).gf | exact (((K.out.alloc _).alloc _).alloc _).gf | exact (((((K.out.alloc _).alloc _).alloc _).alloc _)).gf); (exact SALL.out); (first | exact K.out.at (.head _) | exact (K.out.alloc _).at (.head _) | exact ((K.out.alloc _).alloc _).at (.head _) | exact (((K.out.alloc _).alloc _).alloc _).at (.head _) | exact ((((K.out.alloc _).alloc _).alloc _).alloc _).at (.head _) | exact K.out.drew.at (.head _) | exact (K.out.drewN _).at (.head _)); rintro e w21 ⟨Ay, cy, rfl, hr, hbel⟩; (first | replace K := Lib.hid (K.out.below hbel) | replace K := Lib.hid ((K.out.alloc _).below hbel) | replace K := Lib.hid (((K.out.alloc _).alloc _).below hbel) | replace K := Lib.hid ((((K.out.alloc _).alloc _).alloc _).below hbel) | replace K := Lib.hid (((((K.out.alloc _).alloc _).alloc _).alloc _).below hbel) | replace K := Lib.hid (K.out.drew.below hbel) | replace K := Lib.hid ((K.out.drewN _).below hbel)); replace K := Lib.hid (K.out.rr' hr); clear hr; clear hbel; clear SALL)
              | (go_at_call 75; (with_reducible refine (SM.out _ _ _ _ _ ?_ ?_).mono ?_); (first | exact K.out.at (.tail _ (.head _)) | exact (K.out.alloc _).at (.tail _ (.head _)) | exact ((K.out.alloc _).alloc _).at (.tail _ (.head _)) | exact (((K.out.alloc _).alloc _).alloc _).at (.tail _ (.head _)) | exact ((((K.out.alloc _).alloc _).alloc _).alloc _).at (.tail _ (.head _)) | exact K.out.drew.at (.tail _ (.head _)) | exact (K.out.drewN _).at (.tail _ (.head _))); (first | exact K.out.at (.head _) | exact (K.out.alloc _).at (.head _) | exact ((K.out.alloc _).alloc _).at (.head _) | exact (((K.out.alloc _).alloc _).alloc _).at (.head _) | exact ((((K.out.alloc _).alloc _).alloc _).alloc _).at (.head _) | exact K.out.drew.at (.head _) | exact (K.out.drewN _).at (.head _)); rintro e w22 ⟨rfl, hbel⟩; (first | replace K := Lib.hid (K.out.below hbel) | replace K := Lib.hid ((K.out.alloc _).below hbel) | replace K := Lib.hid (((K.out.alloc _).alloc _).below hbel) | replace K := Lib.hid ((((K.out.alloc _).alloc _).alloc _).below hbel) | replace K := Lib.hid (((((K.out.alloc _).alloc _).alloc _).alloc _).below hbel) | replace K := Lib.hid (K.out.drew.below hbel) | replace K := Lib.hid ((K.out.drewN _).below hbel)); clear hbel))
            go_ret
            exact ⟨rfl, K.out.since⟩
    · obtain rfl : i = X.length := by omega
      have hit : ¬ ((X.length : Nat) : Int) < ((X.length : Nat) : Int) := by omega
      replace K := Lib.hid (K.out.below S.out)
      clear S
      go_wp2_with (refine make_bools _ rfl _ _ rfl .i64 .i64 ((k : Int) + (m : Int)) ((k : Int) + (m : Int)) X.length rfl rfl HSUM.out HSUM.out ?b ?_; (case b => omega); intro w8 hown hbel; rw [allT_zero X.length (allP which m)] at hown; have OWN := Lib.hid hown; have BEL := Lib.hid hbel; clear hown hbel)
      go_loopw [22] (fun v wj => ∃ x : Nat, x ≤ X.length ∧ v = .int .i64 x ∧ wj.ownsRow wr.heap.size 4 1 (.slice (some ⟨wr.heap.size, 0, none⟩) X.length X.length) X.length ((allT X.length (allP which m) x).map Value.bool) ∧ Below wr.heap.size wr wj) (fun v _ => X.length - (intOf v).toNat)
      case atStart => exact ⟨0, Nat.zero_le _, rfl, OWN.out, BEL.out⟩
      case round =>
        rename World => wj
        clear OWN BEL
        obtain ⟨x, hx, rfl, hown, hbel⟩ := hrel
        have OWN := Lib.hid hown
        have BEL := Lib.hid hbel
        clear hown hbel
        by_cases hlx : x < X.length
        · have hxt : (x : Int) < (X.length : Int) := by omega
          have hcl := OWN.out.cellAt x (by simp [length_allT]; omega)
          have hfz := OWN.out.frozenAt x
          have hsz := BEL.out.size
          rw [List.getElem?_map, List.getElem?_eq_getElem (by rw [length_allT]; exact hlx)] at hcl
          generalize (allT X.length (allP which m) x)[x]'(by rw [length_allT]; exact hlx) = old at hcl
          simp only [Option.map_some] at hcl
          by_cases hw : (x : Int) = which
          · have e0 : ((x : Int) == which) = true := by rw [beq_iff_eq]; exact hw
            have e1 : ((x : Int) != which) = false := by rw [bne_eq_false_iff_eq]; exact hw
            by_cases hm0 : m = 0
            · have e2 : ((m : Int) == 0) = true := by rw [beq_iff_eq]; omega
              have NXT := Lib.hid (OWN.out.stored x (.bool true)).1
              rw [allT_put (q := true) (by unfold allP; simp [hm0])] at NXT
              have BNX : Hid (Below wr.heap.size wr (wj.setCell ⟨wr.heap.size, x, none⟩ (.bool true))) := BEL.out.setCell (Nat.le_refl _) _
              clear hm0 hw
              go_wp2
              go_roundw
              case rel => exact ⟨x + 1, by omega, by go_num, NXT.out, BNX.out⟩
              case measure => simp [intOf]; omega
            · have e2 : ((m : Int) == 0) = false := by rw [beq_eq_false_iff_ne]; omega
              have NXT := Lib.hid (OWN.out.stored x (.bool false)).1
              rw [allT_put (q := false) (by unfold allP; simp [hm0, hw])] at NXT
              have BNX : Hid (Below wr.heap.size wr (wj.setCell ⟨wr.heap.size, x, none⟩ (.bool false))) := BEL.out.setCell (Nat.le_refl _) _
              clear hm0 hw
              go_wp2
              go_roundw
              case rel => exact ⟨x + 1, by omega, by go_num, NXT.out, BNX.out⟩
              case measure => simp [intOf]; omega
          · have e0 : ((x : Int) == which) = false := by rw [beq_eq_false_iff_ne]; exact hw
            have e1 : ((x : Int) != which) = true := by rw [bne_iff_ne]; exact hw
            have NXT := Lib.hid (OWN.out.stored x (.bool true)).1
            rw [allT_put (q := true) (by unfold allP; simp [hw])] at NXT
            have BNX : Hid (Below wr.heap.size wr (wj.setCell ⟨wr.heap.size, x, none⟩ (.bool true))) := BEL.out.setCell (Nat.le_refl _) _
            clear hw
            go_wp2
            go_roundw
            case rel => exact ⟨x + 1, by omega, by go_num, NXT.out, BNX.out⟩
            case measure => simp [intOf]; omega
        · obtain rfl : x = X.length := by omega
          have hxt : ¬ ((X.length : Nat) : Int) < ((X.length : Nat) : Int) := by omega
          replace K := Lib.hid (K.out.below BEL.out)
          have SALL := Lib.hid (own_sl OWN.out)
          have SA0 := Lib.hid (Since.refl wj)
          clear OWN BEL
          go_wp2_with (first
            | (go_at_call 85; (with_reducible refine (HD2.out _ _ _ _ _ _ ?_ ?_ ?_).mono ?_); (first | exact K.out.gf | exact (K.out.alloc _).gf | exact K.out.drew.gf | exact ((K.out.alloc _).alloc _).gf | exact (((K.out.alloc _).alloc _).alloc _).gf | exact (((((K.out.alloc _).alloc _).alloc _).alloc _)).gf); (exact SALL.out); (first | exact K.out.at (.head _) | exact (K.out.alloc _).at (.head _) | exact ((K.out.alloc _).alloc _).at (.head _) | exact (((K.out.alloc _).alloc _).alloc _).at (.head _) | exact ((((K.out.alloc _).alloc _).alloc _).alloc _).at (.head _) | exact K.out.drew.at (.head _) | exact (K.out.drewN _).at (.head _)); rintro e w21 ⟨Ay, cy, rfl, hr, hbel⟩; (first | replace K := Lib.hid (K.out.below hbel) | replace K := Lib.hid ((K.out.alloc _).below hbel) | replace K := Lib.hid (((K.out.alloc _).alloc _).below hbel) | replace K := Lib.hid ((((K.out.alloc _).alloc _).alloc _).below hbel) | replace K := Lib.hid (((((K.out.alloc _).alloc _).alloc _).alloc _).below hbel) | replace K := Lib.hid (K.out.drew.below hbel) | replace K := Lib.hid ((K.out.drewN _).below hbel)); replace K := Lib.hid (K.out.rr' hr); clear hr; clear hbel; clear SALL)
            | (go_at_call 75; (with_reducible refine (SM.out _ _ _ _ _ ?_ ?_).mono ?_); (first | exact K.out.at (.tail _ (.head _)) | exact (K.out.alloc _).at (.tail _ (.head _)) | exact ((K.out.alloc _).alloc _).at (.tail _ (.head _)) | exact (((K.out.alloc _).alloc _).alloc _).at (.tail _ (.head _)) | exact ((((K.out.alloc _).alloc _).alloc _).alloc _).at (.tail _ (.head _)) | exact K.out.drew.at (.tail _ (.head _)) | exact (K.out.drewN _).at (.tail _ (.head _))); (first | exact K.out.at (.head _) | exact (K.out.alloc _).at (.head _) | exact ((K.out.alloc _).alloc _).at (.head _) | exact (((K.out.alloc _).alloc _).alloc _).at (.head _) | exact ((((K.out.alloc _).alloc _).alloc _).alloc _).at (.head _) | exact K.out.drew.at (.head _) | exact (K.out.drewN _).at (.head _)); rintro e w22 ⟨rfl, hbel⟩; (first | replace K := Lib.hid (K.out.below hbel) | replace K := Lib.hid ((K.out.alloc _).below hbel) | replace K := Lib.hid (((K.out.alloc _).alloc _).below hbel) | replace K := Lib.hid ((((K.out.alloc _).alloc _).alloc _).below hbel) | replace K := Lib.hid (((((K.out.alloc _).alloc _).alloc _).alloc _).below hbel) | replace K := Lib.hid (K.out.drew.below hbel) | replace K := Lib.hid ((K.out.drewN _).below hbel)); clear hbel))
          go_ret
          exact ⟨rfl, K.out.since⟩
end Go.Proofs.Ytmkjplpnoohfnaa
