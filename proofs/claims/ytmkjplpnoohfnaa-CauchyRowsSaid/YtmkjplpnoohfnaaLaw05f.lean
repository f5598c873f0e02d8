/- aumbrylaw05.rising and CauchyRows, walked. -/
import Derived.Test.YtmkjplpnoohfnaaLaw03d
import Derived.Test.YtmkjplpnoohfnaaLaw05d
namespace Go.Proofs.Ytmkjplpnoohfnaa
open Go.RowKit
set_option linter.unusedVariables false
set_option linter.unusedSimpArgs false
def Rise (zs : List Int) (n : Int) (i : Nat) : Prop := ∀ j, j < i → 0 ≤ zs.getD j 0 ∧ zs.getD j 0 < n ∧ (0 < j → zs.getD (j - 1) 0 < zs.getD j 0)
theorem Rise.succ {zs : List Int} {n : Int} {i : Nat} (h : Rise zs n i) (h0 : 0 ≤ zs.getD i 0) (h1 : zs.getD i 0 < n) (h2 : 0 < i → zs.getD (i - 1) 0 < zs.getD i 0) : Rise zs n (i + 1) := fun j hj => by
  rcases Nat.lt_or_ge j i with h' | h'
  · exact h j h'
  · obtain rfl : j = i := by omega
    exact ⟨h0, h1, h2⟩
theorem Rise.goods {zs : List Int} {n i : Nat} (h : Rise zs n i) : Goods zs n i := fun j hj => ⟨(h j hj).1, (h j hj).2.1⟩
theorem Rise.lt {zs : List Int} {n : Int} {i : Nat} (h : Rise zs n i) : ∀ b a, a < b → b < i → zs.getD a 0 < zs.getD b 0
  | 0, a, hab, _ => absurd hab (Nat.not_lt_zero a)
  | b + 1, a, hab, hb => by
    have h1 := (h (b + 1) hb).2.2 (Nat.succ_pos b)
    rw [Nat.add_sub_cancel] at h1
    rcases Nat.lt_or_ge a b with h2 | h2
    · have := Rise.lt h b a h2 (by omega)
      omega
    · obtain rfl : a = b := by omega
      exact h1
theorem Rise.inj {zs : List Int} {n : Int} {i : Nat} (h : Rise zs n i) {a b : Nat} (ha : a < i) (hb : b < i) (e : zr zs a = zr zs b) : a = b := by
  have h1 := (h a ha).1
  have h2 := (h b hb).1
  unfold zr at e
  rcases Nat.lt_trichotomy a b with h3 | h3 | h3
  · have := h.lt b a h3 hb; omega
  · exact h3
  · have := h.lt a b h3 ha; omega
/-- rows of the generator that rise have an inverse -/
theorem gen_rows_inv {k m : Nat} (hkm : k + m ≤ 256) {zs : List Int} (h : Rise zs ((k + m : Nat) : Int) k) : ∃ g, IsInv k (fun i j => genF k (zr zs i) j) g := by
  refine inv_of_ker fun x hx j hj => ?_
  refine gen_ker (by omega) ((List.range k).map (zr zs)) (by simp) ?_ ?_ x ?_ j hj
  · refine List.pairwise_map.2 ?_
    refine List.Pairwise.imp_of_mem ?_ List.nodup_range
    intro a b ha hb hne e
    exact hne (h.inj (List.mem_range.1 ha) (List.mem_range.1 hb) e)
  · intro y hy
    obtain ⟨a, ha, rfl⟩ := List.mem_map.1 hy
    have := zr_lt h.goods (List.mem_range.1 ha)
    omega
  · intro y hy
    obtain ⟨a, ha, rfl⟩ := List.mem_map.1 hy
    exact hx a (List.mem_range.1 ha)
set_option maxRecDepth 1000000 in
set_option maxHeartbeats 4000000 in
theorem rising_w (Az : Option Addr) (cz nz : Nat) (zs : List Int) (N : Int) (w : World) (hnz : zs.length = nz) (hz : Sl w Az cz (zs.map (Value.int .i64))) (hN : 0 ≤ N ∧ N ≤ 512) :
    Calls Try.prog 68 #[.slice Az nz cz, .int .i64 N] w fun e w' => (Rise zs N nz ∧ e = .returned (.bool true) ∨ ¬ Rise zs N nz ∧ e = .returned (.bool false)) ∧ Below w.heap.size w w' := by
  have HZ := Lib.hid hz
  have NZ := Lib.hid hnz
  have hnm : nz ≤ maxLen := by have h1 := hz.le; have h2 := hz.mx; rw [List.length_map, hnz] at h1; omega
  unfold maxLen at hnm
  clear hz hnz
  go_enter Try.func68, Try.ntmps68
  go_wp2
  go_loopw [5] (fun v wr => ∃ i : Nat, i ≤ nz ∧ v = .int .i64 i ∧ Rise zs N i ∧ Since w wr) (fun v _ => nz - (intOf v).toNat)
  case atStart => exact ⟨0, Nat.zero_le _, rfl, fun j h => absurd h (Nat.not_lt_zero j), Since.refl _⟩
  case round =>
    obtain ⟨i, hi, rfl, hgood, hs⟩ := hrel
    have HZ1 := Lib.hid (HZ.out.below hs)
    have S1 := Lib.hid hs
    clear hs
    by_cases hlt : i < nz
    · obtain ⟨b1, o1, h1, _, hc1⟩ := Sl.at' HZ1.out (by rw [List.length_map, NZ.out]; omega)
      subst h1
      have y1 := hc1 i (.int .i64 (zs.getD i 0)) (by rw [List.getElem?_map, List.getElem?_eq_getElem (by rw [NZ.out]; omega), List.getD_eq_getElem?_getD, List.getElem?_eq_getElem (by rw [NZ.out]; omega)]; rfl)
      have hlt' : (i : Int) < (nz : Int) := by omega
      by_cases hi0 : i = 0
      · have t3 : decide ((0 : Int) < (i : Int)) = false := decide_eq_false (by omega)
        have t3' : decide (0 < i) = false := decide_eq_false (by omega)
        clear hc1
        by_cases g0 : zs.getD i 0 < 0
        · have t0 : decide (zs.getD i 0 < 0) = true := decide_eq_true g0
          have NG : Hid (¬ Rise zs N nz) := fun h => by have := (h i hlt).1; omega
          clear hgood
          generalize zs.getD i 0 = x at *
          clear hi0
          go_wp2
          go_quiet (fail)
          go_wp2
          go_ret
          refine ⟨?_, S1.out.drewN _⟩
          right
          exact ⟨NG.out, rfl⟩
        · have t0 : decide (zs.getD i 0 < 0) = false := decide_eq_false g0
          by_cases g1 : N ≤ zs.getD i 0
          · have t1 : decide (N ≤ zs.getD i 0) = true := decide_eq_true g1
            have NG : Hid (¬ Rise zs N nz) := fun h => by have := (h i hlt).2.1; omega
            clear hgood
            generalize zs.getD i 0 = x at *
            clear hi0
            go_wp2
            go_quiet (fail)
            go_wp2
            go_ret
            refine ⟨?_, S1.out.drewN _⟩
            right
            exact ⟨NG.out, rfl⟩
          · have t1 : decide (N ≤ zs.getD i 0) = false := decide_eq_false g1
            have GD : Hid (Rise zs N (i + 1)) := hgood.succ (by omega) (by omega) fun h => by omega
            clear hgood
            generalize zs.getD i 0 = x at *
            clear hi0
            go_wp2
            go_quiet (fail)
            go_wp2
            go_roundw
            case rel => exact ⟨i + 1, by omega, by go_num, GD.out, S1.out.drewN _⟩
            case measure => simp [intOf]; omega
      · obtain ⟨j, hj⟩ : ∃ j, i = j + 1 := ⟨i - 1, by omega⟩
        have y2 := hc1 j (.int .i64 (zs.getD j 0)) (by rw [List.getElem?_map, List.getElem?_eq_getElem (by rw [NZ.out]; omega), List.getD_eq_getElem?_getD, List.getElem?_eq_getElem (by rw [NZ.out]; omega)]; rfl)
        have t3 : decide ((0 : Int) < (i : Int)) = true := decide_eq_true (by omega)
        have t3' : decide (0 < i) = true := decide_eq_true (by omega)
        have w1 : IntKind.i64.wrap ((i : Int) - 1) = (j : Int) := by rw [IntKind.wrap_i64]; omega
        have hjz : (j : Int) < (nz : Int) := by omega
        have hij : i - 1 = j := by omega
        clear hc1
        by_cases g0 : zs.getD i 0 < 0
        · have t0 : decide (zs.getD i 0 < 0) = true := decide_eq_true g0
          have NG : Hid (¬ Rise zs N nz) := fun h => by have := (h i hlt).1; omega
          clear hgood
          generalize zs.getD i 0 = x at *
          clear hi0 hj hij
          go_wp2
          go_quiet (fail)
          go_wp2
          go_ret
          refine ⟨?_, S1.out.drewN _⟩
          right
          exact ⟨NG.out, rfl⟩
        · have t0 : decide (zs.getD i 0 < 0) = false := decide_eq_false g0
          by_cases g1 : N ≤ zs.getD i 0
          · have t1 : decide (N ≤ zs.getD i 0) = true := decide_eq_true g1
            have NG : Hid (¬ Rise zs N nz) := fun h => by have := (h i hlt).2.1; omega
            clear hgood
            generalize zs.getD i 0 = x at *
            clear hi0 hj hij
            go_wp2
            go_quiet (fail)
            go_wp2
            go_ret
            refine ⟨?_, S1.out.drewN _⟩
            right
            exact ⟨NG.out, rfl⟩
          · have t1 : decide (N ≤ zs.getD i 0) = false := decide_eq_false g1
            by_cases g2 : zs.getD i 0 ≤ zs.getD j 0
            · have t2 : decide (zs.getD i 0 ≤ zs.getD j 0) = true := decide_eq_true g2
              have NG : Hid (¬ Rise zs N nz) := fun h => by have := (h i hlt).2.2 (by omega); rw [hij] at this; omega
              clear hgood
              generalize zs.getD i 0 = x at *
              generalize zs.getD j 0 = y at *
              clear hi0 hj hij
              go_wp2
              go_quiet (fail)
              go_wp2
              go_ret
              refine ⟨?_, S1.out.drewN _⟩
              right
              exact ⟨NG.out, rfl⟩
            · have t2 : decide (zs.getD i 0 ≤ zs.getD j 0) = false := decide_eq_false g2
              have GD : Hid (Rise zs N (i + 1)) := hgood.succ (by omega) (by omega) fun _ => by rw [hij]; omega
              clear hgood
              generalize zs.getD i 0 = x at *
              generalize zs.getD j 0 = y at *
              clear hi0 hj hij
              go_wp2
              go_quiet (fail)
              go_wp2
              go_roundw
              case rel => exact ⟨i + 1, by omega, by go_num, GD.out, S1.out.drewN _⟩
              case measure => simp [intOf]; omega
    · have hie : nz = i := by omega
      subst hie
      have HG := Lib.hid hgood
      clear hgood
      go_wp2
      go_ret
      refine ⟨?_, S1.out⟩
      left
      exact ⟨HG.out, rfl⟩
set_option maxRecDepth 1000000 in
set_option maxHeartbeats 4000000 in
theorem walk_CauchyRows {w : World} (k : Int) (hk : -9223372036854775808 ≤ k ∧ k ≤ 9223372036854775807) (m : Int) (hm : -9223372036854775808 ≤ m ∧ m ≤ 9223372036854775807) (Az : Option Addr) (cz : Nat) (zs : List Int) (hz : Sl w Az cz (zs.map (Value.int .i64))) (hzb : ∀ z ∈ zs, -9223372036854775808 ≤ z ∧ z ≤ 9223372036854775807) :
    Calls Try.prog 20 #[.int .i64 k, .int .i64 m, .slice Az zs.length cz] w fun e w' => e = .returned (.bool true) ∧ Below w.heap.size w w' := by
  obtain ⟨nz, hnz⟩ : ∃ n, zs.length = n := ⟨_, rfl⟩
  rw [hnz]
  by_cases h : okkm k m
  rotate_left
  · have CK : Hid (∀ w, Calls Try.prog 38 #[.int .i64 k, .int .i64 m] w fun e w' => e = .returned (.int .i64 50) ∧ w = w') := fun w => cauchy_check_bad k m hk hm h w
    clear h hnz hzb
    have W := Lib.hid (Since.refl w)
    have K := Lib.hid ((Kn.nothing w).sl hz)
    go_enter Try.func20, Try.ntmps20
    go_wp2_with (first
      | (go_at_call 36; (with_reducible refine (awake5 _).mono ?_); rintro e w1 ⟨rfl, hbel⟩; (first | replace K := Lib.hid (K.out.below hbel) | replace K := Lib.hid ((K.out.alloc _).below hbel) | replace K := Lib.hid (((K.out.alloc _).alloc _).below hbel) | replace K := Lib.hid ((K.out.drewN _).below hbel) | replace K := Lib.hid (((K.out.drewN _).alloc _).below hbel) | replace K := Lib.hid (((K.out.alloc _).drewN _).below hbel) | replace K := Lib.hid ((((K.out.alloc _).alloc _).drewN _).below hbel) | replace K := Lib.hid ((((K.out.alloc _).alloc _).alloc _).below hbel) | replace K := Lib.hid ((((K.out.drewN _).alloc _).alloc _).below hbel)); (first | replace W := Lib.hid (W.out.below hbel) | replace W := Lib.hid ((W.out.alloc _).below hbel) | replace W := Lib.hid (((W.out.alloc _).alloc _).below hbel) | replace W := Lib.hid ((W.out.drewN _).below hbel) | replace W := Lib.hid (((W.out.drewN _).alloc _).below hbel) | replace W := Lib.hid (((W.out.alloc _).drewN _).below hbel) | replace W := Lib.hid ((((W.out.alloc _).alloc _).drewN _).below hbel) | replace W := Lib.hid ((((W.out.alloc _).alloc _).alloc _).below hbel) | replace W := Lib.hid ((((W.out.drewN _).alloc _).alloc _).below hbel)); clear hbel)
      | (go_at_call 37; (with_reducible refine (new_any _).mono ?_); rintro e w2 ⟨rfl, hbel, hg⟩; (first | replace K := Lib.hid (K.out.below hbel) | replace K := Lib.hid ((K.out.alloc _).below hbel) | replace K := Lib.hid (((K.out.alloc _).alloc _).below hbel) | replace K := Lib.hid ((K.out.drewN _).below hbel) | replace K := Lib.hid (((K.out.drewN _).alloc _).below hbel) | replace K := Lib.hid (((K.out.alloc _).drewN _).below hbel) | replace K := Lib.hid ((((K.out.alloc _).alloc _).drewN _).below hbel) | replace K := Lib.hid ((((K.out.alloc _).alloc _).alloc _).below hbel) | replace K := Lib.hid ((((K.out.drewN _).alloc _).alloc _).below hbel)); (first | replace W := Lib.hid (W.out.below hbel) | replace W := Lib.hid ((W.out.alloc _).below hbel) | replace W := Lib.hid (((W.out.alloc _).alloc _).below hbel) | replace W := Lib.hid ((W.out.drewN _).below hbel) | replace W := Lib.hid (((W.out.drewN _).alloc _).below hbel) | replace W := Lib.hid (((W.out.alloc _).drewN _).below hbel) | replace W := Lib.hid ((((W.out.alloc _).alloc _).drewN _).below hbel) | replace W := Lib.hid ((((W.out.alloc _).alloc _).alloc _).below hbel) | replace W := Lib.hid ((((W.out.drewN _).alloc _).alloc _).below hbel)); clear hbel; replace K := Lib.hid (K.out.withF hg); clear hg)
      | (go_at_call 38; (with_reducible refine (CK.out _).mono ?_); rintro e wx ⟨rfl, rfl⟩))
    all_goals (go_ret; exact ⟨rfl, W.out⟩)
  have CK : Hid (∀ w, Calls Try.prog 38 #[.int .i64 k, .int .i64 m] w fun e w' => e = .returned (.int .i64 0) ∧ w = w') := fun w => cauchy_check_ok k m h w
  have hk2 := h.1
  have hm2 := h.2.1
  have hkm2 := h.2.2
  by_cases g0 : 30 < k + m
  · have t0 : decide (30 < k + m) = true := decide_eq_true g0
    clear h hnz hzb
    have W := Lib.hid (Since.refl w)
    have K := Lib.hid ((Kn.nothing w).sl hz)
    go_enter Try.func20, Try.ntmps20
    go_wp2_with (first
      | (go_at_call 36; (with_reducible refine (awake5 _).mono ?_); rintro e w1 ⟨rfl, hbel⟩; (first | replace K := Lib.hid (K.out.below hbel) | replace K := Lib.hid ((K.out.alloc _).below hbel) | replace K := Lib.hid (((K.out.alloc _).alloc _).below hbel) | replace K := Lib.hid ((K.out.drewN _).below hbel) | replace K := Lib.hid (((K.out.drewN _).alloc _).below hbel) | replace K := Lib.hid (((K.out.alloc _).drewN _).below hbel) | replace K := Lib.hid ((((K.out.alloc _).alloc _).drewN _).below hbel) | replace K := Lib.hid ((((K.out.alloc _).alloc _).alloc _).below hbel) | replace K := Lib.hid ((((K.out.drewN _).alloc _).alloc _).below hbel)); (first | replace W := Lib.hid (W.out.below hbel) | replace W := Lib.hid ((W.out.alloc _).below hbel) | replace W := Lib.hid (((W.out.alloc _).alloc _).below hbel) | replace W := Lib.hid ((W.out.drewN _).below hbel) | replace W := Lib.hid (((W.out.drewN _).alloc _).below hbel) | replace W := Lib.hid (((W.out.alloc _).drewN _).below hbel) | replace W := Lib.hid ((((W.out.alloc _).alloc _).drewN _).below hbel) | replace W := Lib.hid ((((W.out.alloc _).alloc _).alloc _).below hbel) | replace W := Lib.hid ((((W.out.drewN _).alloc _).alloc _).below hbel)); clear hbel)
      | (go_at_call 37; (with_reducible refine (new_any _).mono ?_); rintro e w2 ⟨rfl, hbel, hg⟩; (first | replace K := Lib.hid (K.out.below hbel) | replace K := Lib.hid ((K.out.alloc _).below hbel) | replace K := Lib.hid (((K.out.alloc _).alloc _).below hbel) | replace K := Lib.hid ((K.out.drewN _).below hbel) | replace K := Lib.hid (((K.out.drewN _).alloc _).below hbel) | replace K := Lib.hid (((K.out.alloc _).drewN _).below hbel) | replace K := Lib.hid ((((K.out.alloc _).alloc _).drewN _).below hbel) | replace K := Lib.hid ((((K.out.alloc _).alloc _).alloc _).below hbel) | replace K := Lib.hid ((((K.out.drewN _).alloc _).alloc _).below hbel)); (first | replace W := Lib.hid (W.out.below hbel) | replace W := Lib.hid ((W.out.alloc _).below hbel) | replace W := Lib.hid (((W.out.alloc _).alloc _).below hbel) | replace W := Lib.hid ((W.out.drewN _).below hbel) | replace W := Lib.hid (((W.out.drewN _).alloc _).below hbel) | replace W := Lib.hid (((W.out.alloc _).drewN _).below hbel) | replace W := Lib.hid ((((W.out.alloc _).alloc _).drewN _).below hbel) | replace W := Lib.hid ((((W.out.alloc _).alloc _).alloc _).below hbel) | replace W := Lib.hid ((((W.out.drewN _).alloc _).alloc _).below hbel)); clear hbel; replace K := Lib.hid (K.out.withF hg); clear hg)
      | (go_at_call 38; (with_reducible refine (CK.out _).mono ?_); rintro e wx ⟨rfl, rfl⟩))
    all_goals (go_ret; exact ⟨rfl, W.out⟩)
  have t0 : decide (30 < k + m) = false := decide_eq_false g0
  obtain ⟨k, rfl⟩ := Int.eq_ofNat_of_zero_le (by omega : 0 ≤ k)
  obtain ⟨m, rfl⟩ := Int.eq_ofNat_of_zero_le (by omega : 0 ≤ m)
  have h30 : k + m ≤ 30 := by omega
  by_cases g1 : nz = k
  rotate_left
  · have d0 : ((nz : Int) == (k : Int)) = false := by rw [beq_eq_false_iff_ne]; omega
    have d1 : ((nz : Int) != (k : Int)) = true := by rw [bne_iff_ne]; omega
    clear h hnz hzb g1
    have W := Lib.hid (Since.refl w)
    have K := Lib.hid ((Kn.nothing w).sl hz)
    go_enter Try.func20, Try.ntmps20
    go_wp2_with (first
      | (go_at_call 36; (with_reducible refine (awake5 _).mono ?_); rintro e w1 ⟨rfl, hbel⟩; (first | replace K := Lib.hid (K.out.below hbel) | replace K := Lib.hid ((K.out.alloc _).below hbel) | replace K := Lib.hid (((K.out.alloc _).alloc _).below hbel) | replace K := Lib.hid ((K.out.drewN _).below hbel) | replace K := Lib.hid (((K.out.drewN _).alloc _).below hbel) | replace K := Lib.hid (((K.out.alloc _).drewN _).below hbel) | replace K := Lib.hid ((((K.out.alloc _).alloc _).drewN _).below hbel) | replace K := Lib.hid ((((K.out.alloc _).alloc _).alloc _).below hbel) | replace K := Lib.hid ((((K.out.drewN _).alloc _).alloc _).below hbel)); (first | replace W := Lib.hid (W.out.below hbel) | replace W := Lib.hid ((W.out.alloc _).below hbel) | replace W := Lib.hid (((W.out.alloc _).alloc _).below hbel) | replace W := Lib.hid ((W.out.drewN _).below hbel) | replace W := Lib.hid (((W.out.drewN _).alloc _).below hbel) | replace W := Lib.hid (((W.out.alloc _).drewN _).below hbel) | replace W := Lib.hid ((((W.out.alloc _).alloc _).drewN _).below hbel) | replace W := Lib.hid ((((W.out.alloc _).alloc _).alloc _).below hbel) | replace W := Lib.hid ((((W.out.drewN _).alloc _).alloc _).below hbel)); clear hbel)
      | (go_at_call 37; (with_reducible refine (new_any _).mono ?_); rintro e w2 ⟨rfl, hbel, hg⟩; (first | replace K := Lib.hid (K.out.below hbel) | replace K := Lib.hid ((K.out.alloc _).below hbel) | replace K := Lib.hid (((K.out.alloc _).alloc _).below hbel) | replace K := Lib.hid ((K.out.drewN _).below hbel) | replace K := Lib.hid (((K.out.drewN _).alloc _).below hbel) | replace K := Lib.hid (((K.out.alloc _).drewN _).below hbel) | replace K := Lib.hid ((((K.out.alloc _).alloc _).drewN _).below hbel) | replace K := Lib.hid ((((K.out.alloc _).alloc _).alloc _).below hbel) | replace K := Lib.hid ((((K.out.drewN _).alloc _).alloc _).below hbel)); (first | replace W := Lib.hid (W.out.below hbel) | replace W := Lib.hid ((W.out.alloc _).below hbel) | replace W := Lib.hid (((W.out.alloc _).alloc _).below hbel) | replace W := Lib.hid ((W.out.drewN _).below hbel) | replace W := Lib.hid (((W.out.drewN _).alloc _).below hbel) | replace W := Lib.hid (((W.out.alloc _).drewN _).below hbel) | replace W := Lib.hid ((((W.out.alloc _).alloc _).drewN _).below hbel) | replace W := Lib.hid ((((W.out.alloc _).alloc _).alloc _).below hbel) | replace W := Lib.hid ((((W.out.drewN _).alloc _).alloc _).below hbel)); clear hbel; replace K := Lib.hid (K.out.withF hg); clear hg)
      | (go_at_call 38; (with_reducible refine (CK.out _).mono ?_); rintro e wx ⟨rfl, rfl⟩))
    all_goals (go_ret; exact ⟨rfl, W.out⟩)
  obtain rfl : k = nz := g1.symm
  have d0 : ((k : Int) == (k : Int)) = true := by rw [beq_iff_eq]
  have d1 : ((k : Int) != (k : Int)) = false := by rw [bne_self_eq_false]
  by_cases hR : Rise zs ((k : Int) + (m : Int)) k
  rotate_left
  · have RI : Hid (∀ (w : World), Sl w Az cz (zs.map (Value.int .i64)) → Calls Try.prog 68 #[.slice Az k cz, .int .i64 ((k : Int) + (m : Int))] w fun e w' => e = .returned (.bool false) ∧ Below w.heap.size w w') := fun w h1 => by
      refine (rising_w Az cz k zs _ w hnz h1 (by omega)).mono ?_
      rintro e w' ⟨⟨hr, rfl⟩ | ⟨hr, rfl⟩, hb⟩
      · exact absurd hr hR
      · exact ⟨rfl, hb⟩
    clear h hnz hzb hR
    have W := Lib.hid (Since.refl w)
    have K := Lib.hid ((Kn.nothing w).sl hz)
    go_enter Try.func20, Try.ntmps20
    go_wp2_with (first
      | (go_at_call 36; (with_reducible refine (awake5 _).mono ?_); rintro e w1 ⟨rfl, hbel⟩; (first | replace K := Lib.hid (K.out.below hbel) | replace K := Lib.hid ((K.out.alloc _).below hbel) | replace K := Lib.hid (((K.out.alloc _).alloc _).below hbel) | replace K := Lib.hid ((K.out.drewN _).below hbel) | replace K := Lib.hid (((K.out.drewN _).alloc _).below hbel) | replace K := Lib.hid (((K.out.alloc _).drewN _).below hbel) | replace K := Lib.hid ((((K.out.alloc _).alloc _).drewN _).below hbel) | replace K := Lib.hid ((((K.out.alloc _).alloc _).alloc _).below hbel) | replace K := Lib.hid ((((K.out.drewN _).alloc _).alloc _).below hbel)); (first | replace W := Lib.hid (W.out.below hbel) | replace W := Lib.hid ((W.out.alloc _).below hbel) | replace W := Lib.hid (((W.out.alloc _).alloc _).below hbel) | replace W := Lib.hid ((W.out.drewN _).below hbel) | replace W := Lib.hid (((W.out.drewN _).alloc _).below hbel) | replace W := Lib.hid (((W.out.alloc _).drewN _).below hbel) | replace W := Lib.hid ((((W.out.alloc _).alloc _).drewN _).below hbel) | replace W := Lib.hid ((((W.out.alloc _).alloc _).alloc _).below hbel) | replace W := Lib.hid ((((W.out.drewN _).alloc _).alloc _).below hbel)); clear hbel)
      | (go_at_call 37; (with_reducible refine (new_any _).mono ?_); rintro e w2 ⟨rfl, hbel, hg⟩; (first | replace K := Lib.hid (K.out.below hbel) | replace K := Lib.hid ((K.out.alloc _).below hbel) | replace K := Lib.hid (((K.out.alloc _).alloc _).below hbel) | replace K := Lib.hid ((K.out.drewN _).below hbel) | replace K := Lib.hid (((K.out.drewN _).alloc _).below hbel) | replace K := Lib.hid (((K.out.alloc _).drewN _).below hbel) | replace K := Lib.hid ((((K.out.alloc _).alloc _).drewN _).below hbel) | replace K := Lib.hid ((((K.out.alloc _).alloc _).alloc _).below hbel) | replace K := Lib.hid ((((K.out.drewN _).alloc _).alloc _).below hbel)); (first | replace W := Lib.hid (W.out.below hbel) | replace W := Lib.hid ((W.out.alloc _).below hbel) | replace W := Lib.hid (((W.out.alloc _).alloc _).below hbel) | replace W := Lib.hid ((W.out.drewN _).below hbel) | replace W := Lib.hid (((W.out.drewN _).alloc _).below hbel) | replace W := Lib.hid (((W.out.alloc _).drewN _).below hbel) | replace W := Lib.hid ((((W.out.alloc _).alloc _).drewN _).below hbel) | replace W := Lib.hid ((((W.out.alloc _).alloc _).alloc _).below hbel) | replace W := Lib.hid ((((W.out.drewN _).alloc _).alloc _).below hbel)); clear hbel; replace K := Lib.hid (K.out.withF hg); clear hg)
      | (go_at_call 38; (with_reducible refine (CK.out _).mono ?_); rintro e wx ⟨rfl, rfl⟩)
      | (go_at_call 68; (with_reducible refine (RI.out _ ?_).mono ?_); (first | exact K.out.sat (.head _) | exact (K.out.alloc _).sat (.head _) | exact ((K.out.alloc _).alloc _).sat (.head _) | exact (((K.out.alloc _).alloc _).alloc _).sat (.head _) | exact (K.out.drewN _).sat (.head _) | exact ((K.out.drewN _).alloc _).sat (.head _) | exact ((K.out.alloc _).drewN _).sat (.head _)); rintro e w3 ⟨rfl, hbel⟩; (first | replace K := Lib.hid (K.out.below hbel) | replace K := Lib.hid ((K.out.alloc _).below hbel) | replace K := Lib.hid (((K.out.alloc _).alloc _).below hbel) | replace K := Lib.hid ((K.out.drewN _).below hbel) | replace K := Lib.hid (((K.out.drewN _).alloc _).below hbel) | replace K := Lib.hid (((K.out.alloc _).drewN _).below hbel) | replace K := Lib.hid ((((K.out.alloc _).alloc _).drewN _).below hbel) | replace K := Lib.hid ((((K.out.alloc _).alloc _).alloc _).below hbel) | replace K := Lib.hid ((((K.out.drewN _).alloc _).alloc _).below hbel)); (first | replace W := Lib.hid (W.out.below hbel) | replace W := Lib.hid ((W.out.alloc _).below hbel) | replace W := Lib.hid (((W.out.alloc _).alloc _).below hbel) | replace W := Lib.hid ((W.out.drewN _).below hbel) | replace W := Lib.hid (((W.out.drewN _).alloc _).below hbel) | replace W := Lib.hid (((W.out.alloc _).drewN _).below hbel) | replace W := Lib.hid ((((W.out.alloc _).alloc _).drewN _).below hbel) | replace W := Lib.hid ((((W.out.alloc _).alloc _).alloc _).below hbel) | replace W := Lib.hid ((((W.out.drewN _).alloc _).alloc _).below hbel)); clear hbel))
    all_goals (go_ret; exact ⟨rfl, W.out⟩)
  have RI : Hid (∀ (w : World), Sl w Az cz (zs.map (Value.int .i64)) → Calls Try.prog 68 #[.slice Az k cz, .int .i64 ((k : Int) + (m : Int))] w fun e w' => e = .returned (.bool true) ∧ Below w.heap.size w w') := fun w h1 => by
    refine (rising_w Az cz k zs _ w hnz h1 (by omega)).mono ?_
    rintro e w' ⟨⟨hr, rfl⟩ | ⟨hr, rfl⟩, hb⟩
    · exact ⟨rfl, hb⟩
    · exact absurd hR hr
  have hR2 : Rise zs ((k + m : Nat) : Int) k := by rw [Int.natCast_add]; exact hR
  obtain ⟨g, hinv⟩ := gen_rows_inv (by omega) hR2
  obtain ⟨kk, hkk⟩ : ∃ n, k * k = n := ⟨_, rfl⟩
  have LP : (matL k k fun i j => genF k (zr zs i) j).length = k * k := length_matL _ _ _
  have LV : (matL k k g).length = k * k := length_matL _ _ _
  have hi2 : IsInv k (mx k (matL k k fun i j => genF k (zr zs i) j)) (mx k (matL k k g)) := hinv.congr (fun i j hi hj => (mx_matL (fun i j => genF k (zr zs i) j) i j hi hj).symm) fun i j hi hj => (mx_matL _ i j hi hj).symm
  have PG : Hid (∀ (b : Nat) (w : World), GfAt w b → Calls Try.prog 43 #[fp b, .int .i64 k, .int .i64 (m : Int)] w fun e w' => ∃ A' c', e = .returned (.tuple #[.agg #[.int .i64 ((k : Int) + (m : Int)), .int .i64 (k : Int), .slice A' ((k + m) * k) c'], .int .i64 0]) ∧ Bs w' A' c' (matL (k + m) k (genF k)) ∧ Below w.heap.size w w') := fun b w hg => by
    refine (cauchy_Generator b k m ⟨by omega, by omega, by omega⟩ w hg).mono ?_
    rintro e w' ⟨A', c', he, ho, hb⟩
    exact ⟨A', c', he, own_sl ho, hb⟩
  have PK : Hid (∀ (A1 : Option Addr) (c1 : Nat) (w : World), Bs w A1 c1 (matL (k + m) k (genF k)) → Sl w Az cz (zs.map (Value.int .i64)) → Calls Try.prog 62 #[matV ((k : Int) + (m : Int)) k A1 ((k + m) * k) c1, .slice Az k cz] w fun e w' => ∃ A' c', e = .returned (.tuple #[matV k k A' kk c', .int .i64 0]) ∧ Bs w' A' c' (matL k k fun i j => genF k (zr zs i) j) ∧ Below w.heap.size w w') := fun A1 c1 w h1 h2 => by
    have hh := mx_pick (k + m) k A1 c1 (genF k) Az cz zs w (by omega) (by omega) (by omega) h1 h2 hzb
    rw [hnz, Int.natCast_add] at hh
    refine hh.mono ?_
    rintro e w' (⟨_, A', c', he, ho, hb⟩ | ⟨hn, _⟩)
    · rw [hnz, hkk] at he
      have hs := own_sl ho
      rw [hnz] at hs
      exact ⟨A', c', he, hs, hb⟩
    · exact absurd (by rw [hnz]; exact hR2.goods) hn
  generalize (matL k k fun i j => genF k (zr zs i) j) = lp at *
  generalize matL k k g = lv at *
  have IV : Hid (∀ (b : Nat) (A1 : Option Addr) (c1 : Nat) (w : World), GfAt w b → Bs w A1 c1 lp → Calls Try.prog 60 #[fp b, matV k k A1 kk c1] w fun e w' => ∃ A' c', e = .returned (.tuple #[matV k k A' kk c', .int .i64 0]) ∧ Bs w' A' c' lv ∧ Below w.heap.size w w') := fun b A1 c1 w hg h1 => law_inv3 b _ _ A1 c1 lp lv w (by omega) LP LV hkk hi2 hg h1
  generalize matL (k + m) k (genF k) = lg at *
  generalize (k + m) * k = nG at *
  clear h hR hR2 hinv LP LV hi2 hnz hzb hkk
  have W := Lib.hid (Since.refl w)
  have K := Lib.hid ((Kn.nothing w).sl hz)
  go_enter Try.func20, Try.ntmps20
  go_wp2_with (first
    | (go_at_call 36; (with_reducible refine (awake5 _).mono ?_); rintro e w1 ⟨rfl, hbel⟩; (first | replace K := Lib.hid (K.out.below hbel) | replace K := Lib.hid ((K.out.alloc _).below hbel) | replace K := Lib.hid (((K.out.alloc _).alloc _).below hbel) | replace K := Lib.hid ((K.out.drewN _).below hbel) | replace K := Lib.hid (((K.out.drewN _).alloc _).below hbel) | replace K := Lib.hid (((K.out.alloc _).drewN _).below hbel) | replace K := Lib.hid ((((K.out.alloc _).alloc _).drewN _).below hbel) | replace K := Lib.hid ((((K.out.alloc _).alloc _).alloc _).below hbel) | replace K := Lib.hid ((((K.out.drewN _).alloc _).alloc _).below hbel)); (first | replace W := Lib.hid (W.out.below hbel) | replace W := Lib.hid ((W.out.alloc _).below hbel) | replace W := Lib.hid (((W.out.alloc _).alloc _).below hbel) | replace W := Lib.hid ((W.out.drewN _).below hbel) | replace W := Lib.hid (((W.out.drewN _).alloc _).below hbel) | replace W := Lib.hid (((W.out.alloc _).drewN _).below hbel) | replace W := Lib.hid ((((W.out.alloc _).alloc _).drewN _).below hbel) | replace W := Lib.hid ((((W.out.alloc _).alloc _).alloc _).below hbel) | replace W := Lib.hid ((((W.out.drewN _).alloc _).alloc _).below hbel)); clear hbel)
    | (go_at_call 37; (with_reducible refine (new_any _).mono ?_); rintro e w2 ⟨rfl, hbel, hg⟩; (first | replace K := Lib.hid (K.out.below hbel) | replace K := Lib.hid ((K.out.alloc _).below hbel) | replace K := Lib.hid (((K.out.alloc _).alloc _).below hbel) | replace K := Lib.hid ((K.out.drewN _).below hbel) | replace K := Lib.hid (((K.out.drewN _).alloc _).below hbel) | replace K := Lib.hid (((K.out.alloc _).drewN _).below hbel) | replace K := Lib.hid ((((K.out.alloc _).alloc _).drewN _).below hbel) | replace K := Lib.hid ((((K.out.alloc _).alloc _).alloc _).below hbel) | replace K := Lib.hid ((((K.out.drewN _).alloc _).alloc _).below hbel)); (first | replace W := Lib.hid (W.out.below hbel) | replace W := Lib.hid ((W.out.alloc _).below hbel) | replace W := Lib.hid (((W.out.alloc _).alloc _).below hbel) | replace W := Lib.hid ((W.out.drewN _).below hbel) | replace W := Lib.hid (((W.out.drewN _).alloc _).below hbel) | replace W := Lib.hid (((W.out.alloc _).drewN _).below hbel) | replace W := Lib.hid ((((W.out.alloc _).alloc _).drewN _).below hbel) | replace W := Lib.hid ((((W.out.alloc _).alloc _).alloc _).below hbel) | replace W := Lib.hid ((((W.out.drewN _).alloc _).alloc _).below hbel)); clear hbel; replace K := Lib.hid (K.out.withF hg); clear hg)
    | (go_at_call 38; (with_reducible refine (CK.out _).mono ?_); rintro e wx ⟨rfl, rfl⟩)
    | (go_at_call 68; (with_reducible refine (RI.out _ ?_).mono ?_); (first | exact K.out.sat (.head _) | exact (K.out.alloc _).sat (.head _) | exact ((K.out.alloc _).alloc _).sat (.head _) | exact (((K.out.alloc _).alloc _).alloc _).sat (.head _) | exact (K.out.drewN _).sat (.head _) | exact ((K.out.drewN _).alloc _).sat (.head _) | exact ((K.out.alloc _).drewN _).sat (.head _)); rintro e w3 ⟨rfl, hbel⟩; (first | replace K := Lib.hid (K.out.below hbel) | replace K := Lib.hid ((K.out.alloc _).below hbel) | replace K := Lib.hid (((K.out.alloc _).alloc _).below hbel) | replace K := Lib.hid ((K.out.drewN _).below hbel) | replace K := Lib.hid (((K.out.drewN _).alloc _).below hbel) | replace K := Lib.hid (((K.out.alloc _).drewN _).below hbel) | replace K := Lib.hid ((((K.out.alloc _).alloc _).drewN _).below hbel) | replace K := Lib.hid ((((K.out.alloc _).alloc _).alloc _).below hbel) | replace K := Lib.hid ((((K.out.drewN _).alloc _).alloc _).below hbel)); (first | replace W := Lib.hid (W.out.below hbel) | replace W := Lib.hid ((W.out.alloc _).below hbel) | replace W := Lib.hid (((W.out.alloc _).alloc _).below hbel) | replace W := Lib.hid ((W.out.drewN _).below hbel) | replace W := Lib.hid (((W.out.drewN _).alloc _).below hbel) | replace W := Lib.hid (((W.out.alloc _).drewN _).below hbel) | replace W := Lib.hid ((((W.out.alloc _).alloc _).drewN _).below hbel) | replace W := Lib.hid ((((W.out.alloc _).alloc _).alloc _).below hbel) | replace W := Lib.hid ((((W.out.drewN _).alloc _).alloc _).below hbel)); clear hbel)
    | (go_at_call 43; (with_reducible refine (PG.out _ _ ?_).mono ?_); (first | exact K.out.gf | exact (K.out.alloc _).gf | exact (K.out.drewN _).gf | exact ((K.out.alloc _).alloc _).gf | exact ((K.out.alloc _).drewN _).gf | exact (((K.out.alloc _).alloc _).alloc _).gf); rintro e w4 ⟨AG, cg, rfl, hbs, hbel⟩; (first | replace K := Lib.hid (K.out.below hbel) | replace K := Lib.hid ((K.out.alloc _).below hbel) | replace K := Lib.hid (((K.out.alloc _).alloc _).below hbel) | replace K := Lib.hid ((K.out.drewN _).below hbel) | replace K := Lib.hid (((K.out.drewN _).alloc _).below hbel) | replace K := Lib.hid (((K.out.alloc _).drewN _).below hbel) | replace K := Lib.hid ((((K.out.alloc _).alloc _).drewN _).below hbel) | replace K := Lib.hid ((((K.out.alloc _).alloc _).alloc _).below hbel) | replace K := Lib.hid ((((K.out.drewN _).alloc _).alloc _).below hbel)); (first | replace W := Lib.hid (W.out.below hbel) | replace W := Lib.hid ((W.out.alloc _).below hbel) | replace W := Lib.hid (((W.out.alloc _).alloc _).below hbel) | replace W := Lib.hid ((W.out.drewN _).below hbel) | replace W := Lib.hid (((W.out.drewN _).alloc _).below hbel) | replace W := Lib.hid (((W.out.alloc _).drewN _).below hbel) | replace W := Lib.hid ((((W.out.alloc _).alloc _).drewN _).below hbel) | replace W := Lib.hid ((((W.out.alloc _).alloc _).alloc _).below hbel) | replace W := Lib.hid ((((W.out.drewN _).alloc _).alloc _).below hbel)); replace K := Lib.hid (K.out.sl hbs); replace K := Lib.hid ((K.out.alloc (.cells #[.int .i64 ((k : Int) + (m : Int)), .int .i64 (k : Int), .slice AG nG cg] 30)).blk (Blk.new w4 #[.int .i64 ((k : Int) + (m : Int)), .int .i64 (k : Int), .slice AG nG cg] 30)); replace W := Lib.hid (W.out.alloc (.cells #[.int .i64 ((k : Int) + (m : Int)), .int .i64 (k : Int), .slice AG nG cg] 30)); clear hbel; have p0 := (K.out.at (.head _)).cell 0; have p1 := (K.out.at (.head _)).cell 1; have p2 := (K.out.at (.head _)).cell 2; simp only [List.getElem?_toArray, List.getElem?_cons_succ, List.getElem?_cons_zero] at p0 p1 p2)
    | (go_at_call 62; (with_reducible refine (PK.out _ _ _ ?_ ?_).mono ?_); (first | exact K.out.sat (.head _) | exact (K.out.alloc _).sat (.head _) | exact ((K.out.alloc _).alloc _).sat (.head _) | exact (((K.out.alloc _).alloc _).alloc _).sat (.head _) | exact (K.out.drewN _).sat (.head _) | exact ((K.out.drewN _).alloc _).sat (.head _) | exact ((K.out.alloc _).drewN _).sat (.head _)); (first | exact K.out.sat (.tail _ (.head _)) | exact (K.out.alloc _).sat (.tail _ (.head _)) | exact ((K.out.alloc _).alloc _).sat (.tail _ (.head _)) | exact (((K.out.alloc _).alloc _).alloc _).sat (.tail _ (.head _)) | exact (K.out.drewN _).sat (.tail _ (.head _)) | exact ((K.out.drewN _).alloc _).sat (.tail _ (.head _)) | exact ((K.out.alloc _).drewN _).sat (.tail _ (.head _))); rintro e w5 ⟨AP, cp, rfl, hbs, hbel⟩; (first | replace K := Lib.hid (K.out.below hbel) | replace K := Lib.hid ((K.out.alloc _).below hbel) | replace K := Lib.hid (((K.out.alloc _).alloc _).below hbel) | replace K := Lib.hid ((K.out.drewN _).below hbel) | replace K := Lib.hid (((K.out.drewN _).alloc _).below hbel) | replace K := Lib.hid (((K.out.alloc _).drewN _).below hbel) | replace K := Lib.hid ((((K.out.alloc _).alloc _).drewN _).below hbel) | replace K := Lib.hid ((((K.out.alloc _).alloc _).alloc _).below hbel) | replace K := Lib.hid ((((K.out.drewN _).alloc _).alloc _).below hbel)); (first | replace W := Lib.hid (W.out.below hbel) | replace W := Lib.hid ((W.out.alloc _).below hbel) | replace W := Lib.hid (((W.out.alloc _).alloc _).below hbel) | replace W := Lib.hid ((W.out.drewN _).below hbel) | replace W := Lib.hid (((W.out.drewN _).alloc _).below hbel) | replace W := Lib.hid (((W.out.alloc _).drewN _).below hbel) | replace W := Lib.hid ((((W.out.alloc _).alloc _).drewN _).below hbel) | replace W := Lib.hid ((((W.out.alloc _).alloc _).alloc _).below hbel) | replace W := Lib.hid ((((W.out.drewN _).alloc _).alloc _).below hbel)); replace K := Lib.hid (K.out.sl hbs); replace K := Lib.hid ((K.out.alloc (.cells #[.int .i64 k, .int .i64 k, .slice AP kk cp] 30)).blk (Blk.new w5 #[.int .i64 k, .int .i64 k, .slice AP kk cp] 30)); replace W := Lib.hid (W.out.alloc (.cells #[.int .i64 k, .int .i64 k, .slice AP kk cp] 30)); clear hbel; clear p0 p1 p2; have p0 := (K.out.at (.head _)).cell 0; have p1 := (K.out.at (.head _)).cell 1; have p2 := (K.out.at (.head _)).cell 2; simp only [List.getElem?_toArray, List.getElem?_cons_succ, List.getElem?_cons_zero] at p0 p1 p2)
    | (go_at_call 60; (with_reducible refine (IV.out _ _ _ _ ?_ ?_).mono ?_); (first | exact K.out.gf | exact (K.out.alloc _).gf | exact (K.out.drewN _).gf | exact ((K.out.alloc _).alloc _).gf | exact ((K.out.alloc _).drewN _).gf | exact (((K.out.alloc _).alloc _).alloc _).gf); (first | exact K.out.sat (.head _) | exact (K.out.alloc _).sat (.head _) | exact ((K.out.alloc _).alloc _).sat (.head _) | exact (((K.out.alloc _).alloc _).alloc _).sat (.head _) | exact (K.out.drewN _).sat (.head _) | exact ((K.out.drewN _).alloc _).sat (.head _) | exact ((K.out.alloc _).drewN _).sat (.head _)); rintro e w6 ⟨AV, cv, rfl, hbs, hbel⟩; (first | replace K := Lib.hid (K.out.below hbel) | replace K := Lib.hid ((K.out.alloc _).below hbel) | replace K := Lib.hid (((K.out.alloc _).alloc _).below hbel) | replace K := Lib.hid ((K.out.drewN _).below hbel) | replace K := Lib.hid (((K.out.drewN _).alloc _).below hbel) | replace K := Lib.hid (((K.out.alloc _).drewN _).below hbel) | replace K := Lib.hid ((((K.out.alloc _).alloc _).drewN _).below hbel) | replace K := Lib.hid ((((K.out.alloc _).alloc _).alloc _).below hbel) | replace K := Lib.hid ((((K.out.drewN _).alloc _).alloc _).below hbel)); (first | replace W := Lib.hid (W.out.below hbel) | replace W := Lib.hid ((W.out.alloc _).below hbel) | replace W := Lib.hid (((W.out.alloc _).alloc _).below hbel) | replace W := Lib.hid ((W.out.drewN _).below hbel) | replace W := Lib.hid (((W.out.drewN _).alloc _).below hbel) | replace W := Lib.hid (((W.out.alloc _).drewN _).below hbel) | replace W := Lib.hid ((((W.out.alloc _).alloc _).drewN _).below hbel) | replace W := Lib.hid ((((W.out.alloc _).alloc _).alloc _).below hbel) | replace W := Lib.hid ((((W.out.drewN _).alloc _).alloc _).below hbel)); replace K := Lib.hid (K.out.sl hbs); replace K := Lib.hid ((K.out.alloc (.cells #[.int .i64 k, .int .i64 k, .slice AV kk cv] 30)).blk (Blk.new w6 #[.int .i64 k, .int .i64 k, .slice AV kk cv] 30)); replace W := Lib.hid (W.out.alloc (.cells #[.int .i64 k, .int .i64 k, .slice AV kk cv] 30)); clear hbel; clear p0 p1 p2; have p0 := (K.out.at (.head _)).cell 0; have p1 := (K.out.at (.head _)).cell 1; have p2 := (K.out.at (.head _)).cell 2; simp only [List.getElem?_toArray, List.getElem?_cons_succ, List.getElem?_cons_zero] at p0 p1 p2))
  all_goals (go_ret; exact ⟨rfl, W.out⟩)
end Go.Proofs.Ytmkjplpnoohfnaa
