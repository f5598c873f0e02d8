/- aumbryref08, walked: Power, Weight, Weights, Of. -/
import Derived.Test.YtmkjplpnoohfnaaSynO
import Derived.Test.YtmkjplpnoohfnaaRef05
namespace Go.Proofs.Ytmkjplpnoohfnaa
open Go.RowKit
set_option linter.unusedVariables false
set_option linter.unusedSimpArgs false
theorem ref08_power (a : F) (n : Nat) (hn : n ≤ 1000) (w : World) : Calls Try.prog 101 #[.int .u8 a.n, .int .i64 n] w fun e w' => e = .returned (.int .u8 (a.pow n).n) ∧ w = w' := by
  go_enter Try.func101, Try.ntmps101
  go_wp2
  go_loop [5, 6] (fun p x => ∃ i : Nat, i ≤ n ∧ x = .int .i64 i ∧ p = .int .u8 (a.pow i).n) (fun _ x => n - (intOf x).toNat)
  case atStart => exact ⟨0, Nat.zero_le _, rfl, rfl⟩
  case round =>
    obtain ⟨i, hi, rfl, rfl⟩ := hrel
    have hp : a.pow (i + 1) = a.pow i * a := by rw [F.pow_succ, F.mul_comm]
    have HP := Lib.hid hp
    clear hp
    by_cases hlt : i < n
    · generalize a.pow i = p at *
      go_wp2_with (go_at_call 100; (with_reducible refine (ref_mul _ _ _).mono ?_); rintro e w1 ⟨rfl, rfl⟩)
      go_round
      case rel => exact ⟨i + 1, by omega, by go_num, by rw [HP.out]⟩
      case measure => simp [intOf]; omega
    · have hie : i = n := by omega
      subst hie
      clear HP
      go_wp2
      go_ret
      exact ⟨rfl, rfl⟩
theorem ref08_weight (k m i : Nat) (hkm : k + m ≤ 256) (hi : i < 256) (w : World) :
    Calls Try.prog 99 #[.int .i64 k, .int .i64 m, .int .i64 i] w fun e w' => e = .returned (.int .u8 (wt k m i).n) ∧ w = w' := by
  have hwt : wt k m i = F.inv (prw k i (k + m - k)) := by rw [Nat.add_sub_cancel_left]; rfl
  have HW := Lib.hid hwt
  clear hwt
  go_enter Try.func99, Try.ntmps99
  go_wp2
  go_loop [7, 8] (fun p x => ∃ y : Nat, k ≤ y ∧ y ≤ k + m ∧ x = .int .i64 y ∧ p = .int .u8 (prw k i (y - k)).n) (fun _ x => k + m - (intOf x).toNat)
  case atStart => exact ⟨k, Nat.le_refl _, by omega, rfl, by rw [Nat.sub_self]; rfl⟩
  case round =>
    obtain ⟨y, hy1, hy2, rfl, rfl⟩ := hrel
    by_cases hlt : y < k + m
    · by_cases he : y = i
      · have hp := prw_eq hy1 he
        subst he
        have HP := Lib.hid hp
        clear hp
        generalize prw k y (y - k) = p at *
        go_wp2
        go_round
        case rel => exact ⟨y + 1, by omega, by omega, by go_num, by rw [HP.out]⟩
        case measure => simp [intOf]; omega
      · have hp := prw_ne hy1 he
        have HP := Lib.hid hp
        have hm : ∀ w, Calls Try.prog 100 #[.int .u8 (prw k i (y - k)).n, .int .u8 (F.of i + F.of y).n] w fun e w' => e = .returned (.int .u8 (prw k i (y - k) * (F.of y + F.of i)).n) ∧ w = w' := fun w => by
          have h := ref_mul (prw k i (y - k)) (F.of i + F.of y) w
          rwa [F.add_comm (F.of i)] at h ⊢
        have e1 := xor_n (F.of i) (F.of y)
        rw [F.n_of hi, F.n_of (by omega)] at e1
        have e2 : IntKind.u8.wrap (y : Int) = (y : Int) := wrapu8 _ (by omega)
        have e3 : IntKind.u8.wrap (i : Int) = (i : Int) := wrapu8 _ hi
        have ne1 : ((y : Int) != (i : Int)) = true := by rw [bne_iff_ne]; omega
        have ne2 : (y != i) = true := by rw [bne_iff_ne]; exact he
        have HM := Lib.hid hm
        clear hp hm he
        generalize prw k i (y - k) = p at *
        go_wp2_with (go_at_call 100; (with_reducible refine (HM.out _).mono ?_); rintro e w1 ⟨rfl, rfl⟩)
        go_round
        case rel => exact ⟨y + 1, by omega, by omega, by go_num, by rw [HP.out]⟩
        case measure => simp [intOf]; omega
    · have hye : wt k m i = F.inv (prw k i (y - k)) := by rw [HW.out]; congr 2; omega
      have hm := ref_inv (prw k i (y - k))
      rw [← hye] at hm
      have HM := Lib.hid hm
      clear hm hye
      generalize prw k i (y - k) = p at *
      go_wp2_with (go_at_call 119; (with_reducible refine (HM.out _).mono ?_); rintro e w1 ⟨rfl, rfl⟩)
      all_goals (go_ret; exact ⟨rfl, rfl⟩)
set_option maxRecDepth 1000000 in
theorem ref08_weights (k m : Nat) (hkm : okkm k m) (w : World) :
    Calls Try.prog 51 #[.int .i64 k, .int .i64 m] w fun e w' => ∃ A' c', e = .returned (.tuple #[.slice A' (k + m) c', .int .i64 0]) ∧ w'.ownsRow w.heap.size 5 1 (.slice A' (k + m) c') (k + m) ((wtL k m).map bv) ∧ Below w.heap.size w w' := by
  obtain ⟨k1, k2, k3⟩ := hkm
  have CK : Hid (∀ w, Calls Try.prog 39 #[.int .i64 k, .int .i64 m] w fun e w' => e = .returned (.int .i64 0) ∧ w = w') := fun w => ref05_check_ok k m ⟨k1, k2, k3⟩ w
  go_enter Try.func51, Try.ntmps51
  go_wp2_with (go_at_call 39; (with_reducible refine (CK.out _).mono ?_); rintro e w1 ⟨rfl, rfl⟩)
  go_loopw [7, 8] (fun v x wr => ∃ (i : Nat) (A' : Option Addr) (c' : Nat), i ≤ k + m ∧ x = .int .i64 i ∧ v = .slice A' i c' ∧ wr.ownsRow w.heap.size 5 1 (.slice A' i c') i ((tab i (wt k m)).map bv) ∧ Below w.heap.size w wr) (fun _ x _ => k + m - (intOf x).toNat)
  case atStart => exact ⟨0, none, 0, Nat.zero_le _, rfl, rfl, World.ownsRow_nil _ _ _ _, Below.refl _ _⟩
  case round =>
    obtain ⟨i, A1, c1, hi, rfl, rfl, ho, hb⟩ := hrel
    have HO := Lib.hid ho
    have HB := Lib.hid hb
    have hsz := hb.size
    clear ho hb
    by_cases hlt : i < k + m
    · have d1 : (i : Int) < (k : Int) + (m : Int) := by omega
      have HT : Hid (tab (i + 1) (wt k m) = tab i (wt k m) ++ [wt k m i]) := tab_succ' _ _
      have WE : Hid (∀ w, Calls Try.prog 99 #[.int .i64 k, .int .i64 m, .int .i64 i] w fun e w' => e = .returned (.int .u8 (wt k m i).n) ∧ w = w') := fun w => ref08_weight k m i (by omega) (by omega) w
      generalize wt k m i = y at *
      go_wp2_with (first
        | (go_at_call 99; (with_reducible refine (WE.out _).mono ?_); rintro e w1 ⟨rfl, rfl⟩)
        | (at_builtin; refine app_bytes _ rfl _ _ rfl w.heap.size A1 c1 (i) (tab i (wt k m)) rfl (HO.out.alloc _) _ _ 1 [y] rfl (lit_bs rfl rfl rfl (by decide)) rfl (by omega) (by simp; omega) ?_; intro A3 c3 w3 hown3 hb3; have HO3 := Lib.hid hown3; have HB3 : Hid (Below w.heap.size w w3) := (HB.out.alloc HB.out.size _).trans hb3; clear hown3 hb3))
      go_roundw
      case rel => exact ⟨i + 1, A3, c3, by omega, by go_num, rfl, by rw [HT.out]; exact HO3.out, HB3.out⟩
      case measure => simp [intOf]; omega
    · have hie : i = k + m := by omega
      have d1 : ¬ (i : Int) < (k : Int) + (m : Int) := by omega
      have hI := Lib.hid hie
      clear hie
      go_wp2
      go_ret2
      exact ⟨A1, c1, by rw [hI.out]; rfl, by have h := HO.out; rw [hI.out] at h; exact h, HB.out⟩
set_option maxRecDepth 1000000 in
set_option maxHeartbeats 1000000 in
theorem ref08_of (k m : Nat) (A : Option Addr) (c : Nat) (l : List F) (hkm : okkm k m) (hl : l.length = k + m) (w : World) (ha : Bs w A c l) :
    Calls Try.prog 53 #[.int .i64 k, .int .i64 m, .slice A (k + m) c] w fun e w' => ∃ A' c', e = .returned (.tuple #[.slice A' m c', .int .i64 0]) ∧ w'.ownsRow w.heap.size 5 1 (.slice A' m c') m ((synL k m l).map bv) ∧ Below w.heap.size w w' := by
  have WE := Lib.hid (ref08_weights k m hkm w)
  obtain ⟨k1, k2, k3⟩ := hkm
  have HA := Lib.hid ha
  have HL := Lib.hid hl
  have e1 : ((k : Int) + (m : Int) == (k : Int) + (m : Int)) = true := by simp
  have e2 : ((k : Int) + (m : Int) != (k : Int) + (m : Int)) = false := by simp
  clear ha hl
  go_enter Try.func53, Try.ntmps53
  go_wp2_with (go_at_call 51; (with_reducible refine WE.out.mono ?_); rintro e w1 ⟨A1, c1, rfl, hown, hbel⟩; have HO1 := Lib.hid (own_sl hown); have HW1 := Lib.hid hbel; clear hown hbel)
  go_loopw [10, 11] (fun v x wr => ∃ (t : Nat) (A' : Option Addr) (c' : Nat), t ≤ m ∧ x = .int .i64 t ∧ v = .slice A' t c' ∧ wr.ownsRow w1.heap.size 5 1 (.slice A' t c') t ((tab t (syn k m fun i => l.getD i 0)).map bv) ∧ Below w1.heap.size w1 wr) (fun _ x _ => m - (intOf x).toNat)
  case atStart => exact ⟨0, none, 0, Nat.zero_le _, rfl, rfl, World.ownsRow_nil _ _ _ _, Below.refl _ _⟩
  case round =>
    obtain ⟨t, A2, c2, ht, rfl, rfl, ho, hb⟩ := hrel
    have HO := Lib.hid ho
    have HB := Lib.hid hb
    have hsz := hb.size
    clear ho hb
    by_cases hlt : t < m
    · go_wp2
      go_loopw [12, 13] (fun u x wi => ∃ i : Nat, i ≤ k + m ∧ x = .int .i64 i ∧ u = .int .u8 (sumF i fun i => sterm k m l i t).n ∧ wi.ownsRow w1.heap.size 5 1 (.slice A2 t c2) t ((tab t (syn k m fun i => l.getD i 0)).map bv) ∧ Below w1.heap.size w1 wi) (fun _ x _ => k + m - (intOf x).toNat)
      case atStart => exact ⟨0, Nat.zero_le _, rfl, rfl, HO.out, HB.out⟩
      case round =>
        rename World => wi
        clear HO HB
        obtain ⟨i, hi, rfl, rfl, ho, hb⟩ := hrel
        have HO := Lib.hid ho
        have HB := Lib.hid hb
        have hsz := hb.size
        clear ho hb
        have hbw : Below w.heap.size w wi := HW1.out.trans (HB.out.mono HW1.out.size)
        by_cases hlt2 : i < k + m
        · obtain ⟨b1, o1, hA, _, hc1⟩ := Bs.at' (HA.out.below hbw) (by rw [HL.out]; omega)
          obtain ⟨b2, o2, hA1, _, hc2⟩ := Bs.at' (Sl.below HO1.out HB.out) (by rw [length_wtL]; omega)
          subst hA
          subst hA1
          have y1 := hc1 i (by rw [HL.out]; exact hlt2)
          have y2 := hc2 i (by rw [length_wtL]; exact hlt2)
          rw [wtL, getD_tab _ hlt2] at y2
          have PW : Hid (∀ w, Calls Try.prog 101 #[.int .u8 (i : Int), .int .i64 t] w fun e w' => e = .returned (.int .u8 ((F.of i).pow t).n) ∧ w = w') := fun w => by
            have h := ref08_power (F.of i) t (by omega) w
            rwa [F.n_of (by omega)] at h
          have e3 : IntKind.u8.wrap (i : Int) = (i : Int) := wrapu8 _ (by omega)
          have i1 : (i : Int) < (k : Int) + (m : Int) := by omega
          have HS : Hid ((sumF (i + 1) fun i => sterm k m l i t) = (sumF i fun i => sterm k m l i t) + l.getD i 0 * wt k m i * (F.of i).pow t) := rfl
          clear hc1 hc2 HA HO1 hbw
          generalize (sumF i fun i => sterm k m l i t) = s at *
          generalize (F.of i).pow t = p at *
          generalize l.getD i 0 = x at *
          generalize wt k m i = v at *
          have hxor := xor_n s (x * v * p)
          go_wp2
          go_quiet (first | (go_at_call 100; exact Calls.quiet_of_same ((ref_mul _ _ _).mono fun e w' h => ⟨h.1, h.2.symm⟩)) | (go_at_call 101; exact Calls.quiet_of_same ((PW.out _).mono fun e w' h => ⟨h.1, h.2.symm⟩)))
          go_wp2
          go_roundw
          case rel => exact ⟨i + 1, by omega, by go_num, by rw [HS.out], own_drewN HO.out _, below_drewN HB.out _⟩
          case measure => simp [intOf]; omega
        · have hie : i = k + m := by omega
          have d1 : ¬ (i : Int) < (k : Int) + (m : Int) := by omega
          have HS : Hid ((sumF i fun i => sterm k m l i t) = syn k m (fun i => l.getD i 0) t) := by show _ = _; rw [hie]; rfl
          have HT : Hid (tab (t + 1) (syn k m fun i => l.getD i 0) = tab t (syn k m fun i => l.getD i 0) ++ [syn k m (fun i => l.getD i 0) t]) := tab_succ' _ _
          clear hie
          rw [HS.out]
          generalize syn k m (fun i => l.getD i 0) t = y at *
          clear hbw
          go_wp2_with (at_builtin; refine app_bytes _ rfl _ _ rfl w1.heap.size A2 c2 (t) (tab t (syn k m fun i => l.getD i 0)) rfl (HO.out.alloc _) _ _ 1 [y] rfl (lit_bs rfl rfl rfl (by decide)) rfl (by omega) (by simp; omega) ?_; intro A3 c3 w3 hown3 hb3; have HO3 := Lib.hid hown3; have HB3 : Hid (Below w1.heap.size w1 w3) := (HB.out.alloc HB.out.size _).trans hb3; clear hown3 hb3)
          go_roundw
          case rel => exact ⟨t + 1, A3, c3, by omega, by go_num, rfl, by rw [HT.out]; exact HO3.out, HB3.out⟩
          case measure => simp [intOf]; omega
    · have hte : t = m := by omega
      subst hte
      go_wp2
      go_ret2
      exact ⟨A2, c2, rfl, own_mono HO.out HW1.out.size, HW1.out.trans (HB.out.mono HW1.out.size)⟩
end Go.Proofs.Ytmkjplpnoohfnaa
