/- aumbryref06.Encode, walked. -/
import Derived.Test.YtmkjplpnoohfnaaRowS
namespace Go.Proofs.Ytmkjplpnoohfnaa
open Go.RowKit
set_option linter.unusedVariables false
set_option linter.unusedSimpArgs false
theorem ref06_alike_r (A : Option Addr) (n c : Nat) (vs : List Value) (ls : List (List F)) (N : Int) (r : Bool) (w : World) (ha : Sl w A c vs) (hb : Bss w vs ls) (hn : ls.length = n) (hm : n ≤ 1000) (hr : r = true ↔ Alk ls N) :
    Calls Try.prog 112 #[.slice A n c, .int .i64 N] w fun e w' => e = .returned (.bool r) ∧ Below w.heap.size w w' := by
  refine (ref06_alike A n c vs ls N w ha hb hn hm).mono ?_
  rintro e w' ⟨⟨h, rfl⟩ | ⟨h, rfl⟩, hb⟩
  · exact ⟨by rw [hr.2 h], hb⟩
  · refine ⟨?_, hb⟩
    cases r with
    | true => exact absurd (hr.1 rfl) h
    | false => rfl
theorem accR_succ (k m L : Nat) (ls : List (List F)) (n i : Nat) : accR k (i + 1) L ls n = accR k i L ls n ++ [tab L fun x => sumF n fun t => parF k i t * (ls.getD t []).getD x 0] := by
  unfold accR; rw [List.range_succ, List.map_append]; rfl
theorem lit_own1 (w : World) (y : F) : Bs (w.alloc (.cells #[bv y] 5)) (some ⟨w.heap.size, 0, none⟩) 1 [y] := lit_bs rfl rfl rfl (by decide)
set_option maxRecDepth 1000000 in
set_option maxHeartbeats 4000000 in
theorem ref06_encode (k m : Nat) (A : Option Addr) (c : Nat) (vs : List Value) (ls : List (List F)) (w : World) (hkm : okkm k m) (ha : Sl w A c vs) (hb : Bss w vs ls) (hk : Alk ls k) (hl : ∀ l, l ∈ ls → l.length ≤ 100000) :
    Calls Try.prog 72 #[.int .i64 k, .int .i64 m, .slice A k c] w fun e w' => ∃ A' c' rs, e = .returned (.tuple #[.slice A' (k + m) c', .int .i64 0]) ∧ lsts rs = enc k m ls ∧ MadeR w w' A' (k + m) c' rs := by
  obtain ⟨hk1, hm0, hkm256⟩ := id hkm
  have hk1' : 1 ≤ k := by omega
  have hkb : k + m ≤ 256 := by omega
  have hn : ls.length = k := by have := hk.1; omega
  obtain ⟨L, hL⟩ : ∃ L, lenAt ls 0 = L := ⟨_, rfl⟩
  have hLb : L ≤ 100000 := by
    rw [← hL]; unfold lenAt
    exact hl _ (by rw [List.getD_eq_getElem?_getD, List.getElem?_eq_getElem (by omega)]; exact List.getElem_mem _)
  have hlen : ∀ i, i < k → lenAt ls i = L := fun i hi => by rw [hk.2 i (by omega)]; exact hL
  have PA := Lib.hid (ref05_Parity k m hkm w)
  have AL : Hid (∀ w', Below w.heap.size w w' → Calls Try.prog 112 #[.slice A k c, .int .i64 k] w' fun e w'' => e = .returned (.bool true) ∧ Below w'.heap.size w' w'') := fun w' hw => ref06_alike_r A k c vs ls k true w' (ha.below hw) (hb.below hw) hn (by omega) ⟨fun _ => hk, fun _ => rfl⟩
  have CP : Hid (∀ w', Below w.heap.size w w' → Calls Try.prog 79 #[.slice A k c] w' fun e w'' => ∃ A' c' rs, e = .returned (.slice A' k c') ∧ lsts rs = ls ∧ MadeR w' w'' A' k c' rs) := fun w' hw => ref06_copied A k c vs ls w' (ha.below hw) (hb.below hw) hn (by omega) hl
  have WD : Hid (∀ (i n : Nat) (Ap : Option Addr) (cp : Nat) (w' : World), i < m → n < L → Below w.heap.size w w' → Bs w' Ap cp (matL m k (parF k)) → Calls Try.prog 113 #[matV m k Ap (m * k) cp, .int .i64 i, .slice A k c, .int .i64 n] w' fun e w'' => e = .returned (.int .u8 (sumF k fun t => parF k i t * (ls.getD t []).getD n 0).n) ∧ Below w'.heap.size w' w'') := fun i n Ap cp w' hi hn' hw hp => ref06_word k m L i n Ap cp (parF k) A c vs ls w' hi hn' hlen hn (by omega) (by omega) hLb hp (ha.below hw) (hb.below hw)
  have HA := Lib.hid ha
  have HB := Lib.hid hb
  have HN := Lib.hid hn
  have HL := Lib.hid hL
  clear ha hb hn hk hl hkm hL hm0 hkm256 hk1 hlen
  have h0t : (0 : Int) < (k : Int) := by omega
  unfold matV at WD
  obtain ⟨mk, hmk⟩ : ∃ mk, m * k = mk := ⟨_, rfl⟩
  rw [hmk] at PA WD
  clear hmk
  go_enter Try.func72, Try.ntmps72
  go_wp2_with (first
    | (go_at_call 42; (with_reducible refine PA.out.mono ?_); rintro e w1 ⟨Ap, cp, rfl, ho1, hb1⟩; have BP := Lib.hid (Sl.alloc (own_sl ho1) (.cells #[.int .i64 (m : Int), .int .i64 (k : Int), .slice Ap mk cp] 30)); have KP := Lib.hid (Blk.new w1 #[.int .i64 (m : Int), .int .i64 (k : Int), .slice Ap mk cp] 30); have BW : Hid (Below w.heap.size w (w1.alloc (.cells #[.int .i64 (m : Int), .int .i64 (k : Int), .slice Ap mk cp] 30))) := hb1.alloc hb1.size _; clear ho1 hb1)
    | (go_at_call 112; (with_reducible refine (AL.out _ BW.out).mono ?_); rintro e w2 ⟨rfl, hb2⟩; have BP2 := Lib.hid (BP.out.below hb2); have KP2 := Lib.hid (KP.out.below hb2); have BW2 := Lib.hid (BW.out.trans (hb2.mono BW.out.size)); clear hb2)
    | (go_at_call 79; (with_reducible refine (CP.out _ BW2.out).mono ?_); rintro e w3 ⟨A0, c0, rs0, rfl, hls0, hm0⟩; have HL0 := Lib.hid hls0; have M0 := Lib.hid hm0; clear hls0 hm0))
  clear PA AL CP BP KP BW
  go_loopw [11, 12] (fun u v wr => ∃ (i : Nat) (rs' : List Row) (A1 : Option Addr) (c1 : Nat), i ≤ m ∧ v = .int .i64 i ∧ u = .slice A1 (k + i) c1 ∧ lsts rs' = ls ++ accR k i L ls k ∧ MadeR w2 wr A1 (k + i) c1 rs') (fun _ v _ => m - (intOf v).toNat)
  case atStart => exact ⟨0, rs0, A0, c0, Nat.zero_le _, rfl, rfl, by rw [HL0.out]; simp [accR], M0.out⟩
  case round =>
    clear HL0 M0
    obtain ⟨i, rs', A1, c1, hi, rfl, rfl, hls, hmr⟩ := hrel
    have LS := Lib.hid hls
    have M := Lib.hid hmr
    clear hls hmr
    by_cases hlt : i < m
    · have hit : (i : Int) < (m : Int) := by omega
      have S0 := Lib.hid (Since.refl wr)
      go_wp2
      go_loopw [13, 14] (fun u v wi => ∃ (n : Nat) (A5 : Option Addr) (c5 : Nat), n ≤ L ∧ v = .int .i64 n ∧ u = .slice A5 n c5 ∧ wi.ownsRow wr.heap.size 5 1 (.slice A5 n c5) n ((tab n fun x => sumF k fun t => parF k i t * (ls.getD t []).getD x 0).map bv) ∧ Since wr wi) (fun _ v _ => L - (intOf v).toNat)
      case atStart => exact ⟨0, none, 0, Nat.zero_le _, rfl, rfl, World.ownsRow_nil _ _ _ _, S0.out⟩
      case round =>
        rename World => wi
        clear S0
        obtain ⟨n, A5, c5, hn, rfl, rfl, ho5, hs5⟩ := hrel
        have HO5 := Lib.hid ho5
        have S5 := Lib.hid hs5
        have BWI : Hid (Below w.heap.size w wi) := (BW2.out.trans (M.out.bel.mono BW2.out.size)).trans (hs5.mono (Nat.le_trans BW2.out.size M.out.bel.size))
        have K2 : Hid (Blk wi w1.heap.size 30 #[.int .i64 (m : Int), .int .i64 (k : Int), .slice Ap mk cp]) := (KP2.out.below M.out.bel).below hs5
        have B2 : Hid (Bs wi Ap cp (matL m k (parF k))) := Sl.below (Sl.below BP2.out M.out.bel) hs5
        clear ho5 hs5
        obtain ⟨A3, c3, h3, _⟩ := (HB.out.below BWI.out).len (i := 0) (by rw [HN.out]; omega)
        obtain ⟨b', o, hA, _, hc⟩ := Sl.at' (HA.out.below BWI.out) (by rw [HB.out.1, HN.out]; omega)
        subst hA
        have y3 := hc 0 _ h3
        rw [Nat.add_zero, HL.out] at y3
        clear hc h3
        have p0 := K2.out.cell 0; have p1 := K2.out.cell 1; have p2 := K2.out.cell 2
        simp only [List.getElem?_toArray, List.getElem?_cons_succ, List.getElem?_cons_zero] at p0 p1 p2
        by_cases hln : n < L
        · have WC := Lib.hid (WD.out i n Ap cp wi hlt hln BWI.out B2.out)
          have TS := Lib.hid (tab_succ' n fun x => sumF k fun t => parF k i t * (ls.getD t []).getD x 0)
          have hnt : (n : Int) < (L : Int) := by omega
          generalize (sumF k fun t => parF k i t * (ls.getD t []).getD n 0) = y at *
          go_wp2_with (first
            | (go_at_call 113; (with_reducible refine WC.out.mono ?_); rintro e w6 ⟨rfl, hb6⟩; have HO6 := Lib.hid (own_below HO5.out hb6); have S6 := Lib.hid (S5.out.below hb6); clear hb6)
            | (at_builtin; refine app_bytes _ rfl _ _ rfl wr.heap.size A5 c5 n _ rfl (HO6.out.alloc _) _ _ 1 [y] rfl (lit_bs rfl rfl rfl (by decide)) rfl (by omega) ?hB ?_; (case hB => exact Nat.le_trans S6.out.size (by simp)); intro A7 c7 w7 ho7 hb7; rw [← TS.out] at ho7; have HO7 := Lib.hid ho7; have S7 : Hid (Since wr w7) := (S6.out.alloc (.cells #[bv y] 5)).trans hb7; clear ho7 hb7))
          go_roundw
          case rel => exact ⟨n + 1, A7, c7, by omega, by go_num, rfl, HO7.out, S7.out⟩
          case measure => simp [intOf]; omega
        · obtain rfl : n = L := by omega
          have hnt : ¬ (n : Int) < (n : Int) := by omega
          go_wp2_with (at_builtin; refine app_spine _ rfl _ _ rfl w2.heap.size A1 c1 (k + i) (vals rs') rfl (own_below M.out.sp (S5.out.trans ((below_alloc wi _).mono S5.out.size))) _ 1 (.slice A5 n c5) rfl (lit_row _ rfl) rfl (by omega) ?hb ?_; (case hb => exact Nat.le_trans M.out.bel.size (Nat.le_trans S5.out.size (by simp))); intro A4 c4 w4 hown4 hgr4; have HO4 := Lib.hid hown4; have HG4 := Lib.hid hgr4; clear hown4 hgr4)
          go_roundw
          case rel =>
            have hv : rowV (A5, c5, tab n fun x => sumF k fun t => parF k i t * (ls.getD t []).getD x 0) = .slice A5 n c5 := by unfold rowV; rw [length_tab]
            have ho : ownR wi wr.heap.size (A5, c5, tab n fun x => sumF k fun t => parF k i t * (ls.getD t []).getD x 0) := by unfold ownR; rw [hv, length_tab]; exact HO5.out
            refine ⟨i + 1, rs' ++ [(A5, c5, tab n fun x => sumF k fun t => parF k i t * (ls.getD t []).getD x 0)], A4, c4, by omega, by go_num, rfl, ?_, M.out.push S5.out ho (.cells #[.slice A5 n c5] 28) (by rw [hv]; exact HO4.out) HG4.out⟩
            rw [lsts_append, LS.out, List.append_assoc, accR_succ k m]
            rfl
          case measure => simp [intOf]; omega
    · obtain rfl : i = m := by omega
      go_wp2
      go_ret2
      exact ⟨_, _, rs', rfl, by rw [LS.out]; unfold enc; rw [HL.out], M.out.back BW2.out⟩
end Go.Proofs.Ytmkjplpnoohfnaa
