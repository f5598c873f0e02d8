/- aumbryref06.word, walked. aumbryref06.Encode, walked. aumbryref06.Same, Fits, and Encode where shards or numbers do not fit. aumbryref06.Update, walked. aumbryref06.Update, where shards or numbers do not fit. -/
import Derived.Test.YtbepadepepoilaaRowb
import Derived.Test.YtbepadepepoilaaRef05
import Derived.Deep.QuietTactic
import Derived.BigQuiet
import Derived.StillTailTactics
namespace Go.Proofs.Ytbepadepepoilaa
/-! aumbryref06.word, walked. -/
section
open Go.RowKit
set_option linter.unusedVariables false
set_option linter.unusedSimpArgs false
set_option maxRecDepth 1000000 in
set_option maxHeartbeats 2000000 in
theorem ref06_word (k m L row place : Nat) (Ap : Option Addr) (cp : Nat) (P : Mx) (A : Option Addr) (c : Nat) (vs : List Value) (ls : List (List F)) (w : World) (hrow : row < m) (hpl : place < L) (hlen : ∀ i, i < k → lenAt ls i = L) (hn : ls.length = k) (hk : k ≤ 256) (hm : m ≤ 256) (hL : L ≤ 100000) (hp : Bs w Ap cp (matL m k P)) (ha : Sl w A c vs) (hb : Bss w vs ls) :
    Calls Try.prog 59 #[matV m k Ap (m * k) cp, .int .i64 row, .slice A k c, .int .i64 place] w fun e w' => e = .returned (.int .u8 (sumF k fun t => P row t * (ls.getD t []).getD place 0).n) ∧ Below w.heap.size w w' := by
  have LOP : Hid (∀ j, j < k → row * k + j < m * k ∧ (matL m k P).getD (row * k + j) 0 = P row j) := fun j hj => ⟨row_lt hrow hj, getD_matL P hrow hj⟩
  have LP : Hid ((matL m k P).length = m * k) := length_matL _ _ _
  have hmk : m * k ≤ 65536 := Nat.mul_le_mul hm hk
  have HP := Lib.hid hp
  have HA := Lib.hid ha
  have HB := Lib.hid hb
  have HN := Lib.hid hn
  have HLEN := Lib.hid hlen
  have HROW := Lib.hid hrow
  have hrk : row * k ≤ m * k := Nat.mul_le_mul_right _ (Nat.le_of_lt hrow)
  clear hp ha hb hn hlen hrow
  have e1 : (row : Int) * (k : Int) = ((row * k : Nat) : Int) := by simp
  have w1 : IntKind.i64.wrap ((row : Int) * (k : Int)) = ((row * k : Nat) : Int) := by rw [e1, IntKind.wrap_i64]; omega
  clear e1
  generalize matL m k P = lp at *
  generalize m * k = mk at *
  generalize row * k = rk at *
  have K0 := Lib.hid (kn1 w 24 #[.int .i64 m, .int .i64 k, .slice Ap mk cp])
  have W0 := Lib.hid (below1 w (.cells #[.int .i64 m, .int .i64 k, .slice Ap mk cp] 24))
  go_enter Try.func59, Try.ntmps59
  go_wp2
  go_loopw [9, 10] (fun u v wr => ∃ j : Nat, j ≤ k ∧ v = .int .i64 j ∧ u = .int .u8 (sumF j fun t => P row t * (ls.getD t []).getD place 0).n ∧ Kn wr none [(w.heap.size, 24, #[.int .i64 m, .int .i64 k, .slice Ap mk cp])] [] ∧ Below w.heap.size w wr) (fun _ v _ => k - (intOf v).toNat)
  case atStart => exact ⟨0, Nat.zero_le _, rfl, rfl, K0.out, W0.out⟩
  case round =>
    clear K0 W0
    obtain ⟨j, hj, rfl, rfl, hkn, hbel⟩ := hrel
    have KN := Lib.hid hkn
    have W1 := Lib.hid hbel
    clear hkn hbel
    by_cases hlt : j < k
    · obtain ⟨hlo, hval⟩ := LOP.out j hlt
      obtain ⟨b1, o1, h1, _, hc1⟩ := Bs.at' (HP.out.below W1.out) (by rw [LP.out]; omega)
      have y1 := hc1 (rk + j) (by rw [LP.out]; exact hlo)
      rw [hval] at y1
      subst h1
      obtain ⟨A2, c2, h2, h2b⟩ := (HB.out.below W1.out).len (i := j) (by rw [HN.out]; exact hlt)
      rw [HLEN.out j hlt] at h2
      obtain ⟨b3, o3, h3, _, hc3⟩ := Sl.at' (HA.out.below W1.out) (by rw [HB.out.1, HN.out]; omega)
      subst h3
      have y2 := hc3 j _ h2
      have hl2 : (ls.getD j []).length = L := HLEN.out j hlt
      obtain ⟨b4, o4, h4, _, hc4⟩ := Bs.at' h2b (by omega)
      subst h4
      have y3 := hc4 place (by omega)
      have p0 := (KN.out.at (.head _)).cell 0; have p1 := (KN.out.at (.head _)).cell 1; have p2 := (KN.out.at (.head _)).cell 2
      simp only [List.getElem?_toArray, List.getElem?_cons_succ, List.getElem?_cons_zero] at p0 p1 p2
      have HSU : Hid ((sumF (j + 1) fun t => P row t * (ls.getD t []).getD place 0) = (sumF j fun t => P row t * (ls.getD t []).getD place 0) + P row j * (ls.getD j []).getD place 0) := sumF_succ _ _
      clear hc1 hc3 hc4 h2 h2b hl2 hval
      generalize (sumF j fun t => P row t * (ls.getD t []).getD place 0) = acc at *
      generalize P row j = x at *
      generalize (ls.getD j []).getD place 0 = y at *
      have hxor := xor_n acc (x * y)
      have hjt : (j : Int) < (k : Int) := by omega
      have hpt : (place : Int) < (L : Int) := by omega
      go_wp2
      go_quiet ((go_at_call 28; exact Calls.quiet_of_same ((ref_mul _ _ _).mono fun e w' h => ⟨h.1, h.2.symm⟩)))
      go_wp2
      go_roundw
      case rel => exact ⟨j + 1, by omega, by go_num, by rw [HSU.out], KN.out.drewN _, W1.out.trans ((below_drew0 _ _).mono W1.out.size)⟩
      case measure => simp [intOf]; omega
    · obtain rfl : j = k := by omega
      go_wp2
      go_ret
      exact ⟨rfl, W1.out⟩
end
/-! aumbryref06.Encode, walked. -/
section
open Go.RowKit
set_option linter.unusedVariables false
set_option linter.unusedSimpArgs false
theorem ref06_alike_r (A : Option Addr) (n c : Nat) (vs : List Value) (ls : List (List F)) (N : Int) (r : Bool) (w : World) (ha : Sl w A c vs) (hb : Bss w vs ls) (hn : ls.length = n) (hm : n ≤ 1000) (hr : r = true ↔ Alk ls N) :
    Calls Try.prog 57 #[.slice A n c, .int .i64 N] w fun e w' => e = .returned (.bool r) ∧ Below w.heap.size w w' := by
  refine (ref06_alike A n c vs ls N w ha hb hn hm).mono ?_
  rintro e w' ⟨⟨h, rfl⟩ | ⟨h, rfl⟩, hb⟩
  · exact ⟨by rw [hr.2 h], hb⟩
  · refine ⟨?_, hb⟩
    cases r with
    | true => exact absurd (hr.1 rfl) h
    | false => rfl
theorem accR_succ (k m L : Nat) (ls : List (List F)) (n i : Nat) : accR k (i + 1) L ls n = accR k i L ls n ++ [tab L fun x => sumF n fun t => parF k i t * (ls.getD t []).getD x 0] := by
  unfold accR; rw [List.range_succ, List.map_append]; rfl
theorem lit_own1 (w : World) (y : F) : Bs (w.alloc (.cells #[bv y] 5)) (some ⟨w.heap.size, 0, none⟩) 1 [y] := lit_bs rfl rfl rfl (by decide)
set_option maxRecDepth 1000000 in
set_option maxHeartbeats 4000000 in
theorem ref06_encode (k m : Nat) (A : Option Addr) (c : Nat) (vs : List Value) (ls : List (List F)) (w : World) (hkm : okkm k m) (ha : Sl w A c vs) (hb : Bss w vs ls) (hk : Alk ls k) (hl : ∀ l, l ∈ ls → l.length ≤ 100000) :
    Calls Try.prog 43 #[.int .i64 k, .int .i64 m, .slice A k c] w fun e w' => ∃ A' c' rs, e = .returned (.tuple #[.slice A' (k + m) c', .int .i64 0]) ∧ lsts rs = enc k m ls ∧ MadeR w w' A' (k + m) c' rs := by
  obtain ⟨hk1, hm0, hkm256⟩ := id hkm
  have hk1' : 1 ≤ k := by omega
  have hkb : k + m ≤ 256 := by omega
  have hn : ls.length = k := by have := hk.1; omega
  obtain ⟨L, hL⟩ : ∃ L, lenAt ls 0 = L := ⟨_, rfl⟩
  have hLb : L ≤ 100000 := by
    rw [← hL]; unfold lenAt
    exact hl _ (by rw [List.getD_eq_getElem?_getD, List.getElem?_eq_getElem (by omega)]; exact List.getElem_mem _)
  have hlen : ∀ i, i < k → lenAt ls i = L := fun i hi => by rw [hk.2 i (by omega)]; exact hL
  have PA := Lib.hid (ref05_Parity k m hkm w)
  have AL : Hid (∀ w', Below w.heap.size w w' → Calls Try.prog 57 #[.slice A k c, .int .i64 k] w' fun e w'' => e = .returned (.bool true) ∧ Below w'.heap.size w' w'') := fun w' hw => ref06_alike_r A k c vs ls k true w' (ha.below hw) (hb.below hw) hn (by omega) ⟨fun _ => hk, fun _ => rfl⟩
  have CP : Hid (∀ w', Below w.heap.size w w' → Calls Try.prog 58 #[.slice A k c] w' fun e w'' => ∃ A' c' rs, e = .returned (.slice A' k c') ∧ lsts rs = ls ∧ MadeR w' w'' A' k c' rs) := fun w' hw => ref06_copied A k c vs ls w' (ha.below hw) (hb.below hw) hn (by omega) hl
  have WD : Hid (∀ (i n : Nat) (Ap : Option Addr) (cp : Nat) (w' : World), i < m → n < L → Below w.heap.size w w' → Bs w' Ap cp (matL m k (parF k)) → Calls Try.prog 59 #[matV m k Ap (m * k) cp, .int .i64 i, .slice A k c, .int .i64 n] w' fun e w'' => e = .returned (.int .u8 (sumF k fun t => parF k i t * (ls.getD t []).getD n 0).n) ∧ Below w'.heap.size w' w'') := fun i n Ap cp w' hi hn' hw hp => ref06_word k m L i n Ap cp (parF k) A c vs ls w' hi hn' hlen hn (by omega) (by omega) hLb hp (ha.below hw) (hb.below hw)
  have HA := Lib.hid ha
  have HB := Lib.hid hb
  have HN := Lib.hid hn
  have HL := Lib.hid hL
  clear ha hb hn hk hl hkm hL hm0 hkm256 hk1 hlen
  have h0t : (0 : Int) < (k : Int) := by omega
  unfold matV at WD
  obtain ⟨mk, hmk⟩ : ∃ mk, m * k = mk := ⟨_, rfl⟩
  rw [hmk] at PA WD
  clear hmk
  go_enter Try.func43, Try.ntmps43
  go_wp2_with (first
    | (go_at_call 56; (with_reducible refine PA.out.mono ?_); rintro e w1 ⟨Ap, cp, rfl, ho1, hb1⟩; have BP := Lib.hid (Sl.alloc (own_sl ho1) (.cells #[.int .i64 (m : Int), .int .i64 (k : Int), .slice Ap mk cp] 24)); have KP := Lib.hid (Blk.new w1 #[.int .i64 (m : Int), .int .i64 (k : Int), .slice Ap mk cp] 24); have BW : Hid (Below w.heap.size w (w1.alloc (.cells #[.int .i64 (m : Int), .int .i64 (k : Int), .slice Ap mk cp] 24))) := hb1.alloc hb1.size _; clear ho1 hb1)
    | (go_at_call 57; (with_reducible refine (AL.out _ BW.out).mono ?_); rintro e w2 ⟨rfl, hb2⟩; have BP2 := Lib.hid (BP.out.below hb2); have KP2 := Lib.hid (KP.out.below hb2); have BW2 := Lib.hid (BW.out.trans (hb2.mono BW.out.size)); clear hb2)
    | (go_at_call 58; (with_reducible refine (CP.out _ BW2.out).mono ?_); rintro e w3 ⟨A0, c0, rs0, rfl, hls0, hm0⟩; have HL0 := Lib.hid hls0; have M0 := Lib.hid hm0; clear hls0 hm0))
  clear PA AL CP BP KP BW
  go_loopw [11, 12] (fun u v wr => ∃ (i : Nat) (rs' : List Row) (A1 : Option Addr) (c1 : Nat), i ≤ m ∧ v = .int .i64 i ∧ u = .slice A1 (k + i) c1 ∧ lsts rs' = ls ++ accR k i L ls k ∧ MadeR w2 wr A1 (k + i) c1 rs') (fun _ v _ => m - (intOf v).toNat)
  case atStart => exact ⟨0, rs0, A0, c0, Nat.zero_le _, rfl, rfl, by rw [HL0.out]; simp [accR], M0.out⟩
  case round =>
    clear HL0 M0
    obtain ⟨i, rs', A1, c1, hi, rfl, rfl, hls, hmr⟩ := hrel
    have LS := Lib.hid hls
    have M := Lib.hid hmr
    clear hls hmr
    by_cases hlt : i < m
    · have hit : (i : Int) < (m : Int) := by omega
      have S0 := Lib.hid (Since.refl wr)
      go_wp2
      go_loopw [13, 14] (fun u v wi => ∃ (n : Nat) (A5 : Option Addr) (c5 : Nat), n ≤ L ∧ v = .int .i64 n ∧ u = .slice A5 n c5 ∧ wi.ownsRow wr.heap.size 5 1 (.slice A5 n c5) n ((tab n fun x => sumF k fun t => parF k i t * (ls.getD t []).getD x 0).map bv) ∧ Since wr wi) (fun _ v _ => L - (intOf v).toNat)
      case atStart => exact ⟨0, none, 0, Nat.zero_le _, rfl, rfl, World.ownsRow_nil _ _ _ _, S0.out⟩
      case round =>
        rename World => wi
        clear S0
        obtain ⟨n, A5, c5, hn, rfl, rfl, ho5, hs5⟩ := hrel
        have HO5 := Lib.hid ho5
        have S5 := Lib.hid hs5
        have BWI : Hid (Below w.heap.size w wi) := (BW2.out.trans (M.out.bel.mono BW2.out.size)).trans (hs5.mono (Nat.le_trans BW2.out.size M.out.bel.size))
        have K2 : Hid (Blk wi w1.heap.size 24 #[.int .i64 (m : Int), .int .i64 (k : Int), .slice Ap mk cp]) := (KP2.out.below M.out.bel).below hs5
        have B2 : Hid (Bs wi Ap cp (matL m k (parF k))) := Sl.below (Sl.below BP2.out M.out.bel) hs5
        clear ho5 hs5
        obtain ⟨A3, c3, h3, _⟩ := (HB.out.below BWI.out).len (i := 0) (by rw [HN.out]; omega)
        obtain ⟨b', o, hA, _, hc⟩ := Sl.at' (HA.out.below BWI.out) (by rw [HB.out.1, HN.out]; omega)
        subst hA
        have y3 := hc 0 _ h3
        rw [Nat.add_zero, HL.out] at y3
        clear hc h3
        have p0 := K2.out.cell 0; have p1 := K2.out.cell 1; have p2 := K2.out.cell 2
        simp only [List.getElem?_toArray, List.getElem?_cons_succ, List.getElem?_cons_zero] at p0 p1 p2
        by_cases hln : n < L
        · have WC := Lib.hid (WD.out i n Ap cp wi hlt hln BWI.out B2.out)
          have TS := Lib.hid (tab_succ' n fun x => sumF k fun t => parF k i t * (ls.getD t []).getD x 0)
          have hnt : (n : Int) < (L : Int) := by omega
          generalize (sumF k fun t => parF k i t * (ls.getD t []).getD n 0) = y at *
          go_wp2_with (first
            | (go_at_call 59; (with_reducible refine WC.out.mono ?_); rintro e w6 ⟨rfl, hb6⟩; have HO6 := Lib.hid (own_below HO5.out hb6); have S6 := Lib.hid (S5.out.below hb6); clear hb6)
            | (at_builtin; refine app_bytes _ rfl _ _ rfl wr.heap.size A5 c5 n _ rfl (HO6.out.alloc _) _ _ 1 [y] rfl (lit_bs rfl rfl rfl (by decide)) rfl (by omega) ?hB ?_; (case hB => exact Nat.le_trans S6.out.size (by simp)); intro A7 c7 w7 ho7 hb7; rw [← TS.out] at ho7; have HO7 := Lib.hid ho7; have S7 : Hid (Since wr w7) := (S6.out.alloc (.cells #[bv y] 5)).trans hb7; clear ho7 hb7))
          go_roundw
          case rel => exact ⟨n + 1, A7, c7, by omega, by go_num, rfl, HO7.out, S7.out⟩
          case measure => simp [intOf]; omega
        · obtain rfl : n = L := by omega
          have hnt : ¬ (n : Int) < (n : Int) := by omega
          go_wp2_with (at_builtin; refine app_spine _ rfl _ _ rfl w2.heap.size A1 c1 (k + i) (vals rs') rfl (own_below M.out.sp (S5.out.trans ((below_alloc wi _).mono S5.out.size))) _ 1 (.slice A5 n c5) rfl (lit_row _ rfl) rfl (by omega) ?hb ?_; (case hb => exact Nat.le_trans M.out.bel.size (Nat.le_trans S5.out.size (by simp))); intro A4 c4 w4 hown4 hgr4; have HO4 := Lib.hid hown4; have HG4 := Lib.hid hgr4; clear hown4 hgr4)
          go_roundw
          case rel =>
            have hv : rowV (A5, c5, tab n fun x => sumF k fun t => parF k i t * (ls.getD t []).getD x 0) = .slice A5 n c5 := by unfold rowV; rw [length_tab]
            have ho : ownR wi wr.heap.size (A5, c5, tab n fun x => sumF k fun t => parF k i t * (ls.getD t []).getD x 0) := by unfold ownR; rw [hv, length_tab]; exact HO5.out
            refine ⟨i + 1, rs' ++ [(A5, c5, tab n fun x => sumF k fun t => parF k i t * (ls.getD t []).getD x 0)], A4, c4, by omega, by go_num, rfl, ?_, M.out.push S5.out ho (.cells #[.slice A5 n c5] 22) (by rw [hv]; exact HO4.out) HG4.out⟩
            rw [lsts_append, LS.out, List.append_assoc, accR_succ k m]
            rfl
          case measure => simp [intOf]; omega
    · obtain rfl : i = m := by omega
      go_wp2
      go_ret2
      exact ⟨_, _, rs', rfl, by rw [LS.out]; unfold enc; rw [HL.out], M.out.back BW2.out⟩
end
/-! aumbryref06.Same, Fits, and Encode where shards or numbers do not fit. -/
section
open Go.RowKit
set_option linter.unusedVariables false
set_option linter.unusedSimpArgs false
set_option maxRecDepth 1000000 in
theorem ref06_same (A : Option Addr) (n c : Nat) (vs : List Value) (ls : List (List F)) (A' : Option Addr) (n' c' : Nat) (vs' : List Value) (ls' : List (List F)) (r : Bool) (w : World) (ha : Sl w A c vs) (hb : Bss w vs ls) (ha' : Sl w A' c' vs') (hb' : Bss w vs' ls') (hn : ls.length = n) (hn' : ls'.length = n') (hm : n ≤ 1000) (hr : r = true ↔ ls = ls') :
    Calls Try.prog 23 #[.slice A n c, .slice A' n' c'] w fun e w' => e = .returned (.bool r) ∧ Below w.heap.size w w' := by
  have HA := Lib.hid ha
  have HB := Lib.hid hb
  have HA' := Lib.hid ha'
  have HB' := Lib.hid hb'
  have YES : Hid (ls = ls' → r = true) := hr.2
  have NO : Hid (ls ≠ ls' → r = false) := fun h => by
    cases r with
    | true => exact absurd (hr.1 rfl) h
    | false => rfl
  by_cases h0 : n = n'
  · have HN := Lib.hid hn
    have HN' : Hid (ls'.length = n) := hn'.trans h0.symm
    subst h0
    have d0 : ((n : Int) == (n : Int)) = true := by rw [beq_iff_eq]
    have d1 : ((n : Int) != (n : Int)) = false := by rw [bne_self_eq_false]
    clear ha hb hn ha' hb' hn' hr
    go_enter Try.func23, Try.ntmps23
    go_wp2
    go_loopw [5] (fun v wr => ∃ i : Nat, i ≤ n ∧ v = .int .i64 i ∧ (∀ j, j < i → ls.getD j [] = ls'.getD j []) ∧ Since w wr) (fun v _ => n - (intOf v).toNat)
    case atStart => exact ⟨0, Nat.zero_le _, rfl, fun j h => absurd h (Nat.not_lt_zero j), Since.refl _⟩
    case round =>
      obtain ⟨i, hi, rfl, heq, hs⟩ := hrel
      have EQ := Lib.hid heq
      have S1 := Lib.hid hs
      clear heq hs
      by_cases hlt : i < n
      · obtain ⟨A2, c2, h2, h2b⟩ := (HB.out.below S1.out).len (i := i) (by rw [HN.out]; exact hlt)
        obtain ⟨A3, c3, h3, h3b⟩ := (HB'.out.below S1.out).len (i := i) (by rw [HN'.out]; exact hlt)
        obtain ⟨b, o, hA, _, hc⟩ := Sl.at' (HA.out.below S1.out) (by rw [HB.out.1, HN.out]; omega)
        obtain ⟨b', o', hA', _, hc'⟩ := Sl.at' (HA'.out.below S1.out) (by rw [HB'.out.1, HN'.out]; omega)
        subst hA
        subst hA'
        have y2 := hc i _ h2
        have y3 := hc' i _ h3
        have hit : (i : Int) < (n : Int) := by omega
        have SM : Hid (∀ q w', q = decide (ls.getD i [] = ls'.getD i []) → Below wr.heap.size wr w' → Calls Try.prog 34 #[.slice A2 (lenAt ls i) c2, .slice A3 (lenAt ls' i) c3] w' fun e w'' => e = .returned (.bool q) ∧ Below w'.heap.size w' w'') := fun q w' hq hb => by rw [hq]; exact ref_same A2 c2 _ A3 c3 _ w' (h2b.below hb) (h3b.below hb)
        clear hc hc' h2 h3 h2b h3b
        by_cases he : ls.getD i [] = ls'.getD i []
        · have EQ2 : Hid (∀ j, j < i + 1 → ls.getD j [] = ls'.getD j []) := fun j hj => by
            rcases Nat.lt_or_ge j i with h | h
            · exact EQ.out j h
            · rw [show j = i by omega]; exact he
          have SM1 := Lib.hid (fun w' => SM.out true w' (decide_eq_true he).symm)
          clear he SM
          go_wp2
          go_region_law (go_simp; go_at_call 34; (with_reducible refine (SM1.out _ ?_).mono ?_); (first | exact Below.refl _ _ | exact below_drew0 _ _ | exact below_drew0 _ 1); rintro e w3 ⟨rfl, hb3⟩; have HB3 : Hid (Below wr.heap.size wr w3) := ((below_drew0 wr 1).trans hb3); clear hb3)
          all_goals
            go_wp2
            go_roundw
            case rel => exact ⟨i + 1, by omega, by go_num, EQ2.out, S1.out.below HB3.out⟩
            case measure => simp [intOf]; omega
        · have R : Hid (r = false) := NO.out fun e => he (by rw [e])
          have SM1 := Lib.hid (fun w' => SM.out false w' (decide_eq_false he).symm)
          clear he SM
          go_wp2
          go_region_law (go_simp; go_at_call 34; (with_reducible refine (SM1.out _ ?_).mono ?_); (first | exact Below.refl _ _ | exact below_drew0 _ _ | exact below_drew0 _ 1); rintro e w3 ⟨rfl, hb3⟩; have HB3 : Hid (Below wr.heap.size wr w3) := ((below_drew0 wr 1).trans hb3); clear hb3)
          all_goals
            go_wp2
            go_ret
            exact ⟨by rw [R.out]; rfl, S1.out.below HB3.out⟩
      · obtain rfl : i = n := by omega
        have R : Hid (r = true) := YES.out (list_ext_lt (HN.out.trans HN'.out.symm) fun j hj => EQ.out j (by rw [← HN.out]; exact hj))
        go_wp2
        go_ret
        exact ⟨by rw [R.out]; rfl, S1.out⟩
  · have R : Hid (r = false) := NO.out fun e => h0 (by rw [← hn, ← hn', e])
    have d0 : ((n : Int) == (n' : Int)) = false := by rw [beq_eq_false_iff_ne]; omega
    have d1 : ((n : Int) != (n' : Int)) = true := by rw [bne_iff_ne]; omega
    clear ha hb hn ha' hb' hn' h0 hr
    go_enter Try.func23, Try.ntmps23
    go_wp2
    go_ret
    exact ⟨by rw [R.out]; rfl, Below.refl _ _⟩
set_option maxRecDepth 1000000 in
theorem ref06_encode_no (k m : Nat) (A : Option Addr) (n c : Nat) (vs : List Value) (ls : List (List F)) (w : World) (hkm : okkm k m) (ha : Sl w A c vs) (hb : Bss w vs ls) (hn : ls.length = n) (hm : n ≤ 1000) (hk : ¬ Alk ls k) :
    Calls Try.prog 43 #[.int .i64 k, .int .i64 m, .slice A n c] w fun e w' => e = .returned (.tuple #[.slice none 0 0, .int .i64 60]) ∧ Below w.heap.size w w' := by
  have PA := Lib.hid (ref05_Parity k m hkm w)
  have AL : Hid (∀ w', Below w.heap.size w w' → Calls Try.prog 57 #[.slice A n c, .int .i64 k] w' fun e w'' => e = .returned (.bool false) ∧ Below w'.heap.size w' w'') := fun w' hw => ref06_alike_r A n c vs ls k false w' (ha.below hw) (hb.below hw) hn hm ⟨(fun h => by cases h), fun h => absurd h hk⟩
  clear hkm ha hb hn hm hk
  generalize m * k = mk at *
  go_enter Try.func43, Try.ntmps43
  go_wp2_with (first
    | (go_at_call 56; (with_reducible refine PA.out.mono ?_); rintro e w1 ⟨Ap, cp, rfl, _, hb1⟩; have BW : Hid (Below w.heap.size w (w1.alloc (.cells #[.int .i64 (m : Int), .int .i64 (k : Int), .slice Ap mk cp] 24))) := hb1.alloc hb1.size _; clear hb1)
    | (go_at_call 57; (with_reducible refine (AL.out _ BW.out).mono ?_); rintro e w2 ⟨rfl, hb2⟩; have BW2 := Lib.hid (BW.out.trans (hb2.mono BW.out.size)); clear hb2))
  go_ret2
  exact ⟨rfl, BW2.out⟩
set_option maxRecDepth 1000000 in
theorem ref06_encode_bad (k m : Int) (A : Option Addr) (n c : Nat) (w : World) (hk : i64ok k) (hm : i64ok m) (hkm : ¬ okkm k m) :
    Calls Try.prog 43 #[.int .i64 k, .int .i64 m, .slice A n c] w fun e w' => e = .returned (.tuple #[.slice none 0 0, .int .i64 50]) ∧ Below w.heap.size w w' := by
  have PA := Lib.hid (ref05_bad_Parity k m hk hm hkm w)
  clear hkm hk hm
  unfold noMat at PA
  go_enter Try.func43, Try.ntmps43
  go_wp2_with (go_at_call 56; (with_reducible refine PA.out.mono ?_); rintro e w1 ⟨rfl, hb1⟩; have BW := Lib.hid hb1; clear hb1)
  go_ret2
  exact ⟨rfl, BW.out.alloc BW.out.size _⟩
end
/-! aumbryref06.Update, walked. -/
section
open Go.RowKit
set_option linter.unusedVariables false
set_option linter.unusedSimpArgs false
/-- one number of rows that are turned one behind the other: where it lies, and what is behind its store -/
theorem grid_put {I : World → Prop} {rs : List Row} {hh : Nat → Nat → F → F} {i n B : Nat} {r : Row} (hI : Keeps rs I) {wi : World} (hw : I wi) (hg : Grid wi B (rowsT rs hh i n)) (hr : rs[i]? = some r) (hn : n < r.2.2.length) :
    ∃ g, r.1 = some ⟨g, 0, none⟩ ∧ wi.cell? ⟨g, n, none⟩ = some (.int .u8 ((r.2.2.getD n 0).n : Int)) ∧ wi.frozen? ⟨g, n, none⟩ = false ∧ ∀ nd, I ((wi.drewN nd).setCell ⟨g, n, none⟩ (bv (hh i n (r.2.2.getD n 0)))) ∧ Grid ((wi.drewN nd).setCell ⟨g, n, none⟩ (bv (hh i n (r.2.2.getD n 0)))) B (rowsT rs hh i (n + 1)) := by
  have hlr : (rowT hh i n i r).2.2.length = r.2.2.length := by unfold rowT; rw [length_tab]
  have hown : wi.ownsRow B 5 1 (.slice r.1 r.2.2.length r.2.1) r.2.2.length ((rowT hh i n i r).2.2.map bv) := by
    have h := hg.own i _ (rowsT_at hr hh i n)
    unfold ownR at h
    rw [rowV_rowT] at h
    unfold rowV at h
    rwa [hlr] at h
  obtain ⟨g, hgA, _, _⟩ := own_addr hown (by omega)
  have hv : (rowT hh i n i r).2.2.getD n 0 = r.2.2.getD n 0 := by
    unfold rowT
    rw [getD_tab _ hn, if_neg (by omega)]
  rw [hgA] at hown
  have hcl := hown.cellAt n (by omega)
  rw [getElem?_bv (by rw [hlr]; exact hn), hv] at hcl
  refine ⟨g, hgA, hcl, hown.frozenAt n, fun nd => ?_⟩
  have hob : (rowV r).ownBlock = some g := by unfold rowV; rw [hgA]; rfl
  refine ⟨hI.s _ i r g n _ (hI.d wi nd hw) hr hob, ?_⟩
  have hgd : Grid (wi.drewN nd) B (rowsT rs hh i n) := hg.below (below_drew0 wi nd)
  have hst := ((show (wi.drewN nd).ownsRow B 5 1 (.slice (some ⟨g, 0, none⟩) r.2.2.length r.2.1) r.2.2.length ((rowT hh i n i r).2.2.map bv) from own_drewN hown nd).stored n (bv (hh i n (r.2.2.getD n 0)))).1
  rw [map_set] at hst
  have hwr := hgd.write (rowsT_at hr hh i n) (g := g) (by rw [rowV_rowT]; exact hob) (l := (rowT hh i n i r).2.2.set n (hh i n (r.2.2.getD n 0))) (by rw [List.length_set]) ((Beside.refl g (wi.drewN nd)).setCell n _) (by
    unfold ownR rowV
    rw [List.length_set, hlr]
    show World.ownsRow _ B 5 1 (.slice r.1 r.2.2.length r.2.1) r.2.2.length _
    rw [hgA]
    exact hst)
  have e := rowsT_set hr hh (n := n) hn
  rw [← e]
  exact hwr
theorem mapR_mapR (h g : Nat → Nat → F → F) (ls : List (List F)) : mapR h (mapR g ls) = mapR (fun a x v => h a x (g a x v)) ls := by
  refine List.ext_getElem? fun a => ?_
  unfold mapR
  rw [List.getElem?_mapIdx, List.getElem?_mapIdx, List.getElem?_mapIdx]
  cases ls[a]? with
  | none => rfl
  | some l =>
    refine congrArg some ?_
    dsimp only
    rw [length_tab]
    exact tab_congr fun x hx => by rw [getD_tab _ hx]
theorem mapR_congr {h g : Nat → Nat → F → F} {ls : List (List F)} (e : ∀ a l, ls[a]? = some l → ∀ x, x < l.length → h a x (l.getD x 0) = g a x (l.getD x 0)) : mapR h ls = mapR g ls := by
  refine List.ext_getElem? fun a => ?_
  unfold mapR
  rw [List.getElem?_mapIdx, List.getElem?_mapIdx]
  cases hl : ls[a]? with
  | none => rfl
  | some l => exact congrArg some (tab_congr fun x hx => e a l hl x hx)
theorem alk_iff {ls : List (List F)} {n : Int} : Alk ls n ↔ (ls.length : Int) = n ∧ ∃ L, ∀ l, l ∈ ls → l.length = L := by
  constructor
  · intro h
    refine ⟨h.1, lenAt ls 0, fun l hl => ?_⟩
    obtain ⟨i, hi, rfl⟩ := List.mem_iff_getElem.1 hl
    have := h.2 i hi
    unfold lenAt at this ⊢
    rwa [List.getD_eq_getElem?_getD, List.getElem?_eq_getElem hi] at this
  · rintro ⟨h, L, hL⟩
    have key : ∀ i, i < ls.length → lenAt ls i = L := fun i hi => by
      unfold lenAt
      rw [List.getD_eq_getElem?_getD, List.getElem?_eq_getElem hi]
      exact hL _ (List.getElem_mem _)
    exact ⟨h, fun i hi => by rw [key i hi, key 0 (by omega)]⟩
theorem alk_turn {l1 l2 : List F} {ls : List (List F)} {n : Int} : Alk (ls ++ [l1, l2]) n ↔ Alk (l1 :: l2 :: ls) n := by
  rw [alk_iff, alk_iff]
  simp only [List.length_append, List.length_cons, List.length_nil, List.mem_append, List.mem_cons, List.not_mem_nil, or_false]
  constructor
  · rintro ⟨h, L, hL⟩
    exact ⟨by omega, L, fun l hl => hL l (by rcases hl with h | h | h <;> simp [h])⟩
  · rintro ⟨h, L, hL⟩
    exact ⟨by omega, L, fun l hl => hL l (by rcases hl with h | h | h <;> simp [h])⟩
def updH (k j : Nat) (l1 l2 : List F) : Nat → Nat → F → F := fun a x v => v + parF k a j * (l1.getD x 0 + l2.getD x 0)
theorem updR_eq (k j : Nat) (l1 l2 : List F) (ls : List (List F)) : mapR (updH k j l1 l2) ls = updR k j l1 l2 ls := by
  unfold updR
  rw [mapR_mapR]
  refine mapR_congr fun a l _ x _ => ?_
  unfold updH addH
  rw [F.mul_add, F.add_assoc]
theorem lit2 (w : World) (u v : Value) : Sl (w.alloc (.cells #[u, v] 22)) (some ⟨w.heap.size, 0, none⟩) 2 [u, v] := own_sl (own_lit w [u, v] 2 rfl (by decide))
theorem below_lit' {w w' : World} {o : Obj} {g n c : Nat} (hg : (w.alloc o).grownBy w' (Value.slice (some ⟨g, 0, none⟩) n c).ownBlock) (h : g = w.heap.size) : Below w.heap.size w w' := by
  subst h
  exact below_lit hg
theorem two_one {A1 A2 : Option Addr} {n1 n2 c1 c2 : Nat} : ∀ u ∈ [Value.slice A1 n1 c1, Value.slice A2 n2 c2], u.oneCell' = true := fun u hu => by
  simp only [List.mem_cons, List.not_mem_nil, or_false] at hu
  rcases hu with rfl | rfl <;> rfl
end
/-! aumbryref06.Update, where shards or numbers do not fit. -/
section
open Go.RowKit
set_option linter.unusedVariables false
set_option linter.unusedSimpArgs false
end
end Go.Proofs.Ytbepadepepoilaa
