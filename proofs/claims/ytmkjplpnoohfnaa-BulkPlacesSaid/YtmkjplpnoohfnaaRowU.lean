/- aumbryref06.Same, Fits, and Encode where shards or numbers do not fit. -/
import Derived.Test.YtmkjplpnoohfnaaRowT
namespace Go.Proofs.Ytmkjplpnoohfnaa
open Go.RowKit
set_option linter.unusedVariables false
set_option linter.unusedSimpArgs false
set_option maxRecDepth 1000000 in
theorem ref06_same (A : Option Addr) (n c : Nat) (vs : List Value) (ls : List (List F)) (A' : Option Addr) (n' c' : Nat) (vs' : List Value) (ls' : List (List F)) (r : Bool) (w : World) (ha : Sl w A c vs) (hb : Bss w vs ls) (ha' : Sl w A' c' vs') (hb' : Bss w vs' ls') (hn : ls.length = n) (hn' : ls'.length = n') (hm : n ≤ 1000) (hr : r = true ↔ ls = ls') :
    Calls Try.prog 75 #[.slice A n c, .slice A' n' c'] w fun e w' => e = .returned (.bool r) ∧ Below w.heap.size w w' := by
  have HA := Lib.hid ha
  have HB := Lib.hid hb
  have HA' := Lib.hid ha'
  have HB' := Lib.hid hb'
  have YES : Hid (ls = ls' → r = true) := hr.2
  have NO : Hid (ls ≠ ls' → r = false) := fun h => by
    cases r with
    | true => exact absurd (hr.1 rfl) h
    | false => rfl
  by_cases h0 : n = n'
  · have HN := Lib.hid hn
    have HN' : Hid (ls'.length = n) := hn'.trans h0.symm
    subst h0
    have d0 : ((n : Int) == (n : Int)) = true := by rw [beq_iff_eq]
    have d1 : ((n : Int) != (n : Int)) = false := by rw [bne_self_eq_false]
    clear ha hb hn ha' hb' hn' hr
    go_enter Try.func75, Try.ntmps75
    go_wp2
    go_loopw [5] (fun v wr => ∃ i : Nat, i ≤ n ∧ v = .int .i64 i ∧ (∀ j, j < i → ls.getD j [] = ls'.getD j []) ∧ Since w wr) (fun v _ => n - (intOf v).toNat)
    case atStart => exact ⟨0, Nat.zero_le _, rfl, fun j h => absurd h (Nat.not_lt_zero j), Since.refl _⟩
    case round =>
      obtain ⟨i, hi, rfl, heq, hs⟩ := hrel
      have EQ := Lib.hid heq
      have S1 := Lib.hid hs
      clear heq hs
      by_cases hlt : i < n
      · obtain ⟨A2, c2, h2, h2b⟩ := (HB.out.below S1.out).len (i := i) (by rw [HN.out]; exact hlt)
        obtain ⟨A3, c3, h3, h3b⟩ := (HB'.out.below S1.out).len (i := i) (by rw [HN'.out]; exact hlt)
        obtain ⟨b, o, hA, _, hc⟩ := Sl.at' (HA.out.below S1.out) (by rw [HB.out.1, HN.out]; omega)
        obtain ⟨b', o', hA', _, hc'⟩ := Sl.at' (HA'.out.below S1.out) (by rw [HB'.out.1, HN'.out]; omega)
        subst hA
        subst hA'
        have y2 := hc i _ h2
        have y3 := hc' i _ h3
        have hit : (i : Int) < (n : Int) := by omega
        have SM : Hid (∀ q w', q = decide (ls.getD i [] = ls'.getD i []) → Below wr.heap.size wr w' → Calls Try.prog 54 #[.slice A2 (lenAt ls i) c2, .slice A3 (lenAt ls' i) c3] w' fun e w'' => e = .returned (.bool q) ∧ Below w'.heap.size w' w'') := fun q w' hq hb => by rw [hq]; exact ref_same A2 c2 _ A3 c3 _ w' (h2b.below hb) (h3b.below hb)
        clear hc hc' h2 h3 h2b h3b
        by_cases he : ls.getD i [] = ls'.getD i []
        · have EQ2 : Hid (∀ j, j < i + 1 → ls.getD j [] = ls'.getD j []) := fun j hj => by
            rcases Nat.lt_or_ge j i with h | h
            · exact EQ.out j h
            · rw [show j = i by omega]; exact he
          have SM1 := Lib.hid (fun w' => SM.out true w' (decide_eq_true he).symm)
          clear he SM
          go_wp2
          go_region_law (go_simp; go_at_call 54; (with_reducible refine (SM1.out _ ?_).mono ?_); (first | exact Below.refl _ _ | exact below_drew0 _ _ | exact below_drew0 _ 1); rintro e w3 ⟨rfl, hb3⟩; have HB3 : Hid (Below wr.heap.size wr w3) := ((below_drew0 wr 1).trans hb3); clear hb3)
          all_goals
            go_wp2
            go_roundw
            case rel => exact ⟨i + 1, by omega, by go_num, EQ2.out, S1.out.below HB3.out⟩
            case measure => simp [intOf]; omega
        · have R : Hid (r = false) := NO.out fun e => he (by rw [e])
          have SM1 := Lib.hid (fun w' => SM.out false w' (decide_eq_false he).symm)
          clear he SM
          go_wp2
          go_region_law (go_simp; go_at_call 54; (with_reducible refine (SM1.out _ ?_).mono ?_); (first | exact Below.refl _ _ | exact below_drew0 _ _ | exact below_drew0 _ 1); rintro e w3 ⟨rfl, hb3⟩; have HB3 : Hid (Below wr.heap.size wr w3) := ((below_drew0 wr 1).trans hb3); clear hb3)
          all_goals
            go_wp2
            go_ret
            exact ⟨by rw [R.out]; rfl, S1.out.below HB3.out⟩
      · obtain rfl : i = n := by omega
        have R : Hid (r = true) := YES.out (list_ext_lt (HN.out.trans HN'.out.symm) fun j hj => EQ.out j (by rw [← HN.out]; exact hj))
        go_wp2
        go_ret
        exact ⟨by rw [R.out]; rfl, S1.out⟩
  · have R : Hid (r = false) := NO.out fun e => h0 (by rw [← hn, ← hn', e])
    have d0 : ((n : Int) == (n' : Int)) = false := by rw [beq_eq_false_iff_ne]; omega
    have d1 : ((n : Int) != (n' : Int)) = true := by rw [bne_iff_ne]; omega
    clear ha hb hn ha' hb' hn' h0 hr
    go_enter Try.func75, Try.ntmps75
    go_wp2
    go_ret
    exact ⟨by rw [R.out]; rfl, Below.refl _ _⟩
set_option maxRecDepth 1000000 in
theorem ref06_encode_no (k m : Nat) (A : Option Addr) (n c : Nat) (vs : List Value) (ls : List (List F)) (w : World) (hkm : okkm k m) (ha : Sl w A c vs) (hb : Bss w vs ls) (hn : ls.length = n) (hm : n ≤ 1000) (hk : ¬ Alk ls k) :
    Calls Try.prog 72 #[.int .i64 k, .int .i64 m, .slice A n c] w fun e w' => e = .returned (.tuple #[.slice none 0 0, .int .i64 60]) ∧ Below w.heap.size w w' := by
  have PA := Lib.hid (ref05_Parity k m hkm w)
  have AL : Hid (∀ w', Below w.heap.size w w' → Calls Try.prog 112 #[.slice A n c, .int .i64 k] w' fun e w'' => e = .returned (.bool false) ∧ Below w'.heap.size w' w'') := fun w' hw => ref06_alike_r A n c vs ls k false w' (ha.below hw) (hb.below hw) hn hm ⟨(fun h => by cases h), fun h => absurd h hk⟩
  clear hkm ha hb hn hm hk
  generalize m * k = mk at *
  go_enter Try.func72, Try.ntmps72
  go_wp2_with (first
    | (go_at_call 42; (with_reducible refine PA.out.mono ?_); rintro e w1 ⟨Ap, cp, rfl, _, hb1⟩; have BW : Hid (Below w.heap.size w (w1.alloc (.cells #[.int .i64 (m : Int), .int .i64 (k : Int), .slice Ap mk cp] 30))) := hb1.alloc hb1.size _; clear hb1)
    | (go_at_call 112; (with_reducible refine (AL.out _ BW.out).mono ?_); rintro e w2 ⟨rfl, hb2⟩; have BW2 := Lib.hid (BW.out.trans (hb2.mono BW.out.size)); clear hb2))
  go_ret2
  exact ⟨rfl, BW2.out⟩
set_option maxRecDepth 1000000 in
theorem ref06_encode_bad (k m : Int) (A : Option Addr) (n c : Nat) (w : World) (hk : i64ok k) (hm : i64ok m) (hkm : ¬ okkm k m) :
    Calls Try.prog 72 #[.int .i64 k, .int .i64 m, .slice A n c] w fun e w' => e = .returned (.tuple #[.slice none 0 0, .int .i64 50]) ∧ Below w.heap.size w w' := by
  have PA := Lib.hid (ref05_bad_Parity k m hk hm hkm w)
  clear hkm hk hm
  unfold noMat at PA
  go_enter Try.func72, Try.ntmps72
  go_wp2_with (go_at_call 42; (with_reducible refine PA.out.mono ?_); rintro e w1 ⟨rfl, hb1⟩; have BW := Lib.hid hb1; clear hb1)
  go_ret2
  exact ⟨rfl, BW.out.alloc BW.out.size _⟩
set_option maxRecDepth 1000000 in
set_option maxHeartbeats 2000000 in
theorem ref06_fits (k m : Nat) (A : Option Addr) (n c : Nat) (vs : List Value) (ls : List (List F)) (r : Bool) (w : World) (hkm : okkm k m) (ha : Sl w A c vs) (hb : Bss w vs ls) (hk : Alk ls ((k : Int) + (m : Int))) (hn : ls.length = n) (hl : ∀ l, l ∈ ls → l.length ≤ 100000) (hr : r = true ↔ enc k m (ls.take k) = ls) :
    Calls Try.prog 74 #[.int .i64 k, .int .i64 m, .slice A n c] w fun e w' => e = .returned (.tuple #[.bool r, .int .i64 0]) ∧ Below w.heap.size w w' := by
  obtain ⟨hk1, hm0, hkm256⟩ := id hkm
  have hkb : k + m ≤ 256 := by omega
  have hnn : n = k + m := by have := hk.1; omega
  have hnc : n ≤ c := by have := ha.le; rw [hb.1, hn] at this; exact this
  have hcm := ha.mx
  unfold maxLen at hcm
  have CK := Lib.hid (ref05_check_ok k m hkm w)
  have AL : Hid (Calls Try.prog 112 #[.slice A n c, .int .i64 ((k : Int) + (m : Int))] w fun e w'' => e = .returned (.bool true) ∧ Below w.heap.size w w'') := ref06_alike_r A n c vs ls _ true w ha hb hn (by omega) ⟨fun _ => hk, fun _ => rfl⟩
  have EN : Hid (∀ w', Below w.heap.size w w' → Calls Try.prog 72 #[.int .i64 k, .int .i64 m, .slice A k c] w' fun e w'' => ∃ A' c' rs, e = .returned (.tuple #[.slice A' (k + m) c', .int .i64 0]) ∧ lsts rs = enc k m (ls.take k) ∧ MadeR w' w'' A' (k + m) c' rs) := fun w' hw =>
    ref06_encode k m A c (vs.take k) (ls.take k) w' hkm ((ha.take k).below hw) ((hb.take k).below hw) (hk.take (by omega)) (mem_take_le hl)
  have EF : Hid (∀ w' A' c' rs, Below w.heap.size w w' → lsts rs = enc k m (ls.take k) → Sl w' A' c' (vals rs) → Bss w' (vals rs) (lsts rs) → Calls Try.prog 75 #[.slice A' (k + m) c', .slice A n c] w' fun e w'' => e = .returned (.bool r) ∧ Below w'.heap.size w' w'') := fun w' A' c' rs hw hls h1 h2 => by
    have hlen : (lsts rs).length = k + m := by rw [hls]; unfold enc; rw [List.length_append, length_accR, List.length_take]; omega
    exact ref06_same A' (k + m) c' (vals rs) (lsts rs) A n c vs ls r w' h1 h2 (ha.below hw) (hb.below hw) hlen hn (by omega) (by rw [hls]; exact hr)
  clear hkm ha hb hk hn hl hr hm0 hkm256
  have hkn : (k : Int) ≤ (c : Int) := by omega
  clear hnn
  go_enter Try.func74, Try.ntmps74
  go_wp2_with (first
    | (go_at_call 39; (with_reducible refine CK.out.mono ?_); rintro e w1 ⟨rfl, rfl⟩)
    | (go_at_call 112; (with_reducible refine AL.out.mono ?_); rintro e w1 ⟨rfl, hb1⟩; have BW := Lib.hid hb1; clear hb1)
    | (go_at_call 72; (with_reducible refine (EN.out _ BW.out).mono ?_); rintro e w2 ⟨A2, c2, rs, rfl, hls, hm⟩; have BW2 := Lib.hid (BW.out.trans (hm.bel.mono BW.out.size)); have E2 := Lib.hid (EF.out w2 A2 c2 rs BW2.out hls hm.sl hm.gr.bss); clear hls hm)
    | (go_at_call 75; (with_reducible refine E2.out.mono ?_); rintro e w3 ⟨rfl, hb3⟩; have BW3 := Lib.hid (BW2.out.trans (hb3.mono BW2.out.size)); clear hb3))
  go_ret2
  exact ⟨rfl, BW3.out⟩
set_option maxRecDepth 1000000 in
theorem ref06_fits_no (k m : Nat) (A : Option Addr) (n c : Nat) (vs : List Value) (ls : List (List F)) (w : World) (hkm : okkm k m) (ha : Sl w A c vs) (hb : Bss w vs ls) (hn : ls.length = n) (hm : n ≤ 1000) (hk : ¬ Alk ls ((k : Int) + (m : Int))) :
    Calls Try.prog 74 #[.int .i64 k, .int .i64 m, .slice A n c] w fun e w' => e = .returned (.tuple #[.bool false, .int .i64 60]) ∧ Below w.heap.size w w' := by
  obtain ⟨hk1, hm0, hkm256⟩ := id hkm
  have hkb : k + m ≤ 256 := by omega
  have CK := Lib.hid (ref05_check_ok k m hkm w)
  have AL : Hid (Calls Try.prog 112 #[.slice A n c, .int .i64 ((k : Int) + (m : Int))] w fun e w'' => e = .returned (.bool false) ∧ Below w.heap.size w w'') := ref06_alike_r A n c vs ls _ false w ha hb hn (by omega) ⟨(fun h => by cases h), fun h => absurd h hk⟩
  clear hkm ha hb hk hn
  go_enter Try.func74, Try.ntmps74
  go_wp2_with (first
    | (go_at_call 39; (with_reducible refine CK.out.mono ?_); rintro e w1 ⟨rfl, rfl⟩)
    | (go_at_call 112; (with_reducible refine AL.out.mono ?_); rintro e w1 ⟨rfl, hb1⟩; have BW := Lib.hid hb1; clear hb1))
  go_ret2
  exact ⟨rfl, BW.out⟩
theorem ref06_fits_bad (k m : Int) (A : Option Addr) (n c : Nat) (w : World) (hk : i64ok k) (hm : i64ok m) (hkm : ¬ okkm k m) :
    Calls Try.prog 74 #[.int .i64 k, .int .i64 m, .slice A n c] w fun e w' => e = .returned (.tuple #[.bool false, .int .i64 50]) ∧ Below w.heap.size w w' := by
  have CK := Lib.hid (ref05_check_bad k m hk hm hkm w)
  clear hkm hk hm
  go_enter Try.func74, Try.ntmps74
  go_wp2_with (go_at_call 39; (with_reducible refine CK.out.mono ?_); rintro e w1 ⟨rfl, rfl⟩)
  go_ret2
  exact ⟨rfl, Below.refl _ _⟩
end Go.Proofs.Ytmkjplpnoohfnaa
