/- bulk.Fits, walked. -/
import Derived.Test.YtmkjplpnoohfnaaRowO
namespace Go.Proofs.Ytmkjplpnoohfnaa
open Go.RowKit
set_option linter.unusedVariables false
set_option linter.unusedSimpArgs false
theorem SameR.r {ls ls' : List (List F)} {e : Ending} {r : Bool} (h : SameR ls ls' e) (hr : r = true ↔ ls = ls') : e = .returned (.bool r) := by
  rcases h with ⟨h, rfl⟩ | ⟨h, rfl⟩
  · rw [hr.2 h]
  · cases r with
    | true => exact absurd (hr.1 rfl) h
    | false => rfl
theorem Bss.take {w : World} {vs : List Value} {ls : List (List F)} (h : Bss w vs ls) (k : Nat) : Bss w (vs.take k) (ls.take k) := by
  refine ⟨by rw [List.length_take, List.length_take, h.1], fun i l hl => ?_⟩
  rw [List.getElem?_take] at hl
  split at hl
  · obtain ⟨A, c, h1, h2⟩ := h.2 i l hl
    exact ⟨A, c, by rw [List.getElem?_take, if_pos ‹_›]; exact h1, h2⟩
  · cases hl
theorem Bss.drop {w : World} {vs : List Value} {ls : List (List F)} (h : Bss w vs ls) (k : Nat) : Bss w (vs.drop k) (ls.drop k) := by
  refine ⟨by rw [List.length_drop, List.length_drop, h.1], fun i l hl => ?_⟩
  rw [List.getElem?_drop] at hl
  obtain ⟨A, c, h1, h2⟩ := h.2 _ l hl
  exact ⟨A, c, by rw [List.getElem?_drop]; exact h1, h2⟩
theorem Sl.take {w : World} {A : Option Addr} {c : Nat} {xs : List Value} (h : Sl w A c xs) (k : Nat) : Sl w A c (xs.take k) := by
  refine ⟨Nat.le_trans (by rw [List.length_take]; exact Nat.min_le_right _ _) h.le, h.mx, ?_⟩
  rcases h.cells with h | ⟨b, o, hA, hl, hc⟩
  · exact .inl (by rw [h]; exact List.take_nil)
  · refine .inr ⟨b, o, hA, hl, fun i v hv => ?_⟩
    rw [List.getElem?_take] at hv
    split at hv
    · exact hc i v hv
    · cases hv
theorem lenAt_take {ls : List (List F)} {k i : Nat} (h : i < k) : lenAt (ls.take k) i = lenAt ls i := by
  unfold lenAt
  rw [List.getD_eq_getElem?_getD, List.getElem?_take, if_pos h, List.getD_eq_getElem?_getD]
theorem Alk.take {ls : List (List F)} {n : Int} (h : Alk ls n) {k : Nat} (hk : k ≤ ls.length) : Alk (ls.take k) k := by
  refine ⟨by rw [List.length_take]; omega, fun i hi => ?_⟩
  rw [List.length_take] at hi
  rw [lenAt_take (by omega), lenAt_take (by omega)]
  exact h.2 i (by omega)
theorem mem_take_le {ls : List (List F)} {k : Nat} (hl : ∀ l, l ∈ ls → l.length ≤ 100000) : ∀ l, l ∈ ls.take k → l.length ≤ 100000 := fun l h => hl l (List.mem_of_mem_take h)
set_option maxRecDepth 1000000 in
set_option maxHeartbeats 2000000 in
theorem bulk_fits (b k m : Nat) (A : Option Addr) (n c : Nat) (vs : List Value) (ls : List (List F)) (r : Bool) (w : World) (hkm : okkm k m) (hg : GfAt w b) (ha : Sl w A c vs) (hb : Bss w vs ls) (hk : Alk ls ((k : Int) + (m : Int))) (hn : ls.length = n) (hl : ∀ l, l ∈ ls → l.length ≤ 100000) (hr : r = true ↔ enc k m (ls.take k) = ls) :
    Calls Try.prog 73 #[fp b, .int .i64 k, .int .i64 m, .slice A n c] w fun e w' => e = .returned (.tuple #[.bool r, .int .i64 0]) ∧ Below w.heap.size w w' := by
  obtain ⟨hk1, hm0, hkm256⟩ := id hkm
  have hkb : k + m ≤ 256 := by omega
  have hnn : n = k + m := by have := hk.1; omega
  have hnc : n ≤ c := by have := ha.le; rw [hb.1, hn] at this; exact this
  have hcm := ha.mx
  unfold maxLen at hcm
  have CK : Hid (Calls Try.prog 109 #[fp b, .int .i64 k, .int .i64 m, .int .i64 ((k : Int) + (m : Int)), .slice A n c] w fun e w' => ∃ A' c', e = .returned (.tuple #[.agg #[.int .i64 (m : Int), .int .i64 (k : Int), .slice A' (m * k) c'], .int .i64 0]) ∧ Bs w' A' c' (matL m k (parF k)) ∧ Below w.heap.size w w') := bulk_checked_yes b k m _ A n c vs ls w hkm hg ha hb hn (by omega) hk
  have EN : Hid (∀ w', Below w.heap.size w w' → Calls Try.prog 71 #[fp b, .int .i64 k, .int .i64 m, .slice A k c] w' fun e w'' => ∃ A' c' rs, e = .returned (.tuple #[.slice A' (k + m) c', .int .i64 0]) ∧ lsts rs = enc k m (ls.take k) ∧ MadeR w' w'' A' (k + m) c' rs) := fun w' hw =>
    bulk_encode b k m A c (vs.take k) (ls.take k) w' hkm (hg.below hw) ((ha.take k).below hw) ((hb.take k).below hw) (hk.take (by omega)) (mem_take_le hl)
  have EF : Hid (∀ w' A' c' rs, Below w.heap.size w w' → lsts rs = enc k m (ls.take k) → Sl w' A' c' (vals rs) → Bss w' (vals rs) (lsts rs) → Calls Try.prog 114 #[.slice A' (k + m) c', .slice A n c, .func (.func 115) #[] #[]] w' fun e w'' => e = .returned (.bool r) ∧ Below w'.heap.size w' w'') := fun w' A' c' rs hw hls h1 h2 => by
    have hlen : (lsts rs).length = k + m := by rw [hls]; unfold enc; rw [List.length_append, length_accR, List.length_take]; omega
    exact (equal_func A' (k + m) c' (vals rs) (lsts rs) A n c vs ls w' h1 h2 (ha.below hw) (hb.below hw) hlen hn (by omega) (by omega)).mono fun e w'' ⟨h3, h4⟩ => ⟨h3.r (by rw [hls]; exact hr), h4⟩
  clear hkm hg ha hb hk hn hl hr hm0 hkm256
  have hkn : (k : Int) ≤ (c : Int) := by omega
  unfold fp at CK EN ⊢
  obtain ⟨mk, hmk⟩ : ∃ mk, m * k = mk := ⟨_, rfl⟩
  rw [hmk] at CK
  clear hmk hnn
  go_enter Try.func73, Try.ntmps73
  go_wp2_with (first
    | (go_at_call 109; (with_reducible refine CK.out.mono ?_); rintro e w1 ⟨Ap, cp, rfl, _, hb1⟩; have BW : Hid (Below w.heap.size w (w1.alloc (.cells #[.int .i64 (m : Int), .int .i64 (k : Int), .slice Ap mk cp] 30))) := hb1.alloc hb1.size _; clear hb1)
    | (go_at_call 71; (with_reducible refine (EN.out _ BW.out).mono ?_); rintro e w2 ⟨A2, c2, rs, rfl, hls, hm⟩; have BW2 := Lib.hid (BW.out.trans (hm.bel.mono BW.out.size)); have E2 := Lib.hid (EF.out w2 A2 c2 rs BW2.out hls hm.sl hm.gr.bss); clear hls hm)
    | (go_at_call 114; (with_reducible refine E2.out.mono ?_); rintro e w3 ⟨rfl, hb3⟩; have BW3 := Lib.hid (BW2.out.trans (hb3.mono BW2.out.size)); clear hb3))
  go_ret2
  exact ⟨rfl, BW3.out⟩
set_option maxRecDepth 1000000 in
theorem bulk_fits_no (b k m : Nat) (A : Option Addr) (n c : Nat) (vs : List Value) (ls : List (List F)) (w : World) (hkm : okkm k m) (hg : GfAt w b) (ha : Sl w A c vs) (hb : Bss w vs ls) (hn : ls.length = n) (hm : n ≤ 1000) (hk : ¬ Alk ls ((k : Int) + (m : Int))) :
    Calls Try.prog 73 #[fp b, .int .i64 k, .int .i64 m, .slice A n c] w fun e w' => e = .returned (.tuple #[.bool false, .int .i64 60]) ∧ Below w.heap.size w w' := by
  obtain ⟨hk1, hm0, hkm256⟩ := id hkm
  have hkb : k + m ≤ 256 := by omega
  have CK := Lib.hid (bulk_checked_no b k m _ A n c vs ls w hkm hg ha hb hn hm hk)
  clear hkm hg ha hb hn hm hk
  unfold fp at CK ⊢
  generalize m * k = mk at *
  go_enter Try.func73, Try.ntmps73
  go_wp2_with (go_at_call 109; (with_reducible refine CK.out.mono ?_); rintro e w1 ⟨Ap, cp, rfl, hb1⟩; have HB1 := Lib.hid hb1; clear hb1)
  go_ret2
  exact ⟨rfl, HB1.out.alloc HB1.out.size _⟩
set_option maxRecDepth 1000000 in
theorem bulk_fits_bad (b : Nat) (k m : Int) (A : Option Addr) (n c : Nat) (w : World) (hk : i64ok k) (hm : i64ok m) (hkm : ¬ okkm k m) :
    Calls Try.prog 73 #[fp b, .int .i64 k, .int .i64 m, .slice A n c] w fun e w' => e = .returned (.tuple #[.bool false, .int .i64 50]) ∧ Below w.heap.size w w' := by
  have CK : Hid (∀ N, Calls Try.prog 109 #[fp b, .int .i64 k, .int .i64 m, .int .i64 N, .slice A n c] w fun e w' => e = .returned (.tuple #[noMat, .int .i64 50]) ∧ Below w.heap.size w w') := fun N => bulk_checked_bad b k m N A n c w hk hm hkm
  clear hk hm hkm
  unfold fp noMat at CK
  unfold fp
  go_enter Try.func73, Try.ntmps73
  go_wp2_with (go_at_call 109; (with_reducible refine (CK.out _).mono ?_); rintro e w1 ⟨rfl, hb1⟩; have HB1 := Lib.hid hb1; clear hb1)
  go_ret2
  exact ⟨rfl, HB1.out.alloc HB1.out.size _⟩
end Go.Proofs.Ytmkjplpnoohfnaa
