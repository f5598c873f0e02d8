/- slices.EqualFunc of lists of shards, walked; bulk.Fits. -/
import Derived.Test.YtmkjplpnoohfnaaRowN
namespace Go.Proofs.Ytmkjplpnoohfnaa
open Go.RowKit
set_option linter.unusedVariables false
set_option linter.unusedSimpArgs false
/-- the answer to the question whether two lists of shards are one -/
def SameR (ls ls' : List (List F)) (e : Ending) : Prop := (ls = ls' ∧ e = .returned (.bool true)) ∨ (ls ≠ ls' ∧ e = .returned (.bool false))
theorem list_ext_lt {ls ls' : List (List F)} (h : ls.length = ls'.length) (hi : ∀ i, i < ls.length → ls.getD i [] = ls'.getD i []) : ls = ls' := by
  refine List.ext_getElem h fun i h1 h2 => ?_
  have := hi i h1
  rwa [List.getD_eq_getElem?_getD, List.getD_eq_getElem?_getD, List.getElem?_eq_getElem h1, List.getElem?_eq_getElem h2] at this
set_option maxRecDepth 1000000 in
theorem equal_func (A : Option Addr) (n c : Nat) (vs : List Value) (ls : List (List F)) (A' : Option Addr) (n' c' : Nat) (vs' : List Value) (ls' : List (List F)) (w : World) (ha : Sl w A c vs) (hb : Bss w vs ls) (ha' : Sl w A' c' vs') (hb' : Bss w vs' ls') (hn : ls.length = n) (hn' : ls'.length = n') (hm : n ≤ 1000) (hm' : n' ≤ 140737488355327) :
    Calls Try.prog 114 #[.slice A n c, .slice A' n' c', .func (.func 115) #[] #[]] w fun e w' => SameR ls ls' e ∧ Below w.heap.size w w' := by
  have HA := Lib.hid ha
  have HB := Lib.hid hb
  have HA' := Lib.hid ha'
  have HB' := Lib.hid hb'
  by_cases h0 : n = n'
  · have HN := Lib.hid hn
    have HN' : Hid (ls'.length = n) := hn'.trans h0.symm
    subst h0
    clear ha hb hn ha' hb' hn'
    go_enter Try.func114, Try.ntmps114
    go_wp2
    go_loopw [17] (fun v wr => ∃ i : Nat, i ≤ n ∧ v = .int .i64 i ∧ (∀ j, j < i → ls.getD j [] = ls'.getD j []) ∧ Since w wr) (fun v _ => n - (intOf v).toNat)
    case atStart => exact ⟨0, Nat.zero_le _, rfl, fun j h => absurd h (Nat.not_lt_zero j), Since.refl _⟩
    case round =>
      obtain ⟨i, hi, rfl, heq, hs⟩ := hrel
      have EQ := Lib.hid heq
      have S1 := Lib.hid hs
      clear heq hs
      by_cases hlt : i < n
      · obtain ⟨A2, c2, h2, h2b⟩ := (HB.out.below S1.out).len (i := i) (by rw [HN.out]; exact hlt)
        obtain ⟨A3, c3, h3, h3b⟩ := (HB'.out.below S1.out).len (i := i) (by rw [HN'.out]; exact hlt)
        obtain ⟨b, o, hA, _, hc⟩ := Sl.at' (HA.out.below S1.out) (by rw [HB.out.1, HN.out]; omega)
        obtain ⟨b', o', hA', _, hc'⟩ := Sl.at' (HA'.out.below S1.out) (by rw [HB'.out.1, HN'.out]; omega)
        subst hA
        subst hA'
        have y2 := hc i _ h2
        have y3 := hc' i _ h3
        have hit : (i : Int) < (n : Int) := by omega
        clear hc hc' h2 h3
        by_cases he : ls.getD i [] = ls'.getD i []
        · have hl : lenAt ls i = lenAt ls' i := by unfold lenAt; rw [he]
          rw [← hl] at y3
          have BE : Hid (Calls Try.prog 115 #[.slice A2 (lenAt ls i) c2, .slice A3 (lenAt ls i) c3] wr fun e w' => e = .returned (.bool true) ∧ wr = w') := bytes_equal_true A2 _ c2 A3 c3 _ wr h2b (by rw [he]; exact h3b) rfl
          have EQ2 : Hid (∀ j, j < i + 1 → ls.getD j [] = ls'.getD j []) := fun j hj => by
            rcases Nat.lt_or_ge j i with h | h
            · exact EQ.out j h
            · rw [show j = i by omega]; exact he
          clear h2b h3b he hl
          go_wp2_with (go_at_call 115; (with_reducible refine BE.out.mono ?_); rintro e w2 ⟨rfl, rfl⟩)
          go_roundw
          case rel => exact ⟨i + 1, by omega, by go_num, EQ2.out, S1.out⟩
          case measure => simp [intOf]; omega
        · have BE : Hid (Calls Try.prog 115 #[.slice A2 (lenAt ls i) c2, .slice A3 (lenAt ls' i) c3] wr fun e w' => e = .returned (.bool false) ∧ wr = w') := bytes_equal_false A2 _ c2 A3 _ c3 _ _ wr h2b h3b rfl rfl he
          have NE : Hid (ls ≠ ls') := fun e => he (by rw [e])
          clear h2b h3b he
          go_wp2_with (go_at_call 115; (with_reducible refine BE.out.mono ?_); rintro e w2 ⟨rfl, rfl⟩)
          go_ret
          exact ⟨.inr ⟨NE.out, rfl⟩, S1.out⟩
      · obtain rfl : i = n := by omega
        go_wp2
        go_ret
        exact ⟨.inl ⟨list_ext_lt (HN.out.trans HN'.out.symm) fun j hj => EQ.out j (by rw [← HN.out]; exact hj), rfl⟩, S1.out⟩
  · have NE : Hid (ls ≠ ls') := fun e => h0 (by rw [← hn, ← hn', e])
    have d0 : ((n : Int) == (n' : Int)) = false := by rw [beq_eq_false_iff_ne]; omega
    have d1 : ((n : Int) != (n' : Int)) = true := by rw [bne_iff_ne]; omega
    clear ha hb hn ha' hb' hn' h0
    go_enter Try.func114, Try.ntmps114
    go_wp2
    go_ret
    exact ⟨.inr ⟨NE.out, rfl⟩, Below.refl _ _⟩
end Go.Proofs.Ytmkjplpnoohfnaa
