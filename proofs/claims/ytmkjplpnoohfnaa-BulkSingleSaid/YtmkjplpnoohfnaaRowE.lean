/- aumbryref06.Alike, walked: n shards, all of one length. -/
import Derived.Test.YtmkjplpnoohfnaaRowD
namespace Go.Proofs.Ytmkjplpnoohfnaa
open Go.RowKit
set_option linter.unusedVariables false
set_option linter.unusedSimpArgs false
def lenAt (ls : List (List F)) (i : Nat) : Nat := (ls.getD i []).length
def Alk (ls : List (List F)) (n : Int) : Prop := (ls.length : Int) = n ∧ ∀ i, i < ls.length → lenAt ls i = lenAt ls 0
theorem Bss.len {w : World} {vs : List Value} {ls : List (List F)} (h : Bss w vs ls) {i : Nat} (hi : i < ls.length) : ∃ A c, vs[i]? = some (.slice A (lenAt ls i) c) ∧ Bs w A c (ls.getD i []) := by
  obtain ⟨A, c, l, h1, h2, h3⟩ := h.at' hi
  have e : ls.getD i [] = l := by rw [List.getD_eq_getElem?_getD, h1]; rfl
  exact ⟨A, c, by unfold lenAt; rw [e]; exact h2, by rw [e]; exact h3⟩
set_option maxRecDepth 1000000 in
theorem ref06_alike (A : Option Addr) (n c : Nat) (vs : List Value) (ls : List (List F)) (N : Int) (w : World) (ha : Sl w A c vs) (hb : Bss w vs ls) (hn : ls.length = n) (hm : n ≤ 1000) :
    Calls Try.prog 112 #[.slice A n c, .int .i64 N] w fun e w' => (Alk ls N ∧ e = .returned (.bool true) ∨ ¬ Alk ls N ∧ e = .returned (.bool false)) ∧ Below w.heap.size w w' := by
  have HA := Lib.hid ha
  have HB := Lib.hid hb
  have HN := Lib.hid hn
  clear ha hb hn
  by_cases h0 : (n : Int) = N
  · subst h0
    have d0 : ((n : Int) == (n : Int)) = true := by rw [beq_iff_eq]
    have d1 : ((n : Int) != (n : Int)) = false := by rw [bne_self_eq_false]
    go_enter Try.func112, Try.ntmps112
    go_wp2
    go_loopw [5] (fun v wr => ∃ i : Nat, 1 ≤ i ∧ v = .int .i64 i ∧ i ≤ n + 1 ∧ (∀ j, j < i → j < n → lenAt ls j = lenAt ls 0) ∧ Since w wr) (fun v _ => n + 1 - (intOf v).toNat)
    case atStart => exact ⟨1, Nat.le_refl _, rfl, by omega, fun j h1 h2 => by rw [show j = 0 by omega], Since.refl _⟩
    case round =>
      obtain ⟨i, h1, rfl, hi, hal, hs⟩ := hrel
      have HAL := Lib.hid hal
      have S1 := Lib.hid hs
      clear hal hs
      by_cases hlt : i < n
      · obtain ⟨A2, c2, h2, _⟩ := (HB.out.below S1.out).len (i := i) (by rw [HN.out]; exact hlt)
        obtain ⟨A3, c3, h3, _⟩ := (HB.out.below S1.out).len (i := 0) (by rw [HN.out]; omega)
        obtain ⟨b, o, hA, _, hc⟩ := Sl.at' (HA.out.below S1.out) (by rw [HB.out.1, HN.out]; omega)
        subst hA
        have y2 := hc i _ h2
        have y3 := hc 0 _ h3
        rw [Nat.add_zero] at y3
        have hit : (i : Int) < (n : Int) := by omega
        have h0t : (0 : Int) < (n : Int) := by omega
        clear hc h2 h3
        by_cases he : lenAt ls i = lenAt ls 0
        · have e0 : ((lenAt ls i : Int) == (lenAt ls 0 : Int)) = true := by rw [beq_iff_eq, he]
          have e1 : ((lenAt ls i : Int) != (lenAt ls 0 : Int)) = false := by rw [bne_eq_false_iff_eq, he]
          have HAL2 : Hid (∀ j, j < i + 1 → j < n → lenAt ls j = lenAt ls 0) := fun j hj1 hj2 => by
            rcases Nat.lt_or_ge j i with h | h
            · exact HAL.out j h hj2
            · rw [show j = i by omega]; exact he
          clear he
          go_wp2
          go_quiet (fail)
          go_wp2
          go_roundw
          case rel => exact ⟨i + 1, by omega, by go_num, by omega, HAL2.out, S1.out.drewN _⟩
          case measure => simp [intOf]; omega
        · have e0 : ((lenAt ls i : Int) == (lenAt ls 0 : Int)) = false := by rw [beq_eq_false_iff_ne]; omega
          have e1 : ((lenAt ls i : Int) != (lenAt ls 0 : Int)) = true := by rw [bne_iff_ne]; omega
          have NG : Hid (¬ Alk ls (n : Int)) := fun h => he (h.2 i (by rw [HN.out]; exact hlt))
          clear he
          go_wp2
          go_quiet (fail)
          go_wp2
          go_ret
          refine ⟨?_, S1.out.drewN _⟩
          right
          exact ⟨NG.out, rfl⟩
      · have YG : Hid (Alk ls (n : Int)) := ⟨by rw [HN.out], fun j hj => HAL.out j (by rw [HN.out] at hj; omega) (by rw [HN.out] at hj; exact hj)⟩
        have hge : ¬ (i : Int) < (n : Int) := by omega
        go_wp2
        go_ret
        refine ⟨?_, S1.out⟩
        left
        exact ⟨YG.out, rfl⟩
  · have d0 : ((n : Int) == N) = false := by rw [beq_eq_false_iff_ne]; exact h0
    have d1 : ((n : Int) != N) = true := by rw [bne_iff_ne]; exact h0
    have NG : Hid (¬ Alk ls N) := fun h => h0 (by rw [← HN.out]; exact h.1)
    clear h0
    go_enter Try.func112, Try.ntmps112
    go_wp2
    go_ret
    refine ⟨?_, Below.refl _ _⟩
    right
    exact ⟨NG.out, rfl⟩
end Go.Proofs.Ytmkjplpnoohfnaa
