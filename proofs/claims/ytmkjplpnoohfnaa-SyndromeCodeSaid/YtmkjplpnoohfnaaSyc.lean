/- aumbryref08.Column, Line, aumbrylaw08.nought, walked; a code's words and their syndromes. -/
import Derived.Test.YtmkjplpnoohfnaaLaw06b
import Derived.Test.YtmkjplpnoohfnaaSynB
import Derived.Test.YtmkjplpnoohfnaaLaw08
namespace Go.Proofs.Ytmkjplpnoohfnaa
open Go.RowKit
set_option linter.unusedVariables false
set_option linter.unusedSimpArgs false
/-- a word, as shards of one byte -/
def colW (l : List F) : List (List F) := l.map fun x => [x]
theorem length_colW (l : List F) : (colW l).length = l.length := List.length_map ..
theorem colW_at {l : List F} {a : Nat} (ha : a < l.length) : (colW l)[a]? = some [l.getD a 0] := by
  unfold colW
  rw [List.getElem?_map, List.getElem?_eq_getElem ha, List.getD_eq_getElem?_getD, List.getElem?_eq_getElem ha]; rfl
theorem eql_colW {l : List F} {k : Nat} (h : l.length = k) : Eql (colW l) k 1 := ⟨by rw [length_colW, h], fun i hi => by
  unfold lenAt
  rw [List.getD_eq_getElem?_getD, colW_at (by omega)]; rfl⟩
theorem at2_colW {l : List F} {a : Nat} (ha : a < l.length) : at2 (colW l) a 0 = l.getD a 0 := by
  show ((colW l).getD a []).getD 0 0 = _
  rw [List.getD_eq_getElem?_getD (l := colW l), colW_at ha]; rfl
theorem own_one (w : World) (y : F) : ownR (w.alloc (.cells #[bv y] 5)) w.heap.size (some ⟨w.heap.size, 0, none⟩, 1, [y]) :=
  ⟨rfl, .inr ⟨w.heap.size, 1, #[bv y], rfl, Nat.le_refl _, heap_alloc_new w _, Nat.le_refl _, by unfold maxLen; omega, rfl, rfl⟩⟩
set_option maxRecDepth 1000000 in
theorem column_out (l : List F) (n : Nat) (hn : l.length = n) (hm : n ≤ 900) (A : Option Addr) (c : Nat) (w : World) (ha : Bs w A c l) :
    Calls Try.prog 81 #[.slice A n c] w fun e w' => ∃ A' c', e = .returned (.slice A' n c') ∧ Rr w' A' c' (colW l) ∧ Below w.heap.size w w' := by
  have HA := Lib.hid ha
  have HN := Lib.hid hn
  have COL : Hid (∀ i, i < n → (colW l)[i]? = some [l.getD i 0]) := fun i hi => colW_at (by omega)
  have CLN : Hid ((colW l).length = n) := by show _ = _; rw [length_colW, hn]
  clear ha hn
  generalize colW l = C at *
  have M0 : Hid (MadeR w w none 0 0 []) := ⟨World.ownsRow_nil _ _ _ _, Grid.nil _ _, Below.refl _ _⟩
  go_enter Try.func81, Try.ntmps81
  go_wp2
  go_loopw [3, 4] (fun u v wr => ∃ (i : Nat) (rs : List Row) (A5 : Option Addr) (c5 : Nat), i ≤ n ∧ v = .int .i64 i ∧ u = .slice A5 i c5 ∧ lsts rs = C.take i ∧ MadeR w wr A5 i c5 rs) (fun _ v _ => n - (intOf v).toNat)
  case atStart => exact ⟨0, [], none, 0, Nat.zero_le _, rfl, rfl, rfl, M0.out⟩
  case round =>
    clear M0
    obtain ⟨i, rs, A5, c5, hi, rfl, rfl, hls, hmr⟩ := hrel
    have HLS := Lib.hid hls
    have MR := Lib.hid hmr
    clear hls hmr
    by_cases hlt : i < n
    · obtain ⟨b3, o3, hA, _, hc⟩ := Bs.at' (Sl.below HA.out MR.out.bel) (by rw [HN.out]; omega)
      subst hA
      have y3 := hc i (by rw [HN.out]; exact hlt)
      have CI := Lib.hid (COL.out i hlt)
      clear hc
      generalize l.getD i 0 = v at *
      have hit : (i : Int) < (n : Int) := by omega
      go_wp2_with (at_builtin; refine app_spine _ rfl _ _ rfl w.heap.size A5 c5 i (vals rs) rfl (own_below MR.out.sp ((below_alloc wr (.cells #[bv v] 5)).trans ((below_alloc _ _).mono (by simp)))) _ 1 (.slice (some ⟨wr.heap.size, 0, none⟩) 1 1) rfl (lit_row _ (by simp)) rfl (by omega) ?hb ?_; (case hb => exact Nat.le_trans MR.out.bel.size (by simp; omega)); intro A6 c6 w6 ho6 hg6; have HO6 := Lib.hid ho6; have HG6 := Lib.hid hg6; clear ho6 hg6)
      go_roundw
      case rel =>
        refine ⟨i + 1, rs ++ [(some ⟨wr.heap.size, 0, none⟩, 1, [v])], A6, c6, by omega, by go_num, rfl, ?_, MR.out.push (below_alloc wr (.cells #[bv v] 5)) (own_one wr v) (.cells #[.slice (some ⟨wr.heap.size, 0, none⟩) 1 1] 28) HO6.out HG6.out⟩
        rw [lsts_append, HLS.out, List.take_add_one, CI.out]; rfl
      case measure => simp [intOf]; omega
    · obtain rfl : i = n := by omega
      have hit : ¬ (i : Int) < (i : Int) := by omega
      have hal : lsts rs = C := by rw [HLS.out, List.take_of_length_le (by rw [CLN.out]; exact Nat.le_refl _)]
      have HAL := Lib.hid hal
      clear hal
      go_wp2
      go_ret
      exact ⟨_, _, rfl, MR.out.rr HAL.out, MR.out.bel⟩
set_option maxRecDepth 1000000 in
theorem line_out (X : List (List F)) (n : Nat) (hX : Eql X n 1) (hm : n ≤ 900) (A : Option Addr) (c : Nat) (w : World) (ha : Rr w A c X) :
    Calls Try.prog 82 #[.slice A n c] w fun e w' => ∃ A' c', e = .returned (.slice A' n c') ∧ Bs w' A' c' (tab n fun i => at2 X i 0) ∧ Below w.heap.size w w' := by
  have HA := Lib.hid ha
  have HX := Lib.hid hX
  clear ha hX
  go_enter Try.func82, Try.ntmps82
  go_wp2
  go_loopw [3, 4] (fun u v wr => ∃ (i : Nat) (A5 : Option Addr) (c5 : Nat), i ≤ n ∧ v = .int .i64 i ∧ u = .slice A5 i c5 ∧ wr.ownsRow w.heap.size 5 1 (.slice A5 i c5) i ((tab i fun i => at2 X i 0).map bv) ∧ Below w.heap.size w wr) (fun _ v _ => n - (intOf v).toNat)
  case atStart => exact ⟨0, none, 0, Nat.zero_le _, rfl, rfl, World.ownsRow_nil _ _ _ _, Below.refl _ _⟩
  case round =>
    obtain ⟨i, A5, c5, hi, rfl, rfl, ho, hbel⟩ := hrel
    have HO := Lib.hid ho
    have HB := Lib.hid hbel
    clear ho hbel
    by_cases hlt : i < n
    · obtain ⟨b3, o3, A3, c3, hA, y3, h3⟩ := (HA.out.below HB.out).get (i := i) (by rw [HX.out.len]; exact hlt)
      subst hA
      rw [HX.out.row i hlt] at y3
      have hr : (X.getD i []).length = 1 := HX.out.row i hlt
      have hr1 : X.getD i [] = [at2 X i 0] := by
        unfold at2
        cases h : X.getD i [] with
        | nil => rw [h] at hr; cases hr
        | cons a l => rw [h] at hr; cases l with
          | nil => rfl
          | cons b l => simp at hr
      rw [hr1] at h3
      have H3 := Lib.hid h3
      have TS := Lib.hid (tab_succ' i fun i => at2 X i 0)
      clear h3 hr hr1
      have hit : (i : Int) < (n : Int) := by omega
      go_wp2_with (at_builtin; refine app_bytes _ rfl _ _ rfl w.heap.size A5 c5 i _ rfl HO.out _ _ 1 _ rfl H3.out rfl (by omega) HB.out.size ?_; intro A7 c7 w7 ho7 hb7; rw [← TS.out] at ho7; have HO7 := Lib.hid ho7; have HB7 : Hid (Below w.heap.size w w7) := HB.out.trans hb7; clear ho7 hb7)
      go_roundw
      case rel => exact ⟨i + 1, A7, c7, by omega, by go_num, rfl, HO7.out, HB7.out⟩
      case measure => simp [intOf]; omega
    · obtain rfl : i = n := by omega
      have hit : ¬ (i : Int) < (i : Int) := by omega
      go_wp2
      go_ret
      exact ⟨_, _, rfl, own_sl HO.out, HB.out⟩
set_option maxRecDepth 1000000 in
theorem nought_out (l : List F) (n : Nat) (r : Bool) (hn : l.length = n) (hr : r = true ↔ ∀ i, i < n → l.getD i 0 = 0) (A : Option Addr) (c : Nat) (w : World) (ha : Bs w A c l) :
    Calls Try.prog 83 #[.slice A n c] w fun e w' => e = .returned (.bool r) ∧ Below w.heap.size w w' := by
  have hnc : n ≤ 9223372036854775807 := by have := ha.len; have := ha.mx; unfold maxLen at this; omega
  have HA := Lib.hid ha
  have HN := Lib.hid hn
  have YES := Lib.hid hr.2
  have NO : Hid (¬ (∀ i, i < n → l.getD i 0 = 0) → r = false) := fun h => by
    cases r with
    | true => exact absurd (hr.1 rfl) h
    | false => rfl
  clear ha hn hr
  go_enter Try.func83, Try.ntmps83
  go_wp2
  go_loopw [3] (fun v wr => ∃ i : Nat, i ≤ n ∧ v = .int .i64 i ∧ (∀ j, j < i → l.getD j 0 = 0) ∧ Since w wr) (fun v _ => n - (intOf v).toNat)
  case atStart => exact ⟨0, Nat.zero_le _, rfl, fun j h => absurd h (Nat.not_lt_zero j), Since.refl _⟩
  case round =>
    obtain ⟨i, hi, rfl, hal, hs⟩ := hrel
    have HAL := Lib.hid hal
    have S := Lib.hid hs
    clear hal hs
    by_cases hlt : i < n
    · obtain ⟨b3, o3, hA, _, hc⟩ := Bs.at' (Sl.below HA.out S.out) (by rw [HN.out]; omega)
      subst hA
      have y3 := hc i (by rw [HN.out]; exact hlt)
      clear hc
      have hit : (i : Int) < (n : Int) := by omega
      by_cases hz : l.getD i 0 = 0
      · have HAL2 : Hid (∀ j, j < i + 1 → l.getD j 0 = 0) := fun j hj => by
          rcases Nat.lt_or_ge j i with h | h
          · exact HAL.out j h
          · rw [show j = i by omega]; exact hz
        rw [hz] at y3
        have y4 : wr.cell? ⟨b3, o3 + i, none⟩ = some (.int .u8 0) := y3
        clear y3 hz
        go_wp2
        go_roundw
        case rel => exact ⟨i + 1, by omega, by go_num, HAL2.out, S.out⟩
        case measure => simp [intOf]; omega
      · have R : Hid (r = false) := NO.out fun h => hz (h i hlt)
        have d0 : (((l.getD i 0).n : Int) == 0) = false := bne_n (y := 0) hz
        have d1 : (((l.getD i 0).n : Int) != 0) = true := nne_n (y := 0) hz
        clear hz
        generalize l.getD i 0 = v at *
        go_wp2
        go_ret
        exact ⟨by rw [R.out]; rfl, S.out⟩
    · obtain rfl : i = n := by omega
      have R : Hid (r = true) := YES.out fun j hj => HAL.out j hj
      have hit : ¬ (i : Int) < (i : Int) := by omega
      go_wp2
      go_ret
      exact ⟨by rw [R.out]; rfl, S.out⟩
end Go.Proofs.Ytmkjplpnoohfnaa
