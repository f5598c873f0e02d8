/- bulk.checked, walked. -/
import Derived.Test.YtmkjplpnoohfnaaRowE
import Derived.Test.YtmkjplpnoohfnaaCauBad
namespace Go.Proofs.Ytmkjplpnoohfnaa
open Go.RowKit
set_option linter.unusedVariables false
set_option linter.unusedSimpArgs false
set_option maxRecDepth 1000000 in
set_option maxHeartbeats 2000000 in
theorem bulk_checked (b k m : Nat) (N : Int) (A : Option Addr) (n c : Nat) (vs : List Value) (ls : List (List F)) (w : World) (hkm : okkm k m) (hg : GfAt w b) (ha : Sl w A c vs) (hb : Bss w vs ls) (hn : ls.length = n) (hm : n ≤ 1000) :
    Calls Try.prog 109 #[fp b, .int .i64 k, .int .i64 m, .int .i64 N, .slice A n c] w fun e w' => ∃ A' c', (Alk ls N ∧ e = .returned (.tuple #[.agg #[.int .i64 (m : Int), .int .i64 (k : Int), .slice A' (m * k) c'], .int .i64 0]) ∨ ¬ Alk ls N ∧ e = .returned (.tuple #[.agg #[.int .i64 (m : Int), .int .i64 (k : Int), .slice A' (m * k) c'], .int .i64 60])) ∧ Bs w' A' c' (matL m k (parF k)) ∧ Below w.heap.size w w' := by
  have HA := Lib.hid ha
  have HB := Lib.hid hb
  have HN := Lib.hid hn
  have PA : Hid (∀ w, GfAt w b → Calls Try.prog 41 #[fp b, .int .i64 k, .int .i64 m] w fun e w' => ∃ A' c', e = .returned (.tuple #[.agg #[.int .i64 (m : Int), .int .i64 (k : Int), .slice A' (m * k) c'], .int .i64 0]) ∧ w'.ownsRow w.heap.size 5 1 (.slice A' (m * k) c') (m * k) ((matL m k (parF k)).map bv) ∧ Below w.heap.size w w') := fun w hg => cauchy_Parity b k m hkm w hg
  have HG := Lib.hid (hg.alloc (.cells #[.int .i64 0, .int .i64 0, .slice none 0 0] 30))
  clear ha hb hn hg hkm
  generalize matL m k (parF k) = lp at *
  generalize m * k = nm at *
  have K0 := Lib.hid (kn1 w 30 #[.int .i64 0, .int .i64 0, .slice none 0 0])
  have W0 := Lib.hid (below1 w (.cells #[.int .i64 0, .int .i64 0, .slice none 0 0] 30))
  have ALK : Hid ((n : Int) = N → (∀ j, j < n → lenAt ls j = lenAt ls 0) → Alk ls N) := fun h1 h2 => ⟨by rw [HN.out]; exact h1, fun j hj => h2 j (by rw [HN.out] at hj; exact hj)⟩
  unfold fp at PA ⊢
  go_enter Try.func109, Try.ntmps109
  go_wp2
  go_step3
  go_wp2_with (go_at_call 41; (with_reducible refine (PA.out _ HG.out).mono ?_); rintro e w1 ⟨Ap, cp, rfl, ho1, hb1⟩; have K1 := Lib.hid (((K0.out.below hb1).alloc (.cells #[.int .i64 (m : Int), .int .i64 (k : Int), .slice Ap nm cp] 30)).blk (Blk.new w1 #[.int .i64 (m : Int), .int .i64 (k : Int), .slice Ap nm cp] 30)); have W1 : Hid (Below w.heap.size w (w1.alloc (.cells #[.int .i64 (m : Int), .int .i64 (k : Int), .slice Ap nm cp] 30))) := (W0.out.trans (hb1.mono W0.out.size)).alloc (W0.out.trans (hb1.mono W0.out.size)).size _; have OW := Lib.hid (ho1.alloc (.cells #[.int .i64 (m : Int), .int .i64 (k : Int), .slice Ap nm cp] 30)); clear hb1 ho1)
  have X : Hid (Since (w1.alloc (.cells #[.int .i64 (m : Int), .int .i64 (k : Int), .slice Ap nm cp] 30)) (w1.alloc (.cells #[.int .i64 (m : Int), .int .i64 (k : Int), .slice Ap nm cp] 30))) := Since.refl _
  go_step3
  go_wp2
  go_loopw [14, 34] (fun u v wr => ∃ i : Nat, i ≤ n ∧ v = .int .i64 i ∧ u = .bool ((n : Int) != N) ∧ (∀ j, j < i → lenAt ls j = lenAt ls 0) ∧ Since (w1.alloc (.cells #[.int .i64 (m : Int), .int .i64 (k : Int), .slice Ap nm cp] 30)) wr) (fun _ v _ => n - (intOf v).toNat)
  case atStart => exact ⟨0, Nat.zero_le _, rfl, rfl, fun j h => absurd h (Nat.not_lt_zero j), Since.refl _⟩
  case round =>
    clear X
    obtain ⟨i, hi, rfl, rfl, hal, hs⟩ := hrel
    have HAL := Lib.hid hal
    have K2 := Lib.hid (K1.out.below hs)
    have S2 : Hid (Below w.heap.size w wr) := W1.out.trans (hs.mono W1.out.size)
    have OW2 := Lib.hid (own_below OW.out hs)
    have S1 := Lib.hid hs
    have NE2 := Lib.hid (own_ne_blk OW2.out (K2.out.at (.tail _ (.head _))) (by decide))
    have p0 := (K2.out.at (.head _)).cell 0; have p1 := (K2.out.at (.head _)).cell 1; have p2 := (K2.out.at (.head _)).cell 2; simp only [List.getElem?_toArray, List.getElem?_cons_succ, List.getElem?_cons_zero] at p0 p1 p2; have q0 := (K2.out.at (.tail _ (.head _))).cell 0; have q1 := (K2.out.at (.tail _ (.head _))).cell 1; have q2 := (K2.out.at (.tail _ (.head _))).cell 2; have qz0 := (K2.out.at (.tail _ (.head _))).frozen 0; have qz1 := (K2.out.at (.tail _ (.head _))).frozen 1; have qz2 := (K2.out.at (.tail _ (.head _))).frozen 2; simp only [List.getElem?_toArray, List.getElem?_cons_succ, List.getElem?_cons_zero] at q0 q1 q2
    clear hal hs
    by_cases hlt : i < n
    · obtain ⟨A2, c2, h2, _⟩ := (HB.out.below S2.out).len (i := i) (by rw [HN.out]; exact hlt)
      obtain ⟨A3, c3, h3, _⟩ := (HB.out.below S2.out).len (i := 0) (by rw [HN.out]; omega)
      obtain ⟨b', o, hA, _, hc⟩ := Sl.at' (HA.out.below S2.out) (by rw [HB.out.1, HN.out]; omega)
      subst hA
      have y2 := hc i _ h2
      have y3 := hc 0 _ h3
      rw [Nat.add_zero] at y3
      have hit : (i : Int) < (n : Int) := by omega
      have h0t : (0 : Int) < (n : Int) := by omega
      clear hc h2 h3
      by_cases he : lenAt ls i = lenAt ls 0
      · have e0 : ((lenAt ls i : Int) == (lenAt ls 0 : Int)) = true := by rw [beq_iff_eq, he]
        have e1 : ((lenAt ls i : Int) != (lenAt ls 0 : Int)) = false := by rw [bne_eq_false_iff_eq, he]
        have HAL2 : Hid (∀ j, j < i + 1 → lenAt ls j = lenAt ls 0) := fun j hj1 => by
          rcases Nat.lt_or_ge j i with h | h
          · exact HAL.out j h
          · rw [show j = i by omega]; exact he
        clear he
        go_wp2
        go_roundw
        case rel => exact ⟨i + 1, by omega, by go_num, rfl, HAL2.out, S1.out⟩
        case measure => simp [intOf]; omega
      · have e0 : ((lenAt ls i : Int) == (lenAt ls 0 : Int)) = false := by rw [beq_eq_false_iff_ne]; omega
        have e1 : ((lenAt ls i : Int) != (lenAt ls 0 : Int)) = true := by rw [bne_iff_ne]; omega
        have NG : Hid (¬ Alk ls N) := fun h => he (h.2 i (by rw [HN.out]; exact hlt))
        clear he
        go_wp2
        have hfin := (((K2.out.at (.tail _ (.head _))).set 0 (.int .i64 (m : Int))).set 1 (.int .i64 (k : Int))).set 2 (.slice Ap nm cp)
        have h3 := hfin.cell 0
        have h4 := hfin.cell 1
        have h5 := hfin.cell 2
        simp only [List.getElem?_toArray, List.getElem?_cons_succ, List.getElem?_cons_zero, List.setIfInBounds_toArray, List.set_cons_zero, List.set_cons_succ] at h3 h4 h5
        (try rw [Exit.noGoto_ret])
        refine bodyPost_ret (v := .tuple #[.agg #[.int .i64 (m : Int), .int .i64 (k : Int), .slice Ap nm cp], .int .i64 60]) ?_ rfl ?_
        · rw [results_cell_tmp rfl]
          go_simp
        · refine ⟨Ap, cp, .inr ⟨NG.out, rfl⟩, ?_, ((S2.out.setCell (Nat.le_refl _) _).setCell (Nat.le_refl _) _).setCell (Nat.le_refl _) _⟩
          exact ((own_sl (ownsRow_setCell_other (ownsRow_setCell_other (ownsRow_setCell_other OW2.out NE2.out _) NE2.out _) NE2.out _)))
    · have hge : ¬ (i : Int) < (n : Int) := by omega
      by_cases h0 : (n : Int) = N
      · have d0 : ((n : Int) == N) = true := by rw [beq_iff_eq]; exact h0
        have d1 : ((n : Int) != N) = false := by rw [bne_eq_false_iff_eq]; exact h0
        have YG : Hid (Alk ls N) := ALK.out h0 fun j hj => HAL.out j (by omega)
        clear h0
        go_wp2
        have hfin := (((K2.out.at (.tail _ (.head _))).set 0 (.int .i64 (m : Int))).set 1 (.int .i64 (k : Int))).set 2 (.slice Ap nm cp)
        have h3 := hfin.cell 0
        have h4 := hfin.cell 1
        have h5 := hfin.cell 2
        simp only [List.getElem?_toArray, List.getElem?_cons_succ, List.getElem?_cons_zero, List.setIfInBounds_toArray, List.set_cons_zero, List.set_cons_succ] at h3 h4 h5
        (try rw [Exit.noGoto_ret])
        refine bodyPost_ret (v := .tuple #[.agg #[.int .i64 (m : Int), .int .i64 (k : Int), .slice Ap nm cp], .int .i64 0]) ?_ rfl ?_
        · rw [results_cell_tmp rfl]
          go_simp
        · refine ⟨Ap, cp, .inl ⟨YG.out, rfl⟩, ?_, ((S2.out.setCell (Nat.le_refl _) _).setCell (Nat.le_refl _) _).setCell (Nat.le_refl _) _⟩
          exact ((own_sl (ownsRow_setCell_other (ownsRow_setCell_other (ownsRow_setCell_other OW2.out NE2.out _) NE2.out _) NE2.out _)))
      · have d0 : ((n : Int) == N) = false := by rw [beq_eq_false_iff_ne]; exact h0
        have d1 : ((n : Int) != N) = true := by rw [bne_iff_ne]; exact h0
        have NG : Hid (¬ Alk ls N) := fun h => h0 (by rw [← HN.out]; exact h.1)
        clear h0
        go_wp2
        have hfin := (((K2.out.at (.tail _ (.head _))).set 0 (.int .i64 (m : Int))).set 1 (.int .i64 (k : Int))).set 2 (.slice Ap nm cp)
        have h3 := hfin.cell 0
        have h4 := hfin.cell 1
        have h5 := hfin.cell 2
        simp only [List.getElem?_toArray, List.getElem?_cons_succ, List.getElem?_cons_zero, List.setIfInBounds_toArray, List.set_cons_zero, List.set_cons_succ] at h3 h4 h5
        (try rw [Exit.noGoto_ret])
        refine bodyPost_ret (v := .tuple #[.agg #[.int .i64 (m : Int), .int .i64 (k : Int), .slice Ap nm cp], .int .i64 60]) ?_ rfl ?_
        · rw [results_cell_tmp rfl]
          go_simp
        · refine ⟨Ap, cp, .inr ⟨NG.out, rfl⟩, ?_, ((S2.out.setCell (Nat.le_refl _) _).setCell (Nat.le_refl _) _).setCell (Nat.le_refl _) _⟩
          exact ((own_sl (ownsRow_setCell_other (ownsRow_setCell_other (ownsRow_setCell_other OW2.out NE2.out _) NE2.out _) NE2.out _)))
end Go.Proofs.Ytmkjplpnoohfnaa
