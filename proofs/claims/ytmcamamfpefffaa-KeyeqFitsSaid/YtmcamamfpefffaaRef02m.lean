/- The document's product and quotient (aumbryref02), walked. -/
import Derived.Test.YtmcamamfpefffaaRef02
import Derived.Deep.RegionLaw
import Derived.StillTailTactics
namespace Go.Proofs.Ytmcamamfpefffaa
open Go.RowKit
theorem cf_zeros (n : Nat) : cf (List.replicate n 0) = 0 := S.ext fun i => by
  rw [at_cf, List.getD_eq_getElem?_getD, List.getElem?_replicate]
  split <;> rfl
theorem Xs_zero (k : Nat) : Xs k 0 = 0 := S.ext fun i => by
  rcases Nat.lt_or_ge i k with h | h
  · rw [at_Xs_lt _ _ _ h]; rfl
  · obtain ⟨d, rfl⟩ : ∃ d, i = k + d := ⟨i - k, by omega⟩
    rw [at_Xs]; rfl
set_option maxRecDepth 1000000 in
theorem ref_pmul (A : Option Addr) (c : Nat) (p : List F) (A2 : Option Addr) (c2 : Nat) (q : List F) (w : World) (ha : Bs w A c p) (ha2 : Bs w A2 c2 q) (hl : p.length ≤ 1000000) (hl2 : q.length ≤ 1000000) :
    Calls Try.prog 33 #[.slice A p.length c, .slice A2 q.length c2] w fun e w' => ∃ A' c', e = .returned (.slice A' (norm (pmul p q)).length c') ∧ Made w w' A' c' (norm (pmul p q)) := by
  have HA := Lib.hid ha
  have HA2 := Lib.hid ha2
  have hsum : (p.length : Int) + (q.length : Int) = ((p.length + q.length : Nat) : Int) := by simp
  have HSUM := Lib.hid hsum
  clear ha ha2 hsum
  go_enter Try.func33, Try.ntmps33
  go_wp2_with (refine make_bytes _ rfl _ _ rfl .i64 .i64 ((p.length : Int) + (q.length : Int)) ((p.length : Int) + (q.length : Int)) (p.length + q.length) rfl rfl HSUM.out HSUM.out ?b ?_; (case b => omega); intro w1 hown hbel; have HO := Lib.hid hown; have HR := Lib.hid hbel; clear hown hbel)
  go_loopw [6] (fun i wr => ∃ (m : Nat) (l : List F), m ≤ p.length ∧ i = .int .i64 m ∧ l.length = p.length + q.length ∧ wr.ownsRow w.heap.size 5 1 (.slice (some ⟨w.heap.size, 0, none⟩) (p.length + q.length) (p.length + q.length)) (p.length + q.length) (l.map bv) ∧ Hid (cf l = cf (p.take m) * cf q) ∧ Below w.heap.size w wr) (fun i _ => p.length - (intOf i).toNat)
  case atStart =>
    refine ⟨0, _, Nat.zero_le _, rfl, ?_, HO.out, ?_, HR.out⟩
    · simp
    · show _ = _
      rw [List.take_zero, cf_nil, S.zero_mul]
      exact cf_zeros _
  case round =>
    obtain ⟨m, l, hm, rfl, hll, hown, HC, hb⟩ := hrel
    have hbs := hb.size
    clear HO HR
    by_cases hlt : m < p.length
    · have HO := Lib.hid hown
      have HB := Lib.hid hb
      have HLL := Lib.hid hll
      clear hown hb hll
      go_wp2
      rename World => wo
      go_loopw [7] (fun k wr => ∃ (j : Nat) (l' : List F), j ≤ q.length ∧ k = .int .i64 j ∧ l'.length = p.length + q.length ∧ wr.ownsRow w.heap.size 5 1 (.slice (some ⟨w.heap.size, 0, none⟩) (p.length + q.length) (p.length + q.length)) (p.length + q.length) (l'.map bv) ∧ Hid (cf l' = cf (p.take m) * cf q + Xs m (S.C (p.getD m 0) * cf (q.take j))) ∧ Below w.heap.size w wr) (fun k _ => q.length - (intOf k).toNat)
      case atStart => 
        refine ⟨0, l, Nat.zero_le _, rfl, HLL.out, HO.out, ?_, HB.out⟩
        show _ = _
        rw [HC.out, List.take_zero, cf_nil, S.mul_zero, Xs_zero, S.add_zero]
      case round =>
        clear HO HB HLL
        obtain ⟨j, l', hj, rfl, hll, hown, HC2, hb⟩ := hrel
        by_cases hlt2 : j < q.length
        · obtain ⟨b2, o2, hA, hbl, hc⟩ := Bs.at' (HA.out.below hb) (by omega)
          obtain ⟨b3, o3, hA3, hbl3, hc3⟩ := Bs.at' (HA2.out.below hb) (by omega)
          subst hA
          subst hA3
          have hcell := hc m hlt
          have hcell2 := hc3 j hlt2
          have hmj : m + j < p.length + q.length := by omega
          have hst := hown.stored (m + j) (bv (l'.getD (m + j) 0 + p.getD m 0 * q.getD j 0))
          rw [map_set] at hst
          have hcl := hown.cellAt (m + j) (by omega)
          rw [getElem?_bv (by omega)] at hcl
          have hfz := hown.frozenAt (m + j)
          have i1 : (m : Int) + (j : Int) < (p.length : Int) + (q.length : Int) := by omega
          have i0 : 0 ≤ (m : Int) + (j : Int) := by omega
          have iw : IntKind.i64.wrap ((m : Int) + (j : Int)) = (m : Int) + (j : Int) := by rw [IntKind.wrap_i64]; omega
          have i2 : ((m : Int) + (j : Int)).toNat = m + j := by omega
          have i3 : (m : Int) < (p.length : Int) := by omega
          have i4 : (j : Int) < (q.length : Int) := by omega
          have HST := Lib.hid hst
          have HB := Lib.hid hb
          have HLL := Lib.hid hll
          clear hst hb hown hc hc3 HA HA2 hll
          have HC3 : Hid (cf (l'.set (m + j) (l'.getD (m + j) 0 + p.getD m 0 * q.getD j 0)) = cf (p.take m) * cf q + Xs m (S.C (p.getD m 0) * cf (q.take (j + 1)))) := by
            show _ = _
            rw [cf_set_add _ _ _ (by rw [HLL.out]; omega), HC2.out, cf_take_succ, S.mul_add, Xs_add, S.add_assoc, C_Xs, S.C_mul_C, Xs_Xs]
          generalize hl'' : l'.set (m + j) (l'.getD (m + j) 0 + p.getD m 0 * q.getD j 0) = l'' at *
          have HL2 : Hid (l''.length = p.length + q.length) := by show _ = _; rw [← hl'', List.length_set]; exact HLL.out
          clear hl'' HC2
          generalize l'.getD (m + j) 0 = u at *
          generalize p.getD m 0 = y at *
          generalize q.getD j 0 = z at *
          have hxor := xor_n u (y * z)
          go_wp2
          refine wp_region_still_tail 21 (by kernel_rfl) (by kernel_rfl) ?_
          simp only [List.take_succ_cons, List.take_zero, List.drop_succ_cons, List.drop_zero]
          repeat still_step
          still_call ((ref_mul y z _).mono (fun e w' h => ⟨h.1, h.2.symm⟩))
          repeat still_step
          refine wpStill_nil ?_
          change wpList _ _ _ _ _ wr.drew
          go_wp2
          go_roundw
          case rel => exact ⟨j + 1, l'', by omega, by go_num, HL2.out, own_drewN HST.out.1 1, HC3, below_drewN (HB.out.setCell (Nat.le_refl _) _) 1⟩
          case measure => simp [intOf]; omega
        · have : j = q.length := by omega
          subst this
          have HO := Lib.hid hown
          have HB := Lib.hid hb
          have HLL := Lib.hid hll
          have HC3 : Hid (cf l' = cf (p.take (m + 1)) * cf q) := by
            show _ = _
            rw [HC2.out, List.take_length, cf_take_succ, S.add_mul, Xs_mul]
          clear hown hb hll HC2
          go_wp2
          go_roundw
          case rel => exact ⟨m + 1, l', by omega, by go_num, HLL.out, HO.out, HC3, HB.out⟩
          case measure => simp [intOf]; omega
    · have : m = p.length := by omega
      subst this
      have HO := Lib.hid hown
      have HB := Lib.hid hb
      have hn : ∀ (A : Option Addr) (c : Nat) (w : World), Bs w A c l → Calls Try.prog 32 #[.slice A (p.length + q.length) c] w fun e w' => ∃ A' c', e = .returned (.slice A' (norm (pmul p q)).length c') ∧ Made w w' A' c' (norm (pmul p q)) := fun A c w h => by
        have := ref_norm A c l w h (by omega)
        rw [hll] at this
        rwa [norm_congr (show cf l = cf (pmul p q) by rw [HC.out, List.take_length, cf_pmul])] at this
      have HN := Lib.hid hn
      clear hn hown hb hll HC
      go_wp2_with (go_at_call 32; (with_reducible refine (HN.out _ _ _ ?_).mono ?_); (exact own_sl HO.out); rintro e w' ⟨A', c', rfl, hmade⟩; have HM := Lib.hid hmade; clear hmade)
      go_ret
      exact ⟨A', c', rfl, own_mono HM.out.own hbs, HB.out.trans (HM.out.bel.mono hbs)⟩
end Go.Proofs.Ytmcamamfpefffaa
