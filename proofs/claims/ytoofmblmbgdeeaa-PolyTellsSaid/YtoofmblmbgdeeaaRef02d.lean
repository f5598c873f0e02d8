/- The document's quotient (aumbryref02.Divide), walked. -/
import Derived.Test.YtoofmblmbgdeeaaRef02m
import Derived.OneCell
import Derived.BigQuiet
import Derived.Deep.QuietTactic
namespace Go.Proofs.Ytoofmblmbgdeeaa
open Go.RowKit
theorem ref_pdivide_zero (A : Option Addr) (c : Nat) (p : List F) (A2 : Option Addr) (c2 : Nat) (q : List F) (w : World) (ha2 : Bs w A2 c2 q) (hl2 : q.length ≤ 1000000) (hq : norm q = []) :
    Calls Try.prog 53 #[.slice A p.length c, .slice A2 q.length c2] w fun e w' => e = .returned (.tuple #[.slice none 0 0, .slice none 0 0, .int .i64 20]) ∧ Below w.heap.size w w' := by
  have hn : ∀ (w : World), Bs w A2 c2 q → Calls Try.prog 45 #[.slice A2 q.length c2] w fun e w' => ∃ A' c', e = .returned (.slice A' 0 c') ∧ Below w.heap.size w w' := fun w h => by
    have := ref_norm A2 c2 q w h (by omega)
    rw [hq] at this
    exact this.mono fun e w' ⟨A', c', he, hm⟩ => ⟨A', c', he, hm.bel⟩
  have HN := Lib.hid hn
  have HA2 := Lib.hid ha2
  clear hn ha2 hq
  go_enter Try.func53, Try.ntmps53
  go_wp2_with (go_at_call 45; (with_reducible refine (HN.out _ HA2.out).mono ?_); rintro e w1 ⟨A3, c3, rfl, hb⟩; have HB := Lib.hid hb; clear hb)
  go_ret3
  exact ⟨rfl, HB.out⟩
theorem cf_set_from_zero (l : List F) (j : Nat) (x : F) (h : j < l.length) (h0 : l.getD j 0 = 0) : cf (l.set j x) = cf l + Xs j (S.C x) := by
  have := cf_set_add l j x h
  rwa [h0, F.zero_add] at this
theorem div_end {p q Sg R : List F} (hq : norm q ≠ []) (he : cf p = cf Sg * cf q + cf R) (hz : ∀ j : Nat, (norm q).length ≤ j + 1 → R.getD j 0 = 0) : IsDiv p q (norm Sg) (norm R) := by
  refine ⟨norm_norm _, norm_norm _, by rw [cf_norm, cf_norm]; exact he, ?_⟩
  have h0 : 0 < (norm q).length := List.length_pos_iff.2 hq
  have : (norm R).length ≤ (norm q).length - 1 := length_norm_le_of fun i hi => hz i (by omega)
  omega
theorem step_zero {R R' Q : List F} {i : Nat} {c x y : F} (hq : 0 < Q.length) (hy : Q.getD (Q.length - 1) 0 = y) (hy0 : y ≠ 0) (hx : R.getD (i + Q.length - 1) 0 = x) (hc : c = x * F.inv y)
    (hR : cf R' = cf R + Xs i (S.C c * cf Q)) (hz : ∀ j : Nat, i + Q.length ≤ j → R.getD j 0 = 0) : ∀ j : Nat, i + Q.length ≤ j + 1 → R'.getD j 0 = 0 := by
  intro j hj
  have h1 : R'.getD j 0 = R.getD j 0 + (Xs i (S.C c * cf Q)).at' j := congrFun hR j
  obtain ⟨d, rfl⟩ : ∃ d, j = i + d := ⟨j - i, by omega⟩
  rw [at_Xs, S.at_C_mul, at_cf] at h1
  rw [h1]
  rcases Nat.lt_or_ge d Q.length with h | h
  · have hd : d = Q.length - 1 := by omega
    subst hd
    rw [hy, show i + (Q.length - 1) = i + Q.length - 1 by omega, hx, hc, F.mul_assoc, F.mul_comm (F.inv y), F.mul_inv hy0, F.mul_one, F.add_self]
  · rw [hz _ (by omega), show Q.getD d 0 = 0 from cf_ge (p := Q) h, F.mul_zero, F.add_zero]
set_option maxRecDepth 1000000 in
set_option maxHeartbeats 1000000 in
theorem ref_pdivide (A : Option Addr) (c : Nat) (p : List F) (A2 : Option Addr) (c2 : Nat) (q : List F) (w : World) (ha : Bs w A c p) (ha2 : Bs w A2 c2 q) (hl : p.length ≤ 1000000) (hl2 : q.length ≤ 1000000) (hq : norm q ≠ []) :
    Calls Try.prog 53 #[.slice A p.length c, .slice A2 q.length c2] w fun e w' => ∃ (s r : List F) (A' : Option Addr) (c' : Nat) (A'' : Option Addr) (c'' : Nat), e = .returned (.tuple #[.slice A' s.length c', .slice A'' r.length c'', .int .i64 0]) ∧ IsDiv p q s r ∧ Bs w' A' c' s ∧ Bs w' A'' c'' r ∧ Below w.heap.size w w' := by
  have hnl := length_norm_le p
  have hql := length_norm_le q
  have hq1 : 0 < (norm q).length := List.length_pos_iff.2 hq
  have hq0 : (((norm q).length : Int) == 0) = false := by rw [beq_eq_false_iff_ne]; omega
  have htop : (norm q).getD ((norm q).length - 1) 0 ≠ 0 := by
    have := norm_top hq
    rwa [← cf_norm q, at_cf] at this
  have hcq : Hid (cf (norm q) = cf q) := cf_norm q
  have hcp : Hid (cf (norm p) = cf p) := cf_norm p
  have HT := Lib.hid htop
  have HQ := Lib.hid hq
  have HA := Lib.hid ha
  have HA2 := Lib.hid ha2
  clear ha ha2 hq htop
  have np : Hid (∀ w, Bs w A c p → Calls Try.prog 45 #[.slice A p.length c] w fun e w' => ∃ A' c', e = .returned (.slice A' (norm p).length c') ∧ Made w w' A' c' (norm p)) := fun w h => ref_norm A c p w h (by omega)
  have nq : Hid (∀ w, Bs w A2 c2 q → Calls Try.prog 45 #[.slice A2 q.length c2] w fun e w' => ∃ A' c', e = .returned (.slice A' (norm q).length c') ∧ Made w w' A' c' (norm q)) := fun w h => ref_norm A2 c2 q w h (by omega)
  generalize hP : norm p = P at *
  generalize hQ : norm q = Q at *
  clear hP
  have HQE := Lib.hid hQ
  clear hQ
  go_enter Try.func53, Try.ntmps53
  go_wp2_with (first
    | (go_at_call 45; (with_reducible refine (nq.out _ HA2.out).mono ?_); rintro e W1 ⟨AQ, cQ, rfl, hm⟩; have HM := Lib.hid hm; clear hm)
    | (go_at_call 45; (with_reducible refine (np.out _ (HA.out.below HM.out.bel)).mono ?_); rintro e W2 ⟨AR, cR, rfl, hm⟩; have HM2 := Lib.hid hm; clear hm)
    | (refine make_bytes _ rfl _ _ rfl .i64 .i64 (P.length : Int) (P.length : Int) P.length rfl rfl rfl rfl ?b ?_; (case b => omega); intro W3 hown hbel; have HO := Lib.hid hown; have HR := Lib.hid hbel; clear hown hbel))
  have hs1 := HM.out.bel.size
  have hs2 := HM2.out.bel.size
  have HAR : Hid (0 < P.length → ∃ g, AR = some ⟨g, 0, none⟩ ∧ W1.heap.size ≤ g ∧ g < W2.heap.size) := fun h => own_addr HM2.out.own h
  have HB3 : Hid (Below w.heap.size w W3) := HM.out.bel.trans ((HM2.out.bel.trans (HR.out.mono hs2)).mono hs1)
  have HQ3 : Hid (Bs W3 AQ cQ Q) := Sl.below HM.out.bs (HM2.out.bel.trans (HR.out.mono hs2))
  go_loopw [9] (fun i wr => ∃ (t : Int) (R Sg : List F), t ≤ (P.length : Int) - (Q.length : Int) ∧ -1000000 ≤ t ∧ i = .int .i64 t ∧ R.length = P.length ∧ Sg.length = P.length ∧ wr.ownsRow W1.heap.size 5 1 (.slice AR P.length cR) P.length (R.map bv) ∧ wr.ownsRow W2.heap.size 5 1 (.slice (some ⟨W2.heap.size, 0, none⟩) P.length P.length) P.length (Sg.map bv) ∧ Hid (cf P = cf Sg * cf Q + cf R) ∧ Hid (∀ j : Nat, t + (Q.length : Int) ≤ (j : Int) → R.getD j 0 = 0) ∧ Hid (∀ j : Nat, (j : Int) ≤ t → Sg.getD j 0 = 0) ∧ Below W1.heap.size W1 wr ∧ W3.heap.size ≤ wr.heap.size) (fun i _ => (intOf i + 1).toNat)
  case atStart =>
    refine ⟨_, P, List.replicate P.length 0, Int.le_refl _, by omega, rfl, rfl, by simp, own_below HM2.out.own HR.out, HO.out, ?_, fun j hj => cf_ge (p := P) (by omega), fun j _ => ?_, HM2.out.bel.trans (HR.out.mono hs2), Nat.le_refl _⟩
    · show _ = _
      rw [cf_zeros, S.zero_mul, S.zero_add]
    · have := congrFun (cf_zeros P.length) j
      exact this
  case round =>
    obtain ⟨t, R, Sg, ht, htl, rfl, hRl, hSl, hoR, hoS, HE, HZ, HS0, hb, hsz⟩ := hrel
    clear HO HR
    by_cases hneg : 0 ≤ t
    · obtain ⟨i, rfl⟩ := Int.eq_ofNat_of_zero_le hneg
      have hilq : i + Q.length ≤ P.length := by omega
      obtain ⟨g, hAR, hg1, hg2⟩ := HAR.out (by omega)
      subst hAR
      obtain ⟨bq, oq, hAq, hblq, hcq2⟩ := Bs.at' (Sl.below HM.out.bs hb) hq1
      subst hAq
      have hcQ := hcq2 (Q.length - 1) (by omega)
      have hcR := hoR.cellAt (i + Q.length - 1) (by omega)
      rw [getElem?_bv (by omega)] at hcR
      have hcS := hoS.cellAt i (by omega)
      rw [getElem?_bv (by omega)] at hcS
      have hfS := hoS.frozenAt i
      have w1 : IntKind.i64.wrap ((i : Int) + (Q.length : Int)) = (i : Int) + (Q.length : Int) := by rw [IntKind.wrap_i64]; omega
      have w2 : IntKind.i64.wrap ((i : Int) + (Q.length : Int) - 1) = (i : Int) + (Q.length : Int) - 1 := by rw [IntKind.wrap_i64]; omega
      have w3 : IntKind.i64.wrap ((Q.length : Int) - 1) = (Q.length : Int) - 1 := by rw [IntKind.wrap_i64]; omega
      have b1 : 0 ≤ (i : Int) + (Q.length : Int) - 1 := by omega
      have b2 : (i : Int) + (Q.length : Int) - 1 < (P.length : Int) := by omega
      have b3 : ((i : Int) + (Q.length : Int) - 1).toNat = i + Q.length - 1 := by omega
      have b4 : 0 ≤ (Q.length : Int) - 1 := by omega
      have b5 : (Q.length : Int) - 1 < (Q.length : Int) := by omega
      have b6 : ((Q.length : Int) - 1).toNat = Q.length - 1 := by omega
      have b7 : (i : Int) < (P.length : Int) := by omega
      have ex : ∃ x, R.getD (i + Q.length - 1) 0 = x := ⟨_, rfl⟩
      have ey : ∃ y, Q.getD (Q.length - 1) 0 = y := ⟨_, rfl⟩
      obtain ⟨x, hx⟩ := ex
      obtain ⟨y, hy⟩ := ey
      rw [hx] at hcR
      rw [hy] at hcQ
      have hy0 : y ≠ 0 := by rw [← hy]; exact HT.out
      have dv : ∀ w, Calls Try.prog 37 #[.int .u8 x.n, .int .u8 y.n] w fun e w' => e = .returned (.tuple #[.int .u8 (x * F.inv y).n, .int .i64 0]) ∧ w' = w := fun w => by
        have := ref_div x y w
        rw [if_neg hy0] at this
        exact this.mono fun e w' h => ⟨h.1, h.2.symm⟩
      have DV := Lib.hid dv
      have ec : ∃ c, x * F.inv y = c := ⟨_, rfl⟩
      obtain ⟨cc, hcc⟩ := ec
      rw [hcc] at DV
      have HCC := Lib.hid hcc
      have HX := Lib.hid hx
      have HY := Lib.hid hy
      have HY0 := Lib.hid hy0
      have ez : ∃ z, Sg.getD i 0 = z := ⟨_, rfl⟩
      obtain ⟨zz, hzz⟩ := ez
      rw [hzz] at hcS
      have hst := hoS.stored i (bv cc)
      rw [map_set] at hst
      have HST := Lib.hid hst
      have HOR := Lib.hid hoR
      have HORS : Hid (World.ownsRow (wr.setCell ⟨W2.heap.size, i, none⟩ (bv cc)) W1.heap.size 5 1 (.slice (some ⟨g, 0, none⟩) P.length cR) P.length (R.map bv)) := ownsRow_setCell_other hoR (by simp [Value.ownBlock]; omega) _
      have HB := Lib.hid hb
      have HHR := Lib.hid hRl
      have HHS := Lib.hid hSl
      clear dv hcc hx hy hy0 hzz hst hoR hoS hb hcq2 hRl hSl
      go_wp2
      go_quiet ((go_at_call 37; exact Calls.quiet_of_same (DV.out _)))
      go_wp2
      have hbw : Below W1.heap.size W1 ((wr.drewN nq).setCell ⟨W2.heap.size, i, none⟩ (bv cc)) := (below_drewN HB.out nq).setCell hs2 _
      have HBW := Lib.hid hbw
      clear hbw hcR hcQ hcS hfS w1 w2 w3 b1 b2 b3 b4 b5 b6 DV
      go_loopw [12] (fun k wi => ∃ (j : Nat) (R' : List F), j ≤ Q.length ∧ k = .int .i64 j ∧ R'.length = P.length ∧ wi.ownsRow W1.heap.size 5 1 (.slice (some ⟨g, 0, none⟩) P.length cR) P.length (R'.map bv) ∧ wi.ownsRow W2.heap.size 5 1 (.slice (some ⟨W2.heap.size, 0, none⟩) P.length P.length) P.length ((Sg.set i cc).map bv) ∧ Hid (cf R' = cf R + Xs i (S.C cc * cf (Q.take j))) ∧ Below W1.heap.size W1 wi ∧ W3.heap.size ≤ wi.heap.size) (fun k _ => Q.length - (intOf k).toNat)
      case atStart =>
        refine ⟨0, R, Nat.zero_le _, rfl, HHR.out, HORS.out, HST.out.1, ?_, HBW.out, by simpa [World.setCell] using hsz⟩
        show _ = _
        rw [List.take_zero, cf_nil, S.mul_zero, Xs_zero, S.add_zero]
      case round =>
        rename World => wi
        obtain ⟨j, R', hj, rfl, hRl2, hoR2, hoS2, HE2, hb2, hsz2⟩ := hrel
        clear HST HORS HOR HBW HB
        by_cases hlt2 : j < Q.length
        · obtain ⟨bq3, oq3, hAq3, hblq3, hcq3⟩ := Bs.at' (Sl.below HM.out.bs hb2) hq1
          cases hAq3
          have hcell := hcq3 j hlt2
          have hst2 := hoR2.stored (i + j) (bv (R'.getD (i + j) 0 + cc * Q.getD j 0))
          rw [map_set] at hst2
          have hcl := hoR2.cellAt (i + j) (by omega)
          rw [getElem?_bv (by omega)] at hcl
          have hfz := hoR2.frozenAt (i + j)
          have i1 : (i : Int) + (j : Int) < (P.length : Int) := by omega
          have i0 : 0 ≤ (i : Int) + (j : Int) := by omega
          have iw : IntKind.i64.wrap ((i : Int) + (j : Int)) = (i : Int) + (j : Int) := by rw [IntKind.wrap_i64]; omega
          have i2 : ((i : Int) + (j : Int)).toNat = i + j := by omega
          have i4 : (j : Int) < (Q.length : Int) := by omega
          have HOS3 : Hid (World.ownsRow (wi.setCell ⟨g, i + j, none⟩ (bv (R'.getD (i + j) 0 + cc * Q.getD j 0))) W2.heap.size 5 1 (.slice (some ⟨W2.heap.size, 0, none⟩) P.length P.length) P.length ((Sg.set i cc).map bv)) := ownsRow_setCell_other hoS2 (by simp [Value.ownBlock]; omega) _
          have HST2 := Lib.hid hst2
          have HB2 := Lib.hid hb2
          have HRL2 := Lib.hid hRl2
          have HE3 : Hid (cf (R'.set (i + j) (R'.getD (i + j) 0 + cc * Q.getD j 0)) = cf R + Xs i (S.C cc * cf (Q.take (j + 1)))) := by
            show _ = _
            rw [cf_set_add _ _ _ (by rw [hRl2]; omega), HE2.out, cf_take_succ, S.mul_add, Xs_add, S.add_assoc, C_Xs, S.C_mul_C, Xs_Xs]
          clear hst2 hb2 hoR2 hoS2 hcq3 hRl2 HE2
          generalize hR'' : R'.set (i + j) (R'.getD (i + j) 0 + cc * Q.getD j 0) = R'' at *
          have HL2 : Hid (R''.length = P.length) := by show _ = _; rw [← hR'', List.length_set]; exact HRL2.out
          clear hR''
          generalize R'.getD (i + j) 0 = u at *
          generalize Q.getD j 0 = z at *
          have hxor := xor_n u (cc * z)
          go_wp2
          refine wp_region_still_tail 18 (by kernel_rfl) (by kernel_rfl) ?_
          simp only [List.take_succ_cons, List.take_zero, List.drop_succ_cons, List.drop_zero]
          repeat still_step
          still_call ((ref_mul cc z _).mono (fun e w' h => ⟨h.1, h.2.symm⟩))
          repeat still_step
          refine wpStill_nil ?_
          change wpList _ _ _ _ _ wi.drew
          go_wp2
          go_roundw
          case rel => exact ⟨j + 1, R'', by omega, by go_num, HL2.out, own_drewN HST2.out.1 1, own_drewN HOS3.out 1, HE3, below_drewN (HB2.out.setCell hg1 _) 1, by simpa [World.setCell] using hsz2⟩
          case measure => simp [intOf]; omega
        · have : j = Q.length := by omega
          subst this
          have HR2 := Lib.hid hoR2
          have HS2 := Lib.hid hoS2
          have HB2 := Lib.hid hb2
          have HL1 := Lib.hid hRl2
          have HE4 : Hid (cf R' = cf R + Xs i (S.C cc * cf Q)) := by show _ = _; rw [HE2.out, List.take_length]
          have HE5 : Hid (cf P = cf (Sg.set i cc) * cf Q + cf R') := by
            show _ = _
            rw [cf_set_from_zero _ _ _ (by rw [HHS.out]; omega) (HS0.out i (Int.le_refl _)), HE4.out, HE.out, S.add_mul, Xs_mul]
            rw [show cf Sg * cf Q + Xs i (S.C cc * cf Q) + (cf R + Xs i (S.C cc * cf Q)) = cf Sg * cf Q + cf R + Xs i (S.C cc * cf Q) + Xs i (S.C cc * cf Q) by ac_rfl, S.add_add_cancel]
          have HZ2 : Hid (∀ j : Nat, (i : Int) - 1 + (Q.length : Int) ≤ (j : Int) → R'.getD j 0 = 0) := fun j hj =>
            step_zero hq1 HY.out HY0.out HX.out HCC.out.symm HE4.out (fun j hj => HZ.out j (by omega)) j (by omega)
          have HS3 : Hid (∀ j : Nat, (j : Int) ≤ (i : Int) - 1 → (Sg.set i cc).getD j 0 = 0) := fun j hj => by
            rw [getD_set_ne _ _ _ _ (by omega)]; exact HS0.out j (by omega)
          have HLS : Hid ((Sg.set i cc).length = P.length) := by show _ = _; rw [List.length_set]; exact HHS.out
          clear hoR2 hoS2 hb2 hRl2 HE2 HE4 HZ HS0 HE
          generalize Sg.set i cc = Sg' at *
          go_wp2
          go_roundw
          case rel => exact ⟨(i : Int) - 1, R', Sg', by omega, by omega, rfl, HL1.out, HLS.out, HR2.out, HS2.out, HE5, HZ2, HS3, HB2.out, hsz2⟩
          case measure => simp [intOf]
    · have HOR := Lib.hid hoR
      have HOS := Lib.hid hoS
      have HB := Lib.hid hb
      have nr : Hid (∀ (A : Option Addr) (c : Nat) (w : World), Bs w A c R → Calls Try.prog 45 #[.slice A P.length c] w fun e w' => ∃ A' c', e = .returned (.slice A' (norm R).length c') ∧ Made w w' A' c' (norm R)) := fun A c w h => by
        have := ref_norm A c R w h (by omega)
        rwa [hRl] at this
      have ns : Hid (∀ (A : Option Addr) (c : Nat) (w : World), Bs w A c Sg → Calls Try.prog 45 #[.slice A P.length c] w fun e w' => ∃ A' c', e = .returned (.slice A' (norm Sg).length c') ∧ Made w w' A' c' (norm Sg)) := fun A c w h => by
        have := ref_norm A c Sg w h (by omega)
        rwa [hSl] at this
      have HD : Hid (IsDiv p q (norm Sg) (norm R)) := div_end (by rw [HQE.out]; exact List.length_pos_iff.1 hq1) (by rw [← hcp.out, ← hcq.out]; exact HE.out) (fun j hj => HZ.out j (by rw [HQE.out] at hj; omega))
      clear hoR hoS hb hRl hSl HE HZ HS0
      go_wp2_with (first
        | (go_at_call 45; (with_reducible refine (ns.out _ _ _ (own_sl HOS.out)).mono ?_); rintro e W4 ⟨AS, cS, rfl, hm⟩; have HM4 := Lib.hid hm; clear hm)
        | (go_at_call 45; (with_reducible refine (nr.out _ _ _ (Sl.below (own_sl HOR.out) HM4.out.bel)).mono ?_); rintro e W5 ⟨AR2, cR2, rfl, hm⟩; have HM5 := Lib.hid hm; clear hm))
      go_ret3
      exact ⟨_, _, _, _, _, _, rfl, HD.out, Sl.below HM4.out.bs HM5.out.bel, HM5.out.bs, (HM.out.bel.trans (HB.out.mono hs1)).trans ((HM4.out.bel.trans (HM5.out.bel.mono HM4.out.bel.size)).mono (Nat.le_trans hs1 HB.out.size))⟩
end Go.Proofs.Ytoofmblmbgdeeaa
