/- aumbryref03.Pick, walked. -/
import Derived.Test.YtbepadepepoilaaR3f
import Derived.StillTailTactics
namespace Go.Proofs.Ytbepadepepoilaa
open Go.RowKit
set_option linter.unusedVariables false
set_option linter.unusedSimpArgs false
theorem tab_app (a c : Nat) (f : Nat → F) : tab (a + c) f = tab a f ++ tab c fun j => f (a + j) := by
  unfold tab
  rw [List.range_add, List.map_append, List.map_map]; rfl
theorem matF_row (C r : Nat) (h : Mx) : tab (r * C + C) (matF C h) = tab (r * C) (matF C h) ++ tab C (h r) := by
  rw [tab_app]
  exact congrArg _ (tab_congr fun j hj => matF_at h hj)
set_option maxRecDepth 1000000 in
set_option maxHeartbeats 4000000 in
theorem ref03_pick (R C : Nat) (A1 : Option Addr) (c1 : Nat) (f : Mx) (A2 : Option Addr) (c2 : Nat) (zs : List Int) (w : World) (hR : R ≤ 256) (hC : C ≤ 256) (hz : zs.length ≤ 256) (ha : Bs w A1 c1 (matL R C f)) (hrows : Sl w A2 c2 (zs.map (Value.int .i64))) (hi64 : ∀ z ∈ zs, -9223372036854775808 ≤ z ∧ z ≤ 9223372036854775807) :
    Calls Try.prog 13 #[matV R C A1 (R * C) c1, .slice A2 zs.length c2] w (PickR w R C f zs) := by
  have hcm := ha.mx
  unfold maxLen at hcm
  have hcl := ha.le
  rw [List.length_map, length_matL] at hcl
  have HA := Lib.hid ha
  have HR := Lib.hid hrows
  have CK : Hid (∀ w, Calls Try.prog 18 #[matV R C A1 (R * C) c1] w fun e w' => e = .returned (.int .i64 0) ∧ Below w.heap.size w w') := fun w => ref03_check_ok R C A1 (R * C) c1 ⟨by omega, by omega, by omega, by omega, by simp⟩ w
  have P : Hid (∀ i, i < R → ∃ p q, p = i * C ∧ q = i * C + C ∧ q ≤ R * C ∧ IntKind.i64.wrap ((i : Int) * (C : Int)) = (p : Int) ∧ IntKind.i64.wrap (((i : Int) + 1) * (C : Int)) = (q : Int)) := fun i hi => by
    have hle : i * C + C ≤ R * C := by rw [← Nat.succ_mul]; exact Nat.mul_le_mul_right _ hi
    have hlo : i * C ≤ 256 * 256 := Nat.mul_le_mul (by omega) hC
    have h1 : (i : Int) * (C : Int) = ((i * C : Nat) : Int) := by simp
    have h2 : ((i : Int) + 1) * (C : Int) = ((i * C + C : Nat) : Int) := by rw [Int.add_mul, h1]; simp
    exact ⟨i * C, i * C + C, rfl, rfl, hle, by rw [h1, IntKind.wrap_i64]; omega, by rw [h2, IntKind.wrap_i64]; omega⟩
  have ALL : Hid (tab (zs.length * C) (matF C fun i j => f (zr zs i) j) = matL zs.length C fun i j => f (zr zs i) j) := rfl
  unfold PickR
  clear ha hrows hi64
  generalize hn1 : R * C = n1 at *
  generalize hm : zs.length = m at *
  have e1 : decide (256 < m) = false := decide_eq_false (by omega)
  have e2 : ¬ (256 : Int) < (m : Int) := by omega
  have K0 := Lib.hid (kn2 w 24 24 #[.int .i64 R, .int .i64 C, .slice A1 n1 c1] #[.int .i64 0, .int .i64 0, .slice none 0 0])
  have HW := Lib.hid (below2 w (.cells #[.int .i64 R, .int .i64 C, .slice A1 n1 c1] 24) (.cells #[.int .i64 0, .int .i64 0, .slice none 0 0] 24))
  have HM := Lib.hid hm
  clear hm
  go_enter Try.func13, Try.ntmps13
  go_wp2_with (go_at_call 18; (with_reducible refine (CK.out _).mono ?_); rintro e w1 ⟨rfl, hb1⟩; have K1 := Lib.hid (K0.out.below hb1); have HW1 := Lib.hid (HW.out.trans (hb1.mono HW.out.size)); clear hb1; have p0 := (K1.out.at (.head _)).cell 0; have p1 := (K1.out.at (.head _)).cell 1; have p2 := (K1.out.at (.head _)).cell 2; simp only [List.getElem?_toArray, List.getElem?_cons_succ, List.getElem?_cons_zero] at p0 p1 p2)
  have BK0 := Lib.hid (Blk.new w1 #[.int .i64 m, .int .i64 C, .slice none 0 0] 24)
  clear p0 p1 p2
  go_loopw [7] (fun v wr => ∃ (i : Nat) (A6 : Option Addr) (c6 : Nat), i ≤ m ∧ v = .int .i64 i ∧ Hid (Goods zs R i) ∧ Blk wr w1.heap.size 24 #[.int .i64 m, .int .i64 C, .slice A6 (i * C) c6] ∧ wr.ownsRow w1.heap.size 5 1 (.slice A6 (i * C) c6) (i * C) ((tab (i * C) (matF C fun i j => f (zr zs i) j)).map bv) ∧ Below w1.heap.size w1 wr) (fun v _ => m - (intOf v).toNat)
  case atStart => exact ⟨0, none, 0, Nat.zero_le _, rfl, fun j hj => absurd hj (Nat.not_lt_zero j), by rw [Nat.zero_mul]; exact BK0.out, by rw [Nat.zero_mul]; exact World.ownsRow_nil _ _ _ _, below_alloc _ _⟩
  case round =>
    clear BK0
    obtain ⟨i, A6, c6, hi, rfl, hgood, hbk, hown, hbel⟩ := hrel
    have hsz := hbel.size
    have BK := Lib.hid hbk
    have HO := Lib.hid hown
    have HB := Lib.hid hbel
    have KX := Lib.hid (K1.out.below hbel)
    have HBW : Hid (Below w.heap.size w wr) := HW1.out.trans (hbel.mono HW1.out.size)
    have h0 := hbk.cell 0
    have h1 := hbk.cell 1
    have h2 := hbk.cell 2
    have hz2 := hbk.frozen 2
    have q0 := (KX.out.at (.head _)).cell 0
    have q1 := (KX.out.at (.head _)).cell 1
    have q2 := (KX.out.at (.head _)).cell 2
    have r0 := (KX.out.at (.tail _ (.head _))).cell 0
    have r1 := (KX.out.at (.tail _ (.head _))).cell 1
    have r2 := (KX.out.at (.tail _ (.head _))).cell 2
    have rz0 := (KX.out.at (.tail _ (.head _))).frozen 0
    have rz1 := (KX.out.at (.tail _ (.head _))).frozen 1
    have rz2 := (KX.out.at (.tail _ (.head _))).frozen 2
    simp only [List.getElem?_toArray, List.getElem?_cons_succ, List.getElem?_cons_zero] at h0 h1 h2 q0 q1 q2 r0 r1 r2
    clear hbk hown hbel
    by_cases hlt : i < m
    · obtain ⟨b2, o2, hA, _, hc⟩ := Sl.at' (HR.out.below HBW.out) (by rw [List.length_map, HM.out]; omega)
      subst hA
      have hcell := hc i (.int .i64 (zs.getD i 0)) (by rw [List.getElem?_map, List.getElem?_eq_getElem (by rw [HM.out]; exact hlt), List.getD_eq_getElem?_getD, List.getElem?_eq_getElem (by rw [HM.out]; exact hlt)]; rfl)
      clear hc
      by_cases hg0 : 0 ≤ zs.getD i 0 ∧ zs.getD i 0 < (R : Int)
      · obtain ⟨r, hr⟩ := Int.eq_ofNat_of_zero_le hg0.1
        have hrR : r < R := by omega
        have hzr : zr zs i = r := by unfold zr; rw [hr]; rfl
        have GD : Hid (Goods zs R (i + 1)) := fun j hj => by
          rcases Nat.lt_or_ge j i with h | h
          · exact hgood.out j h
          · have : j = i := by omega
            rw [this]; exact hg0
        rw [hr] at hcell
        have d0 : decide ((r : Int) < 0) = false := decide_eq_false (by omega)
        have d1 : decide ((R : Int) ≤ (r : Int)) = false := decide_eq_false (by omega)
        obtain ⟨p, q, hp, hq, hqn, hw1, hw2⟩ := P.out r hrR
        have hrow := Bs.row (HA.out.below HBW.out) hrR
        rw [← hp] at hrow
        obtain ⟨AR, har⟩ : ∃ AR, rowA A1 c1 p = AR := ⟨_, rfl⟩
        rw [har] at hrow
        have hif : (if c1 = p then A1 else Option.map (fun x => x.add p) A1) = AR := har
        have HRW := Lib.hid hrow
        have hpq : (p : Int) ≤ (q : Int) := by omega
        have hpq2 : p ≤ q := by omega
        have hqc : (q : Int) ≤ (c1 : Int) := by omega
        have hsub : q - p = C := by omega
        have hwi : IntKind.i64.wrap ((r : Int) + 1) = (r : Int) + 1 := by rw [IntKind.wrap_i64]; omega
        have HT : Hid (tab ((i + 1) * C) (matF C fun i j => f (zr zs i) j) = tab (i * C) (matF C fun i j => f (zr zs i) j) ++ tab C (f r)) := by
          show _ = _
          rw [Nat.succ_mul, matF_row, hzr]
        have NE := Lib.hid (own_ne_blk HO.out BK.out (by decide))
        have hib : i * C + C ≤ 70000 := by have : i * C ≤ 256 * 256 := Nat.mul_le_mul (by omega) hC; omega
        clear hrow har hp hq hgood hg0 hr hzr
        go_wp2
        go_quiet (fail)
        go_wp2
        -- region 9
        refine wp_region_still_tail 20 (by kernel_rfl) (by kernel_rfl) ?_
        simp only [List.take_succ_cons, List.take_zero, List.drop_succ_cons, List.drop_zero]
        change wpStill _ _ (World.drew (World.drewN wr _)) _ _ _
        repeat still_step
        refine wpStill_nil ?_
        change wpList _ _ _ _ _ (World.drew _)
        go_wp2_with (at_builtin; refine app_bytes_g _ rfl _ _ rfl w1.heap.size A6 c6 (i * C) (tab (i * C) (matF C fun i j => f (zr zs i) j)) rfl (own_below HO.out (below_drewN (below_drew0 wr _) 1)) AR (c1 - p) C (tab C (f r)) rfl (HRW.out.below (below_drewN (below_drew0 wr _) 1)) (length_tab _ _) (by omega) hsz ?_; intro A7 c7 w7 hown7 hgr7; have hk7 : Blk w7 w1.heap.size 24 #[.int .i64 m, .int .i64 C, .slice A6 (i * C) c6] := Blk.grown' hgr7 BK.out (below_drewN (below_drew0 wr _) 1) NE.out; have HB7 : Hid (Below w1.heap.size w1 w7) := own_grow' hgr7 HB.out HO.out (below_drewN (below_drew0 wr _) 1) hsz; have hcell7 := hk7.cell 2; have hfz7 := hk7.frozen 2; simp only [List.getElem?_toArray, List.getElem?_cons_succ, List.getElem?_cons_zero] at hcell7; have HK7 := Lib.hid hk7; have HO7 := Lib.hid hown7; clear hk7 hown7 hgr7)
        -- end of region 9
        go_wp2
        go_roundw
        case rel => exact ⟨i + 1, A7, c7, by omega, by go_num, GD, by have := HK7.out.set 2 (.slice A7 (i * C + C) c7); rw [Nat.succ_mul]; exact this, by rw [HT.out, Nat.succ_mul]; exact ownsRow_setCell_other HO7.out (own_ne_blk HO7.out HK7.out (by decide)) _, HB7.out.setCell (Nat.le_refl _) _⟩
        case measure => simp [intOf]; omega
      · have NG : Hid (¬ Goods zs R m) := fun h => hg0 (h i hlt)
        by_cases hn0 : zs.getD i 0 < 0
        · have d0 : decide (zs.getD i 0 < 0) = true := decide_eq_true hn0
          clear hg0 hgood
          generalize zs.getD i 0 = z at *
          go_wp2
          go_quiet (fail)
          go_wp2
          (try rw [Exit.noGoto_ret])
          refine bodyPost_ret (v := .tuple #[matV 0 0 none 0 0, .int .i64 30]) ?_ rfl ?_
          · rw [results_cell_tmp rfl]
            go_simp
          · exact .inr ⟨NG.out, rfl, (((below_drewN HBW.out _).setCell (Nat.le_succ _) _).setCell (Nat.le_succ _) _).setCell (Nat.le_succ _) _⟩
        · have d0 : decide (zs.getD i 0 < 0) = false := decide_eq_false hn0
          have d1 : decide ((R : Int) ≤ zs.getD i 0) = true := decide_eq_true (by omega)
          clear hg0 hgood
          generalize zs.getD i 0 = z at *
          go_wp2
          go_quiet (fail)
          go_wp2
          (try rw [Exit.noGoto_ret])
          refine bodyPost_ret (v := .tuple #[matV 0 0 none 0 0, .int .i64 30]) ?_ rfl ?_
          · rw [results_cell_tmp rfl]
            go_simp
          · exact .inr ⟨NG.out, rfl, (((below_drewN HBW.out _).setCell (Nat.le_succ _) _).setCell (Nat.le_succ _) _).setCell (Nat.le_succ _) _⟩
    · have hie : i = m := by omega
      have AG : Hid (Goods zs R m) := by rw [← hie]; exact hgood.out
      subst hie
      have hmt : ¬ (i : Int) < (i : Int) := by omega
      obtain ⟨mc, hmc⟩ : ∃ mc, mc = i * C := ⟨_, rfl⟩
      have AL2 : Hid (tab mc (matF C fun i j => f (zr zs i) j) = matL i C fun i j => f (zr zs i) j) := by rw [hmc]; exact ALL.out
      rw [← hmc] at h2 HO BK
      have HMC := Lib.hid hmc
      clear hmc hgood ALL
      go_wp2
      have hfin := (((KX.out.at (.tail _ (.head _))).set 0 (.int .i64 (i : Int))).set 1 (.int .i64 (C : Int))).set 2 (.slice A6 mc c6)
      have h3 := hfin.cell 0
      have h4 := hfin.cell 1
      have h5 := hfin.cell 2
      simp only [List.getElem?_toArray, List.getElem?_cons_succ, List.getElem?_cons_zero, List.setIfInBounds_toArray, List.set_cons_zero, List.set_cons_succ] at h3 h4 h5
      (try rw [Exit.noGoto_ret])
      refine bodyPost_ret (v := .tuple #[matV i C A6 mc c6, .int .i64 0]) ?_ rfl ?_
      · rw [results_cell_tmp rfl]
        go_simp
      · have hle : w.heap.size ≤ w.heap.size + 1 := Nat.le_succ _
        have hbw := HW1.out.size
        have NE2 := own_ne_blk HO.out (KX.out.at (.tail _ (.head _))) (by decide)
        have hO := HO.out
        rw [AL2.out] at hO
        have hmc := HMC.out
        subst hmc
        exact .inl ⟨AG.out, _, _, rfl, own_mono (ownsRow_setCell_other (ownsRow_setCell_other (ownsRow_setCell_other hO NE2 _) NE2 _) NE2 _) hbw, ((HBW.out.setCell hle _).setCell hle _).setCell hle _⟩
end Go.Proofs.Ytbepadepepoilaa
