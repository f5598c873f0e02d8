/- aumbryref03.Invert, walked. -/
import Derived.Test.YtbepadepepoilaaR3d
import Derived.Test.YtbepadepepoilaaMade
namespace Go.Proofs.Ytbepadepepoilaa
open Go.RowKit
set_option linter.unusedVariables false
set_option linter.unusedSimpArgs false
set_option maxRecDepth 1000000 in
set_option maxHeartbeats 8000000 in
theorem ref03_invert (n : Nat) (A1 : Option Addr) (c1 : Nat) (a : Mx) (w : World) (hn : n ≤ 256) (ha : Bs w A1 c1 (matL n n a)) :
    Calls Try.prog 11 #[matV n n A1 (n * n) c1] w (InvR w n a) := by
  have CK : Hid (∀ w, Calls Try.prog 18 #[matV n n A1 (n * n) c1] w fun e w' => e = .returned (.int .i64 0) ∧ Below w.heap.size w w') := fun w => ref03_check_ok n n A1 (n * n) c1 ⟨by omega, by omega, by omega, by omega, by simp⟩ w
  have WD : Hid (∀ w', Bs w' A1 c1 (matL n n a) → Calls Try.prog 31 #[matV n n A1 (n * n) c1] w' fun e w'' => ∃ A' c' rs, e = .returned (.slice A' n c') ∧ lsts rs = iniL n a 0 ∧ MadeR w' w'' A' n c' rs) := fun w' h => by
    have := ref03_wide n n A1 c1 a w' hn hn h
    rwa [iniL_zero] at this
  obtain ⟨m, hm⟩ : ∃ m, m = 2 * n := ⟨_, rfl⟩
  have dnn : ((n : Int) != (n : Int)) = false := by rw [bne_self_eq_false]
  have dne : ((n : Int) == (n : Int)) = true := by rw [beq_iff_eq]
  have INI : Hid (∀ i, i < n → (iniL n a i).set i (tab n (a i) ++ tab n (dlt i)) = iniL n a (i + 1)) := fun i hi => iniL_set a hi
  have INT : Hid (∀ i, i < n → (iniL n a i)[i]? = some (tab n (a i))) := fun i hi => iniL_at a hi
  have INL : Hid (∀ i, (iniL n a i).length = n) := fun i => length_iniL n a i
  have INA : Hid (iniL n a n = rowsM n m (wide n a)) := by show _ = _; rw [hm]; exact iniL_all n a
  have HM := Lib.hid hm
  have hnb : n * n ≤ 65536 := Nat.mul_le_mul hn hn
  unfold InvR
  have FIN : Hid (∀ (e : Ending) (w' : World), InvR w n a e w' → InvR w n a e w') := fun _ _ h => h
  unfold InvR at FIN
  generalize hnn : n * n = nn at *
  have K0 := Lib.hid ((kn2 w 24 24 #[.int .i64 n, .int .i64 n, .slice A1 nn c1] #[.int .i64 0, .int .i64 0, .slice none 0 0]).sl (Sl.alloc (Sl.alloc ha _) _))
  have HW := Lib.hid (below2 w (.cells #[.int .i64 n, .int .i64 n, .slice A1 nn c1] 24) (.cells #[.int .i64 0, .int .i64 0, .slice none 0 0] 24))
  clear ha hm
  go_enter Try.func11, Try.ntmps11
  go_wp2_with (first
    | (go_at_call 18; (with_reducible refine (CK.out _).mono ?_); rintro e w1 ⟨rfl, hb1⟩; have K1 := Lib.hid (K0.out.below hb1); have HW1 := Lib.hid (HW.out.trans (hb1.mono HW.out.size)); clear hb1; have p0 := (K1.out.at (.head _)).cell 0; have p1 := (K1.out.at (.head _)).cell 1; have p2 := (K1.out.at (.head _)).cell 2; simp only [List.getElem?_toArray, List.getElem?_cons_succ, List.getElem?_cons_zero] at p0 p1 p2)
    | (go_at_call 31; (with_reducible refine (WD.out _ ?_).mono ?_); (exact K1.out.sat (.head _)); rintro e w2 ⟨A', c', rs, rfl, hls, hmd⟩; have HL0 := Lib.hid hls; have M0 := Lib.hid hmd; clear hls hmd; clear p0 p1 p2))
  have NZ : Hid (0 < n → ∃ g, A' = some ⟨g, 0, none⟩) := fun h => by obtain ⟨g, hA, _, _⟩ := own_addr M0.out.sp h; exact ⟨g, hA⟩
  go_loopw [6] (fun v wr => ∃ i : Nat, i ≤ n ∧ v = .int .i64 i ∧ ∃ rs : List Row, lsts rs = iniL n a i ∧ MadeR w1 wr A' n c' rs) (fun v _ => n - (intOf v).toNat)
  case atStart => exact ⟨0, Nat.zero_le _, rfl, rs, HL0.out, M0.out⟩
  case round =>
    clear HL0 M0
    obtain ⟨i, hi, rfl, rs', hls, hmd⟩ := hrel
    have HL := Lib.hid hls
    have M := Lib.hid hmd
    clear hls hmd
    by_cases hlt : i < n
    · have hit : (i : Int) < (n : Int) := by omega
      obtain ⟨g, hgA⟩ := NZ.out (by omega)
      subst hgA
      have hir : i < rs'.length := by rw [← length_lsts, HL.out, INL.out]; exact hlt
      obtain ⟨r, hr⟩ : ∃ r, rs'[i]? = some r := ⟨_, List.getElem?_eq_getElem hir⟩
      have hrl : r.2.2 = tab n (a i) := by
        have := lsts_at HL.out hr
        rw [INT.out i hlt] at this
        injection this with this
        exact this.symm
      obtain ⟨Ar, cr, lr⟩ := r
      simp only at hrl
      subst hrl
      have hown := M.out.gr.own i _ hr
      unfold ownR rowV at hown
      simp only [length_tab] at hown
      obtain ⟨gr, hAr, _, _⟩ := own_addr hown (by omega)
      subst hAr
      have HR := Lib.hid hr
      have HOW := Lib.hid hown
      have UT := Lib.hid (unit_tab n i hlt)
      have INS := Lib.hid (INI.out i hlt)
      have LT : Hid (∀ r, (tab n (a r)).length = n) := fun r => length_tab _ _
      have LD : Hid ((tab n (dlt i)).length = n) := length_tab _ _
      clear hr hown hir
      go_wp2_with (first
        | (refine make_bytes _ rfl _ _ rfl .i64 .i64 (n : Int) (n : Int) n rfl rfl rfl rfl ?b ?_; go_loud ((case b => omega); intro w3 ho3 hb3; have hcl := ho3.cellAt i (by omega); have hfz := ho3.frozenAt i; have hst := (ho3.stored i (bv 1)).1; rw [map_set, UT.out] at hst; have hb4 : Below wr.heap.size wr (w3.setCell ⟨wr.heap.size, i, none⟩ (.int .u8 1)) := hb3.setCell (Nat.le_refl _) _; have M4 := Lib.hid (M.out.below hb4); have OW4 := Lib.hid (own_below HOW.out hb4); have UN4 : Hid (Bs (w3.setCell ⟨wr.heap.size, i, none⟩ (.int .u8 1)) (some ⟨wr.heap.size, 0, none⟩) n (tab n (dlt i))) := own_sl hst; have ys := M4.out.sp.cellAt i (by omega); rw [show (vals rs')[i]? = some (.slice (some ⟨gr, 0, none⟩) n cr) from by (unfold vals; rw [List.getElem?_map, HR.out]; show some (Value.slice _ (tab n (a i)).length _) = _; rw [LT.out])] at ys; rw [getElem?_bv (by simp; exact hlt)] at hcl; clear ho3 hb3 hst hb4))
        | (at_builtin; refine app_bytes_f _ rfl _ _ rfl w1.heap.size gr cr n (tab n (a i)) rfl OW4.out wr.heap.size 0 n n (tab n (dlt i)) rfl UN4.out LD.out (by omega) (by omega) M4.out.bel.size ?_; intro g5 c5 w5 hown5 hgr5 hwh; have F5 := Lib.hid (M4.out.grow (r' := (some ⟨g5, 0, none⟩, c5, tab n (a i) ++ tab n (dlt i))) HR.out (by (unfold ownR rowV; simp only [List.length_append, length_tab]; exact hown5)) hgr5 (hwh.elim (fun h => .inl (congrArg some h)) (fun h => .inr (congrArg some h)))); clear hown5 hgr5 hwh; have z1 := F5.out.1; have z2 := F5.out.2.1; unfold rowV at z1; simp only [LT.out] at z1))
      go_roundw
      case rel => exact ⟨i + 1, by omega, by go_num, rs'.set i (some ⟨g5, 0, none⟩, c5, tab n (a i) ++ tab n (dlt i)), by rw [lsts_set, HL.out]; exact INS.out, by have := F5.out.2.2; unfold rowV at this; simp only [List.length_append, length_tab] at this; exact this⟩
      case measure => simp [intOf]; omega
    · obtain rfl : n = i := by omega
      have hit : ¬ (n : Int) < (n : Int) := by omega
      clear INI INT
      have SP0 : Hid (∀ g, A' = some ⟨g, 0, none⟩ → Spn w1 wr g n c' (rowsM n m (wide n a))) := fun g hg => by
        by_cases h0 : 0 < n
        · obtain ⟨g', hA, hsp⟩ := Spn.of M.out (HL.out.trans INA.out) h0
          have : g' = g := by rw [hg] at hA; injection hA with hA; injection hA with hA _; exact hA.symm
          subst this
          exact hsp
        · obtain rfl : n = 0 := by omega
          subst hg
          exact ⟨⟨vals rs', M.out.sp, by rw [length_vals, ← length_lsts, HL.out, INA.out], fun j l hj => by (have := (List.getElem?_eq_some_iff.1 hj).1; rw [length_rowsM] at this; omega)⟩, M.out.bel⟩
      have BEL0 := Lib.hid M.out.bel
      clear M HL INA INL
      go_wp2
      go_loopw [8] (fun v wr => ∃ (c : Nat) (W : Mx), c ≤ n ∧ v = .int .i64 c ∧ Gj n c W (wide n a) ∧ Below w1.heap.size w1 wr ∧ ∀ g, A' = some ⟨g, 0, none⟩ → Spn w1 wr g n c' (rowsM n m W)) (fun v _ => n - (intOf v).toNat)
      case atStart => exact ⟨0, wide n a, Nat.zero_le _, rfl, Gj.start n _, BEL0.out, SP0.out⟩
      case round =>
        rename World => wr2
        clear BEL0 SP0
        obtain ⟨c, W, hc, rfl, hgj, hbel, hsp⟩ := hrel
        have GJ := Lib.hid hgj
        have BEL := Lib.hid hbel
        have SP := Lib.hid hsp
        clear hgj hbel hsp
        by_cases hlc : c < n
        · have hct : (c : Int) < (n : Int) := by omega
          obtain ⟨g, hgA⟩ := NZ.out (by omega)
          subst hgA
          have S := Lib.hid (SP.out g rfl)
          clear SP
          have ROW : Hid (∀ q, q < n → ∃ A2 c2, wr2.cell? ⟨g, q, none⟩ = some (.slice A2 m c2) ∧ Bs wr2 A2 c2 (tab m (W q)) ∧ ∀ b o, A2 = some ⟨b, o, none⟩ → b ≠ g) := fun q hq => by
            obtain ⟨A2, c2, h1, h2, h3⟩ := S.out.get (rowsM_at W hq)
            rw [length_tab] at h1
            refine ⟨A2, c2, h1, h2, h3 fun z => ?_⟩
            have := congrArg List.length z
            rw [length_tab] at this
            have h5 := HM.out
            simp at this
            omega
          go_wp2
          go_loopw [9] (fun v wi => ∃ p : Nat, c ≤ p ∧ p ≤ n ∧ v = .int .i64 p ∧ (∀ q, c ≤ q → q < p → W q c = 0) ∧ wr2 = wi) (fun v _ => n - (intOf v).toNat)
          case atStart => exact ⟨c, Nat.le_refl _, by omega, rfl, fun q h1 h2 => by omega, rfl⟩
          case round =>
            obtain ⟨p, hcp, hpn, rfl, hz, rfl⟩ := hrel
            have HZ := Lib.hid hz
            clear hz
            by_cases hlp : p < n
            rotate_left
            · obtain rfl : n = p := by omega
              have hpt : ¬ (n : Int) < (n : Int) := by omega
              have SING := Lib.hid (Gj.singular GJ.out hlc fun q h1 h2 => HZ.out q h1 h2)
              have KX := Lib.hid (K1.out.below BEL.out)
              have HBW : Hid (Below w.heap.size w wr2) := HW1.out.trans (BEL.out.mono HW1.out.size)
              have r0 := (KX.out.at (.tail _ (.head _))).cell 0
              have r1 := (KX.out.at (.tail _ (.head _))).cell 1
              have r2 := (KX.out.at (.tail _ (.head _))).cell 2
              have rz0 := (KX.out.at (.tail _ (.head _))).frozen 0
              have rz1 := (KX.out.at (.tail _ (.head _))).frozen 1
              have rz2 := (KX.out.at (.tail _ (.head _))).frozen 2
              simp only [List.getElem?_toArray, List.getElem?_cons_succ, List.getElem?_cons_zero] at r0 r1 r2
              go_wp2
              (try rw [Exit.noGoto_ret])
              refine bodyPost_ret (v := .tuple #[matV 0 0 none 0 0, .int .i64 31]) ?_ rfl ?_
              · rw [results_cell_tmp rfl]
                go_simp
              · exact .inr ⟨fun x h => SING.out ⟨x, h⟩, rfl, ((HBW.out.setCell (Nat.le_succ _) _).setCell (Nat.le_succ _) _).setCell (Nat.le_succ _) _⟩
            have hpt : (p : Int) < (n : Int) := by omega
            obtain ⟨A2, c2, y1, hb2, hne2⟩ := ROW.out p hlp
            obtain ⟨b2, o2, hA2, _, hc2⟩ := Bs.at' hb2 (by rw [length_tab]; have := HM.out; omega)
            subst hA2
            have y2 := hc2 c (by rw [length_tab]; have := HM.out; omega)
            rw [getD_tab _ (by have := HM.out; omega)] at y2
            have HB2 := Lib.hid hb2
            have NE2 := Lib.hid hne2
            have hcm : (c : Int) < (m : Int) := by have := HM.out; omega
            clear hb2 hne2 hc2
            obtain ⟨x, hx⟩ : ∃ x, W p c = x := ⟨_, rfl⟩
            rw [hx] at y2
            have HX := Lib.hid hx
            clear hx
            by_cases hx0 : x = 0
            · subst hx0
              have e0 : (((0 : F).n : Int) == 0) = true := rfl
              have HZ2 : Hid (∀ q, c ≤ q → q < p + 1 → W q c = 0) := fun q h1 h2 => (Nat.lt_or_ge q p).elim (fun h => HZ.out q h1 h) (fun h => by rw [show q = p by omega]; exact HX.out)
              go_wp2
              go_roundw
              case rel => exact ⟨p + 1, by omega, by omega, by go_num, HZ2.out, by first | rfl | trivial⟩
              case measure => simp [intOf]; omega
            · have e0 : ((x.n : Int) == 0) = false := bne_n hx0
              have e1 : ((p : Int) == (n : Int)) = false := by rw [beq_eq_false_iff_ne]; omega
              obtain ⟨A3, c3, y3, hb3, hne3⟩ := ROW.out c hlc
              have fz1 := (S.out.at hlp).2.1
              have SP1 : Hid (Spn w1 (wr2.setCell ⟨g, p, none⟩ (.slice A3 m c3)) g n c' (rowsM n m fun i j => if i = p then W c j else W i j)) := by
                have := S.out.put' (i := p) (l := tab m (W c)) hb3 fun _ => hne3
                rw [length_tab, rowsM_set (f' := fun i j => if i = p then W c j else W i j) hlp (tab_congr fun j _ => (if_pos rfl).symm) (fun r hr => funext fun j => if_neg hr)] at this
                exact this
              obtain ⟨⟨v0, z1⟩, z2, _⟩ := SP1.out.at hlc
              have SP2 : Hid (Spn w1 ((wr2.setCell ⟨g, p, none⟩ (.slice A3 m c3)).setCell ⟨g, c, none⟩ (.slice (some ⟨b2, o2, none⟩) m c2)) g n c' (rowsM n m (swp W c p))) := by
                have := SP1.out.put' (i := c) (l := tab m (W p)) (Sl.beside HB2.out ((Beside.refl g wr2).setCell p _) NE2.out) fun _ => NE2.out
                rw [length_tab, rowsM_set (f' := swp W c p) hlc (tab_congr fun j _ => (if_pos rfl).symm) (fun r hr => funext fun j => by unfold swp; rw [if_neg hr])] at this
                exact this
              have hW0 : W p c ≠ 0 := by rw [HX.out]; exact hx0
              have GJ2 := Lib.hid (Gj.swap GJ.out hlc hcp hlp hW0)
              have PV : Hid (swp W c p c c ≠ 0) := by show _ ≠ _; rw [show swp W c p c c = W p c from if_pos rfl]; exact hW0
              clear hb3 hne3 hW0 GJ
              go_wp2
              clear y1 y2 y3 fz1 z1 z2
              obtain ⟨W2, hW2⟩ : ∃ W2, swp W c p = W2 := ⟨_, rfl⟩
              rw [hW2] at SP2 GJ2 PV
              obtain ⟨MU, hMU⟩ : ∃ MU : Nat → F, (fun i => W2 i c * F.inv (W2 c c)) = MU := ⟨_, rfl⟩
              rw [hMU] at GJ2
              have HMU : Hid (∀ i, MU i = W2 i c * F.inv (W2 c c)) := fun i => by rw [← hMU]
              clear hW2 hMU SP1 ROW S HB2 NE2 HX HZ
              go_loopw [11] (fun v wi => ∃ r : Nat, r ≤ n ∧ v = .int .i64 r ∧ Spn w1 wi g n c' (rowsM n m (clr MU W2 c r))) (fun v _ => n - (intOf v).toNat)
              case atStart => exact ⟨0, Nat.zero_le _, rfl, by rw [clr_zero]; exact SP2.out⟩
              case round =>
                rename World => wi
                clear SP2
                obtain ⟨r, hr, rfl, hsi⟩ := hrel
                have SI := Lib.hid hsi
                clear hsi
                by_cases hlr : r < n
                · have hrt : (r : Int) < (n : Int) := by omega
                  by_cases hrc : r = c
                  · subst hrc
                    have e2 : ((r : Int) != (r : Int)) = false := by rw [bne_self_eq_false]
                    have SN : Hid (Spn w1 wi g n c' (rowsM n m (clr MU W2 r (r + 1)))) := by show Spn _ _ _ _ _ _; rw [clr_succ_col]; exact SI.out
                    go_wp2
                    go_roundw
                    case rel => exact ⟨r + 1, by omega, by go_num, SN.out⟩
                    case measure => simp [intOf]; omega
                  · have e2 : ((r : Int) != (c : Int)) = true := by rw [bne_iff_ne]; omega
                    obtain ⟨A5, c5, y5, hb5, _⟩ := SI.out.get (rowsM_at _ hlr)
                    obtain ⟨A6, c6, y6, hb6, _⟩ := SI.out.get (rowsM_at _ hlc)
                    rw [length_tab] at y5 y6
                    have hcm' : c < m := by have := HM.out; omega
                    have hm1 : m ≤ 1000 := by have := HM.out; omega
                    have hgl : g < wi.heap.size := by obtain ⟨vs, h1, _⟩ := SI.out.ex; exact (own_some h1).2
                    have TC : Hid (tab m (fun i => (tab m (clr MU W2 c r r)).getD i 0 + (tab m (clr MU W2 c r r)).getD c 0 * F.inv ((tab m (clr MU W2 c r c)).getD c 0) * (tab m (clr MU W2 c r c)).getD i 0) = tab m (clr MU W2 c (r + 1) r)) := tab_congr fun i hi => by
                      rw [getD_tab _ hi, getD_tab _ hcm', getD_tab _ hcm', getD_tab _ hi, clr_ge _ _ _ (Nat.le_refl r), clr_ge _ _ _ (Nat.le_refl r), clr_self, clr_self, clr_lt _ _ _ (Nat.lt_succ_self r) hrc, HMU.out r, F.mul_comm]
                    have CL : Hid (∀ w', Below wi.heap.size wi w' → Calls Try.prog 32 #[.slice A5 m c5, .slice A6 m c6, .int .i64 c] w' fun e w'' => ∃ A' c', e = .returned (.slice A' m c') ∧ w''.ownsRow w'.heap.size 5 1 (.slice A' m c') m ((tab m (clr MU W2 c (r + 1) r)).map bv) ∧ Below w'.heap.size w' w'') := fun w' hb => by
                      have := ref03_cleared m c A5 c5 _ A6 c6 _ w' (Sl.below hb5 hb) (Sl.below hb6 hb) (length_tab _ _) (length_tab _ _) hcm' hm1 (by rw [getD_tab _ hcm', clr_self]; exact PV.out)
                      rw [TC.out] at this
                      exact this
                    have hcn' : (c : Int) < (n : Int) := by omega
                    clear hb5 hb6
                    go_wp2
                    go_region_law (go_simp; go_at_call 32; (with_reducible refine (CL.out _ ?_).mono ?_); (first | exact Below.refl _ _ | exact below_drew0 _ _); rintro e w7 ⟨A7, c7, rfl, hown, hb7⟩; have SP7 := Lib.hid (SI.out.below ((below_drew0 wi 1).trans hb7)); obtain ⟨⟨v7, z7⟩, z8, _⟩ := SP7.out.at hlr; have HO7 := Lib.hid hown; clear hown hb7)
                    all_goals
                      go_wp2
                      go_roundw
                      case rel =>
                        refine ⟨r + 1, by omega, by go_num, ?_⟩
                        have := SP7.out.put' (i := r) (l := tab m (clr MU W2 c (r + 1) r)) (own_sl HO7.out) fun _ b o hA => by
                          have h2 := HO7.out
                          obtain ⟨g7, hA7, h3, _⟩ := own_addr h2 (by omega)
                          rw [hA] at hA7
                          injection hA7 with hA7
                          injection hA7 with hA7 _
                          have h4 := (own_block_lt h2 (g := g7) (by rw [hA, hA7]; rfl)).1
                          have : wi.heap.size ≤ g7 := h4
                          omega
                        rw [length_tab, rowsM_set (f' := clr MU W2 c (r + 1)) hlr rfl (fun q hq => funext fun j => clr_succ_ne _ _ _ hq j)] at this
                        exact this
                      case measure => simp [intOf]; omega
                · obtain rfl : n = r := by omega
                  have hrt : ¬ (n : Int) < (n : Int) := by omega
                  go_wp2
                  go_roundw
                  case rel => exact ⟨c + 1, clr MU W2 c n, by omega, by go_num, GJ2.out, SI.out.bel, fun g' hg' => by (injection hg' with hg'; injection hg' with hg' _; subst hg'; exact SI.out)⟩
                  case measure => simp [intOf]; omega
        · obtain rfl : n = c := by omega
          have hct : ¬ (n : Int) < (n : Int) := by omega
          have KX := Lib.hid (K1.out.below BEL.out)
          have HBW : Hid (Below w.heap.size w wr2) := HW1.out.trans (BEL.out.mono HW1.out.size)
          have hbw := HBW.out.size
          have DONE : Hid (IsInv n a fun r c => W r (n + c) * F.inv (W r r)) := Gj.done GJ.out
          have DIA : Hid (∀ r, r < n → W r r ≠ 0) := fun r hr => GJ.out.dia r hr
          obtain ⟨f, hf⟩ : ∃ f : Mx, (fun r c => W r (n + c) * F.inv (W r r)) = f := ⟨_, rfl⟩
          rw [hf] at DONE
          have HF : Hid (∀ r c, f r c = W r (n + c) * F.inv (W r r)) := fun r c => by rw [← hf]
          have ALLM : Hid (tab (n * n) (matF n f) = matL n n f) := rfl
          rw [hnn] at ALLM
          clear hf GJ BEL
          go_wp2
          have BK0 := Lib.hid (Blk.new wr2 #[.int .i64 n, .int .i64 n, .slice none 0 0] 24)
          go_loopw [13] (fun v wi => ∃ (r : Nat) (A6 : Option Addr) (c6 : Nat), r ≤ n ∧ v = .int .i64 r ∧ Blk wi wr2.heap.size 24 #[.int .i64 n, .int .i64 n, .slice A6 (r * n) c6] ∧ wi.ownsRow wr2.heap.size 5 1 (.slice A6 (r * n) c6) (r * n) ((tab (r * n) (matF n f)).map bv) ∧ Below wr2.heap.size wr2 wi) (fun v _ => n - (intOf v).toNat)
          case atStart => exact ⟨0, none, 0, Nat.zero_le _, rfl, by rw [Nat.zero_mul]; exact BK0.out, by rw [Nat.zero_mul]; exact World.ownsRow_nil _ _ _ _, below_alloc _ _⟩
          case round =>
            rename World => wi
            clear BK0
            obtain ⟨r, A6, c6, hr, rfl, hbk, hown, hbel⟩ := hrel
            have hsz := hbel.size
            have BK := Lib.hid hbk
            have HO := Lib.hid hown
            have HB := Lib.hid hbel
            clear hbk hown hbel
            by_cases hlr : r < n
            · have hrt : (r : Int) < (n : Int) := by omega
              go_wp2
              go_loopw [14] (fun v wj => ∃ (c : Nat) (A7 : Option Addr) (c7 : Nat), c ≤ n ∧ v = .int .i64 c ∧ Blk wj wr2.heap.size 24 #[.int .i64 n, .int .i64 n, .slice A7 (r * n + c) c7] ∧ wj.ownsRow wr2.heap.size 5 1 (.slice A7 (r * n + c) c7) (r * n + c) ((tab (r * n + c) (matF n f)).map bv) ∧ Below wr2.heap.size wr2 wj) (fun v _ => n - (intOf v).toNat)
              case atStart => exact ⟨0, A6, c6, Nat.zero_le _, rfl, BK.out, HO.out, HB.out⟩
              case round =>
                rename World => wj
                clear BK HO HB hsz
                obtain ⟨c, A7, c7, hc, rfl, hbk, hown, hbel⟩ := hrel
                have hsz := hbel.size
                have BK := Lib.hid hbk
                have HO := Lib.hid hown
                have HB := Lib.hid hbel
                have hcell := hbk.cell 2
                have hfz := hbk.frozen 2
                simp only [List.getElem?_toArray, List.getElem?_cons_succ, List.getElem?_cons_zero] at hcell
                clear hbk hown hbel
                by_cases hlc : c < n
                · have hct : (c : Int) < (n : Int) := by omega
                  obtain ⟨g, hgA⟩ := NZ.out (by omega)
                  subst hgA
                  obtain ⟨A8, c8, y8, hb8, _⟩ := ((SP.out g rfl).below HB.out).get (rowsM_at W hlr)
                  rw [length_tab] at y8
                  obtain ⟨b8, o8, hA8, _, hc8⟩ := Bs.at' hb8 (by rw [length_tab]; have := HM.out; omega)
                  subst hA8
                  have y9 := hc8 (n + c) (by rw [length_tab]; have := HM.out; omega)
                  have yr := hc8 r (by rw [length_tab]; have := HM.out; omega)
                  rw [getD_tab _ (by have := HM.out; omega)] at y9 yr
                  have hnc : (n : Int) + (c : Int) < (m : Int) := by have := HM.out; omega
                  have hwn : IntKind.i64.wrap ((n : Int) + (c : Int)) = (n : Int) + (c : Int) := by rw [IntKind.wrap_i64]; omega
                  have hw0 : 0 ≤ (n : Int) + (c : Int) := by omega
                  have hwt : ((n : Int) + (c : Int)).toNat = n + c := by omega
                  have hnm : (r : Int) < (m : Int) := by have := HM.out; omega
                  have HT : Hid (tab (r * n + (c + 1)) (matF n f) = tab (r * n + c) (matF n f) ++ [W r (n + c) * F.inv (W r r)]) := by
                    show _ = _
                    rw [← Nat.add_assoc, tab_succ', matF_at f hlc, HF.out]
                  have hbound : r * n + c + 1 ≤ 70000 := by
                    have : r * n ≤ 256 * 256 := Nat.mul_le_mul (by omega) hn
                    omega
                  have NE := Lib.hid (own_ne_blk HO.out BK.out (by decide))
                  have DV : Hid (∀ w, Calls Try.prog 33 #[.int .u8 (W r (n + c)).n, .int .u8 (W r r).n] w fun e w' => e = .returned (.tuple #[.int .u8 (W r (n + c) * F.inv (W r r)).n, .int .i64 0]) ∧ w = w') := fun w => by
                    have := ref_div (W r (n + c)) (W r r) w
                    rw [if_neg (DIA.out r hlr)] at this
                    exact this
                  clear hb8 hc8
                  generalize W r (n + c) * F.inv (W r r) = y at *
                  generalize W r (n + c) = u at *
                  generalize W r r = v at *
                  go_wp2
                  go_region_law (go_simp; go_at_call 33; (with_reducible refine (DV.out _).mono ?_); rintro e wx ⟨rfl, rfl⟩)
                  all_goals
                    go_wp2_with (at_builtin; refine app_bytes_g _ rfl _ _ rfl wr2.heap.size A7 c7 (r * n + c) (tab (r * n + c) (matF n f)) rfl (own_below HO.out ⟨rfl, rfl, rfl, by simp, fun k hk => heap_alloc_old _ _ hk⟩) _ _ 1 [y] rfl ?litbs rfl (by omega) (by simp; omega) ?_; go_loud ((case litbs => first | exact lit_bs rfl rfl rfl (by decide) | exact lit_drew y rfl); intro A3 c3 w3 hown3 hgr3; have hk3 : Blk w3 wr2.heap.size 24 #[.int .i64 n, .int .i64 n, .slice A7 (r * n + c) c7] := Blk.grown' hgr3 BK.out ⟨rfl, rfl, rfl, by simp, fun k hk => heap_alloc_old _ _ hk⟩ NE.out; have HB3 : Hid (Below wr2.heap.size wr2 w3) := own_grow' hgr3 HB.out HO.out ⟨rfl, rfl, rfl, by simp, fun k hk => heap_alloc_old _ _ hk⟩ hsz; have hcell3 := hk3.cell 2; have hfz3 := hk3.frozen 2; simp only [List.getElem?_toArray, List.getElem?_cons_succ, List.getElem?_cons_zero] at hcell3; have HK3 := Lib.hid hk3; have HO3 := Lib.hid hown3; clear hk3 hown3 hgr3))
                    go_roundw
                    case rel => exact ⟨c + 1, A3, c3, by omega, by go_num, HK3.out.set 2 _, by rw [HT.out]; exact ownsRow_setCell_other HO3.out (own_ne_blk HO3.out HK3.out (by decide)) _, HB3.out.setCell (Nat.le_refl _) _⟩
                    case measure => simp [intOf]; omega
                · obtain rfl : n = c := by omega
                  have hct : ¬ (n : Int) < (n : Int) := by omega
                  have e1 : r * n + n = (r + 1) * n := by rw [Nat.succ_mul]
                  rw [e1] at BK HO
                  go_wp2
                  go_roundw
                  case rel => exact ⟨r + 1, A7, c7, by omega, by go_num, BK.out, HO.out, HB.out⟩
                  case measure => simp [intOf]; omega
            · obtain rfl : n = r := by omega
              have hrt : ¬ (n : Int) < (n : Int) := by omega
              rw [hnn] at BK HO
              have KY := Lib.hid (KX.out.below HB.out)
              have HBY : Hid (Below w.heap.size w wi) := HBW.out.trans (HB.out.mono HBW.out.size)
              have h0 := BK.out.cell 0
              have h1 := BK.out.cell 1
              have h2 := BK.out.cell 2
              have r0 := (KY.out.at (.tail _ (.head _))).cell 0
              have r1 := (KY.out.at (.tail _ (.head _))).cell 1
              have r2 := (KY.out.at (.tail _ (.head _))).cell 2
              have rz0 := (KY.out.at (.tail _ (.head _))).frozen 0
              have rz1 := (KY.out.at (.tail _ (.head _))).frozen 1
              have rz2 := (KY.out.at (.tail _ (.head _))).frozen 2
              simp only [List.getElem?_toArray, List.getElem?_cons_succ, List.getElem?_cons_zero] at h0 h1 h2 r0 r1 r2
              go_wp2
              have hfin := (((KY.out.at (.tail _ (.head _))).set 0 (.int .i64 (n : Int))).set 1 (.int .i64 (n : Int))).set 2 (.slice A6 nn c6)
              have h3 := hfin.cell 0
              have h4 := hfin.cell 1
              have h5 := hfin.cell 2
              simp only [List.getElem?_toArray, List.getElem?_cons_succ, List.getElem?_cons_zero, List.setIfInBounds_toArray, List.set_cons_zero, List.set_cons_succ] at h3 h4 h5
              (try rw [Exit.noGoto_ret])
              refine bodyPost_ret (v := .tuple #[matV n n A6 nn c6, .int .i64 0]) ?_ rfl ?_
              · rw [results_cell_tmp rfl]
                go_simp
              · have hle : w.heap.size ≤ w.heap.size + 1 := Nat.le_succ _
                have NE2 := own_ne_blk HO.out (KY.out.at (.tail _ (.head _))) (by decide)
                have hO := HO.out
                rw [ALLM.out] at hO
                exact .inl ⟨_, DONE.out, _, _, rfl, own_mono (ownsRow_setCell_other (ownsRow_setCell_other (ownsRow_setCell_other hO NE2 _) NE2 _) NE2 _) hbw, ((HBY.out.setCell hle _).setCell hle _).setCell hle _⟩
end Go.Proofs.Ytbepadepepoilaa
