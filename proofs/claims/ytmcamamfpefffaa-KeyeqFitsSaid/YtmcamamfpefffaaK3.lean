/- The document's solved, walked. -/
import Derived.Test.YtmcamamfpefffaaK2
import Derived.Deep.CutRange
namespace Go.Proofs.Ytmcamamfpefffaa
open Go.RowKit
set_option linter.unusedVariables false
set_option linter.unusedSimpArgs false
/-- what solved answers -/
def SolvedR (wb : World) (n t : Nat) (v : Mx) (e : Ending) (w' : World) : Prop :=
  Below wb.heap.size wb w' ∧ ((∃ x A2 c2, e = .returned (.tuple #[.slice A2 t c2, .bool true]) ∧ SolvR n t v true x ∧ w'.ownsRow wb.heap.size 5 1 (.slice A2 t c2) t ((tab t x).map bv)) ∨ (e = .returned (.tuple #[.slice none 0 0, .bool false]) ∧ ∀ x, SolvR n t v false x))
theorem ret_tup2 {a b c d : Value} (h1 : a = c) (h2 : b = d) : Ending.returned (.tuple #[a, b]) = .returned (.tuple #[c, d]) := by rw [h1, h2]
set_option maxRecDepth 1000000 in
set_option maxHeartbeats 8000000 in
theorem ref09_solved (n t : Nat) (A' : Option Addr) (c' : Nat) (v : Mx) (wb w : World) (hn : n ≤ 100000) (ht : t ≤ 900) (htn : t ≤ n) (hbel0 : Below wb.heap.size wb w) (hnz : 0 < n → ∃ g, A' = some ⟨g, 0, none⟩) (hsp0 : ∀ g, A' = some ⟨g, 0, none⟩ → Spn wb w g n c' (rowsM n (t + 1) v)) :
    Calls Try.prog 41 #[.slice A' n c', .int .i64 t] w (SolvedR wb n t v) := by
  have NZ := Lib.hid hnz
  have SP0 := Lib.hid hsp0
  have BEL0 := Lib.hid hbel0
  obtain ⟨m, hm⟩ : ∃ m, m = t + 1 := ⟨_, rfl⟩
  rw [← hm] at SP0
  have HM := Lib.hid hm
  unfold SolvedR
  clear hm hnz hsp0 hbel0
  go_enter Try.func41, Try.ntmps41
  go_wp2
  go_loopw [6] (fun x wr => ∃ (c : Nat) (W : Mx), c ≤ t ∧ x = .int .i64 c ∧ Ge n t c W v ∧ Below wb.heap.size wb wr ∧ ∀ g, A' = some ⟨g, 0, none⟩ → Spn wb wr g n c' (rowsM n m W)) (fun x _ => t - (intOf x).toNat)
  case atStart => exact ⟨0, v, Nat.zero_le _, rfl, Ge.start n t v, BEL0.out, SP0.out⟩
  case round =>
    rename World => wr2
    clear BEL0 SP0
    obtain ⟨c, W, hc, rfl, hgj, hbel, hsp⟩ := hrel
    have GJ := Lib.hid hgj
    have BEL := Lib.hid hbel
    have SP := Lib.hid hsp
    clear hgj hbel hsp
    by_cases hlc : c < t
    · have hct : (c : Int) < (t : Int) := by omega
      have hcn : c < n := by omega
      obtain ⟨g, hgA⟩ := NZ.out (by omega)
      subst hgA
      have S := Lib.hid (SP.out g rfl)
      clear SP
      have ROW : Hid (∀ q, q < n → ∃ A2 c2, wr2.cell? ⟨g, q, none⟩ = some (.slice A2 m c2) ∧ Bs wr2 A2 c2 (tab m (W q)) ∧ ∀ b o, A2 = some ⟨b, o, none⟩ → b ≠ g) := fun q hq => by
        obtain ⟨A2, c2, h1, h2, h3⟩ := S.out.get (rowsM_at W hq)
        rw [length_tab] at h1
        refine ⟨A2, c2, h1, h2, h3 fun z => ?_⟩
        have := congrArg List.length z
        rw [length_tab] at this
        have h5 := HM.out
        simp at this
        omega
      go_wp2
      go_loopw [7] (fun x wi => ∃ p : Nat, c ≤ p ∧ p ≤ n ∧ x = .int .i64 p ∧ (∀ q, c ≤ q → q < p → W q c = 0) ∧ wr2 = wi) (fun x _ => n - (intOf x).toNat)
      case atStart => exact ⟨c, Nat.le_refl _, by omega, rfl, fun q h1 h2 => by omega, rfl⟩
      case round =>
        obtain ⟨p, hcp, hpn, rfl, hz, rfl⟩ := hrel
        have HZ := Lib.hid hz
        clear hz
        by_cases hlp : p < n
        rotate_left
        · obtain rfl : n = p := by omega
          have hpt : ¬ (n : Int) < (n : Int) := by omega
          have hpt2 : decide (n ≤ n) = true := decide_eq_true (Nat.le_refl _)
          have SING : Hid (∀ x, SolvR n t v false x) := fun x y hy => by
            obtain ⟨z, h1, h2⟩ := Ge.nopivot GJ.out hlc (fun q h1 h2 => HZ.out q h1 h2) y hy
            exact ⟨z, h1, c, hlc, h2⟩
          go_wp2
          go_ret2
          exact ⟨BEL.out, .inr ⟨rfl, SING.out⟩⟩
        have hpt : (p : Int) < (n : Int) := by omega
        have hpt2 : decide (n ≤ p) = false := decide_eq_false (by omega)
        obtain ⟨A2, c2, y1, hb2, hne2⟩ := ROW.out p hlp
        obtain ⟨b2, o2, hA2, _, hc2⟩ := Bs.at' hb2 (by rw [length_tab]; have := HM.out; omega)
        subst hA2
        have y2 := hc2 c (by rw [length_tab]; have := HM.out; omega)
        rw [getD_tab _ (by have := HM.out; omega)] at y2
        have HB2 := Lib.hid hb2
        have NE2 := Lib.hid hne2
        have hcm : (c : Int) < (m : Int) := by have := HM.out; omega
        clear hb2 hne2 hc2
        obtain ⟨x, hx⟩ : ∃ x, W p c = x := ⟨_, rfl⟩
        rw [hx] at y2
        have HX := Lib.hid hx
        clear hx
        by_cases hx0 : x = 0
        · subst hx0
          have e0 : (((0 : F).n : Int) == 0) = true := rfl
          have HZ2 : Hid (∀ q, c ≤ q → q < p + 1 → W q c = 0) := fun q h1 h2 => (Nat.lt_or_ge q p).elim (fun h => HZ.out q h1 h) (fun h => by rw [show q = p by omega]; exact HX.out)
          go_wp2
          go_roundw
          case rel => exact ⟨p + 1, by omega, by omega, by go_num, HZ2.out, by first | rfl | trivial⟩
          case measure => simp [intOf]; omega
        · have e0 : ((x.n : Int) == 0) = false := bne_n hx0
          obtain ⟨A3, c3, y3, hb3, hne3⟩ := ROW.out c hcn
          have fz1 := (S.out.at hlp).2.1
          have SP1 : Hid (Spn wb (wr2.setCell ⟨g, p, none⟩ (.slice A3 m c3)) g n c' (rowsM n m fun i j => if i = p then W c j else W i j)) := by
            have := S.out.put' (i := p) (l := tab m (W c)) hb3 fun _ => hne3
            rw [length_tab, rowsM_set (f' := fun i j => if i = p then W c j else W i j) hlp (tab_congr fun j _ => (if_pos rfl).symm) (fun r hr => funext fun j => if_neg hr)] at this
            exact this
          obtain ⟨⟨v0, z1⟩, z2, _⟩ := SP1.out.at hcn
          have SP2 : Hid (Spn wb ((wr2.setCell ⟨g, p, none⟩ (.slice A3 m c3)).setCell ⟨g, c, none⟩ (.slice (some ⟨b2, o2, none⟩) m c2)) g n c' (rowsM n m (swp W c p))) := by
            have := SP1.out.put' (i := c) (l := tab m (W p)) (Sl.beside HB2.out ((Beside.refl g wr2).setCell p _) NE2.out) fun _ => NE2.out
            rw [length_tab, rowsM_set (f' := swp W c p) hcn (tab_congr fun j _ => (if_pos rfl).symm) (fun r hr => funext fun j => by unfold swp; rw [if_neg hr])] at this
            exact this
          have hW0 : W p c ≠ 0 := by rw [HX.out]; exact hx0
          have GJ2 := Lib.hid (Ge.swap GJ.out hcn hcp hlp hW0)
          have PV : Hid (swp W c p c c ≠ 0) := by show _ ≠ _; rw [show swp W c p c c = W p c from if_pos rfl]; exact hW0
          have hcn' : (c : Int) < (n : Int) := by omega
          clear hb3 hne3 hW0 GJ
          go_wp2
          clear y1 y2 y3 fz1 z1 z2
          obtain ⟨W2, hW2⟩ : ∃ W2, swp W c p = W2 := ⟨_, rfl⟩
          rw [hW2] at SP2 GJ2 PV
          obtain ⟨MU, hMU⟩ : ∃ MU : Nat → F, (fun i => W2 i c * F.inv (W2 c c)) = MU := ⟨_, rfl⟩
          rw [hMU] at GJ2
          have HMU : Hid (∀ i, MU i = W2 i c * F.inv (W2 c c)) := fun i => by rw [← hMU]
          clear hW2 hMU SP1 ROW S HB2 NE2 HX HZ
          go_loopw [9] (fun x wi => ∃ r : Nat, r ≤ n ∧ x = .int .i64 r ∧ Spn wb wi g n c' (rowsM n m (clr MU W2 c r))) (fun x _ => n - (intOf x).toNat)
          case atStart => exact ⟨0, Nat.zero_le _, rfl, by rw [clr_zero]; exact SP2.out⟩
          case round =>
            rename World => wi
            clear SP2
            obtain ⟨r, hr, rfl, hsi⟩ := hrel
            have SI := Lib.hid hsi
            clear hsi
            by_cases hlr : r < n
            · have hrt : (r : Int) < (n : Int) := by omega
              by_cases hrc : r = c
              · subst hrc
                have e2 : ((r : Int) != (r : Int)) = false := by rw [bne_self_eq_false]
                have SN : Hid (Spn wb wi g n c' (rowsM n m (clr MU W2 r (r + 1)))) := by show Spn _ _ _ _ _ _; rw [clr_succ_col]; exact SI.out
                go_wp2
                go_roundw
                case rel => exact ⟨r + 1, by omega, by go_num, SN.out⟩
                case measure => simp [intOf]; omega
              · have e2 : ((r : Int) != (c : Int)) = true := by rw [bne_iff_ne]; omega
                obtain ⟨A5, c5, y5, hb5, _⟩ := SI.out.get (rowsM_at _ hlr)
                obtain ⟨A6, c6, y6, hb6, _⟩ := SI.out.get (rowsM_at _ hcn)
                rw [length_tab] at y5 y6
                have hcm' : c < m := by have := HM.out; omega
                have hm1 : m ≤ 1000 := by have := HM.out; omega
                have hgl : g < wi.heap.size := by obtain ⟨vs, h1, _⟩ := SI.out.ex; exact (own_some h1).2
                have TC : Hid (tab m (fun i => (tab m (clr MU W2 c r r)).getD i 0 + (tab m (clr MU W2 c r r)).getD c 0 * F.inv ((tab m (clr MU W2 c r c)).getD c 0) * (tab m (clr MU W2 c r c)).getD i 0) = tab m (clr MU W2 c (r + 1) r)) := tab_congr fun i hi => by
                  rw [getD_tab _ hi, getD_tab _ hcm', getD_tab _ hcm', getD_tab _ hi, clr_ge _ _ _ (Nat.le_refl r), clr_ge _ _ _ (Nat.le_refl r), clr_self, clr_self, clr_lt _ _ _ (Nat.lt_succ_self r) hrc, HMU.out r, F.mul_comm]
                have CL : Hid (∀ w', Below wi.heap.size wi w' → Calls Try.prog 42 #[.slice A5 m c5, .slice A6 m c6, .int .i64 c] w' fun e w'' => ∃ A' c', e = .returned (.slice A' m c') ∧ w''.ownsRow w'.heap.size 5 1 (.slice A' m c') m ((tab m (clr MU W2 c (r + 1) r)).map bv) ∧ Below w'.heap.size w' w'') := fun w' hb => by
                  have := ref09_taken m c A5 c5 _ A6 c6 _ w' (Sl.below hb5 hb) (Sl.below hb6 hb) (length_tab _ _) (length_tab _ _) hcm' hm1 (by rw [getD_tab _ hcm', clr_self]; exact PV.out)
                  rw [TC.out] at this
                  exact this
                clear hb5 hb6
                go_wp2
                go_region_law (go_simp; go_at_call 42; (with_reducible refine (CL.out _ ?_).mono ?_); (first | exact Below.refl _ _ | exact below_drew0 _ _); rintro e w7 ⟨A7, c7, rfl, hown, hb7⟩; have SP7 := Lib.hid (SI.out.below ((below_drew0 wi 1).trans hb7)); obtain ⟨⟨v7, z7⟩, z8, _⟩ := SP7.out.at hlr; have HO7 := Lib.hid hown; clear hown hb7)
                all_goals
                  go_wp2
                  go_roundw
                  case rel =>
                    refine ⟨r + 1, by omega, by go_num, ?_⟩
                    have := SP7.out.put' (i := r) (l := tab m (clr MU W2 c (r + 1) r)) (own_sl HO7.out) fun _ b o hA => by
                      have h2 := HO7.out
                      obtain ⟨g7, hA7, h3, _⟩ := own_addr h2 (by omega)
                      rw [hA] at hA7
                      injection hA7 with hA7
                      injection hA7 with hA7 _
                      have h4 := (own_block_lt h2 (g := g7) (by rw [hA, hA7]; rfl)).1
                      have : wi.heap.size ≤ g7 := h4
                      omega
                    rw [length_tab, rowsM_set (f' := clr MU W2 c (r + 1)) hlr rfl (fun q hq => funext fun j => clr_succ_ne _ _ _ hq j)] at this
                    exact this
                  case measure => simp [intOf]; omega
            · obtain rfl : n = r := by omega
              have hrt : ¬ (n : Int) < (n : Int) := by omega
              go_wp2
              go_roundw
              case rel => exact ⟨c + 1, clr MU W2 c n, by omega, by go_num, GJ2.out, SI.out.bel, fun g' hg' => by (injection hg' with hg'; injection hg' with hg' _; subst hg'; exact SI.out)⟩
              case measure => simp [intOf]; omega
    · obtain rfl : t = c := by omega
      have hct : ¬ (t : Int) < (t : Int) := by omega
      go_wp2
      go_loopw [10] (fun x wi => ∃ r : Nat, t ≤ r ∧ r ≤ n ∧ x = .int .i64 r ∧ (∀ q, t ≤ q → q < r → W q t = 0) ∧ wr2 = wi) (fun x _ => n - (intOf x).toNat)
      case atStart => exact ⟨t, Nat.le_refl _, htn, rfl, fun q h1 h2 => by omega, rfl⟩
      case round =>
        obtain ⟨r, htr, hrn, rfl, hz, rfl⟩ := hrel
        have HZ := Lib.hid hz
        clear hz
        by_cases hlr : r < n
        · have hrt : (r : Int) < (n : Int) := by omega
          obtain ⟨g, hgA⟩ := NZ.out (by omega)
          subst hgA
          obtain ⟨A2, c2, y1, hb2, _⟩ := (SP.out g rfl).get (rowsM_at W hlr)
          rw [length_tab] at y1
          obtain ⟨b2, o2, hA2, _, hc2⟩ := Bs.at' hb2 (by rw [length_tab]; have := HM.out; omega)
          subst hA2
          have y2 := hc2 t (by rw [length_tab]; have := HM.out; omega)
          rw [getD_tab _ (by have := HM.out; omega)] at y2
          have htm : (t : Int) < (m : Int) := by have := HM.out; omega
          clear hb2 hc2
          obtain ⟨x, hx⟩ : ∃ x, W r t = x := ⟨_, rfl⟩
          rw [hx] at y2
          have HX := Lib.hid hx
          clear hx
          by_cases hx0 : x = 0
          · subst hx0
            have e0 : (((0 : F).n : Int) != 0) = false := rfl
            have HZ2 : Hid (∀ q, t ≤ q → q < r + 1 → W q t = 0) := fun q h1 h2 => (Nat.lt_or_ge q r).elim (fun h => HZ.out q h1 h) (fun h => by rw [show q = r by omega]; exact HX.out)
            go_wp2
            go_roundw
            case rel => exact ⟨r + 1, by omega, by omega, by go_num, HZ2.out, by first | rfl | trivial⟩
            case measure => simp [intOf]; omega
          · have e0 : ((x.n : Int) != 0) = true := nne_n hx0
            have BAD : Hid (∀ x, SolvR n t v false x) := fun x y hy => absurd hy (Ge.bad GJ.out r hlr htr (by rw [HX.out]; exact hx0) y)
            go_wp2
            go_ret2
            exact ⟨BEL.out, .inr ⟨rfl, BAD.out⟩⟩
        · obtain rfl : n = r := by omega
          have hrt : ¬ (n : Int) < (n : Int) := by omega
          have GOOD : Hid (SolvR n t v true fun j => W j t * F.inv (W j j)) := fun y => Ge.good GJ.out htn (fun q h1 h2 => HZ.out q h1 h2) y
          have DIA : Hid (∀ r, r < t → W r r ≠ 0) := fun r hr => GJ.out.dia r hr
          have hwb := BEL.out.size
          clear GJ HZ
          obtain ⟨f, hf⟩ : ∃ f : Nat → F, (fun j => W j t * F.inv (W j j)) = f := ⟨_, rfl⟩
          rw [hf] at GOOD
          have HF : Hid (∀ r, f r = W r t * F.inv (W r r)) := fun r => by rw [← hf]
          clear hf
          go_wp2
          go_loopw [11, 12] (fun x y wi => ∃ (c : Nat) (A7 : Option Addr) (c7 : Nat), c ≤ t ∧ y = .int .i64 c ∧ x = .slice A7 c c7 ∧ wi.ownsRow wr2.heap.size 5 1 (.slice A7 c c7) c ((tab c f).map bv) ∧ Below wr2.heap.size wr2 wi) (fun _ y _ => t - (intOf y).toNat)
          case atStart => exact ⟨0, none, 0, Nat.zero_le _, rfl, rfl, World.ownsRow_nil _ _ _ _, Below.refl _ _⟩
          case round =>
            rename World => wj
            obtain ⟨c, A7, c7, hc, rfl, rfl, hown, hbel⟩ := hrel
            have hsz := hbel.size
            have HO := Lib.hid hown
            have HB := Lib.hid hbel
            clear hown hbel
            by_cases hlc : c < t
            · have hct : (c : Int) < (t : Int) := by omega
              have hcn : (c : Int) < (n : Int) := by omega
              obtain ⟨g, hgA⟩ := NZ.out (by omega)
              subst hgA
              obtain ⟨A8, c8, y8, hb8, _⟩ := ((SP.out g rfl).below HB.out).get (rowsM_at W (show c < n by omega))
              rw [length_tab] at y8
              obtain ⟨b8, o8, hA8, _, hc8⟩ := Bs.at' hb8 (by rw [length_tab]; have := HM.out; omega)
              subst hA8
              have y9 := hc8 t (by rw [length_tab]; have := HM.out; omega)
              have yr := hc8 c (by rw [length_tab]; have := HM.out; omega)
              rw [getD_tab _ (by have := HM.out; omega)] at y9 yr
              have htm : (t : Int) < (m : Int) := by have := HM.out; omega
              have hcm : (c : Int) < (m : Int) := by have := HM.out; omega
              have HT : Hid (tab (c + 1) f = tab c f ++ [W c t * F.inv (W c c)]) := by
                show _ = _
                rw [tab_succ, HF.out]
              have DV : Hid (∀ w, Calls Try.prog 43 #[.int .u8 (W c t).n, .int .u8 (W c c).n] w fun e w' => e = .returned (.tuple #[.int .u8 (W c t * F.inv (W c c)).n, .int .i64 0]) ∧ w = w') := fun w => by
                have := ref_div (W c t) (W c c) w
                rw [if_neg (DIA.out c hlc)] at this
                exact this
              clear hb8 hc8
              generalize W c t * F.inv (W c c) = y at *
              generalize W c t = u at *
              generalize W c c = d at *
              go_wp2
              go_region_law (go_simp; go_at_call 43; (with_reducible refine (DV.out _).mono ?_); rintro e wx ⟨rfl, rfl⟩)
              all_goals
                go_wp2_with (at_builtin; refine app_bytes_g _ rfl _ _ rfl wr2.heap.size A7 c7 c (tab c f) rfl (own_below HO.out ⟨rfl, rfl, rfl, by simp, fun k hk => heap_alloc_old _ _ hk⟩) _ _ 1 [y] rfl ?litbs rfl (by omega) (by simp; omega) ?_; go_loud ((case litbs => first | exact lit_bs rfl rfl rfl (by decide) | exact lit_drew y rfl); intro A3 c3 w3 hown3 hgr3; have HB3 : Hid (Below wr2.heap.size wr2 w3) := own_grow' hgr3 HB.out HO.out ⟨rfl, rfl, rfl, by simp, fun k hk => heap_alloc_old _ _ hk⟩ hsz; have HO3 := Lib.hid hown3; clear hown3 hgr3))
                go_roundw
                case rel => exact ⟨c + 1, A3, c3, by omega, by go_num, rfl, by rw [HT.out]; exact HO3.out, HB3.out⟩
                case measure => simp [intOf]; omega
            · obtain rfl : t = c := by omega
              have hct : ¬ (t : Int) < (t : Int) := by omega
              go_wp2
              go_ret2
              exact ⟨BEL.out.trans (HB.out.mono hwb), .inl ⟨f, A7, c7, rfl, GOOD.out, own_mono HO.out hwb⟩⟩
end Go.Proofs.Ytmcamamfpefffaa
