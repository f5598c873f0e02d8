/- aumbrylaw06.added and times, walked. -/
import Derived.Test.YtmkjplpnoohfnaaLaw06
namespace Go.Proofs.Ytmkjplpnoohfnaa
open Go.RowKit
set_option linter.unusedVariables false
set_option linter.unusedSimpArgs false
def addE (lb : List (List F)) : Nat → Nat → F → F := fun i x v => v + (lb.getD i []).getD x 0
/-- sums, place by place -/
def addL (la lb : List (List F)) : List (List F) := mapR (addE lb) la
def mulE (y : F) : Nat → Nat → F → F := fun _ _ v => v * y
/-- multiples -/
def mulL (la : List (List F)) (y : F) : List (List F) := mapR (mulE y) la
theorem getD_over {l : List F} {x : Nat} (h : l.length ≤ x) : l.getD x 0 = 0 := by rw [List.getD_eq_getElem?_getD, List.getElem?_eq_none h]; rfl
theorem getD_over' {ls : List (List F)} {x : Nat} (h : ls.length ≤ x) : ls.getD x [] = [] := by rw [List.getD_eq_getElem?_getD, List.getElem?_eq_none h]; rfl
theorem Rr.unpack {w : World} {A : Option Addr} {c : Nat} {ls : List (List F)} (h : Rr w A c ls) : ∃ vs, Sl w A c vs ∧ Bss w vs ls := h.ex
set_option maxRecDepth 1000000 in
set_option maxHeartbeats 4000000 in
theorem added_out (la lb : List (List F)) (hna : la.length ≤ 900) (hla : ∀ l, l ∈ la → l.length ≤ 100000) (A : Option Addr) (c : Nat) (A' : Option Addr) (c' : Nat) (w : World) (ha : Rr w A c la) (hb : Rr w A' c' lb) :
    Calls Try.prog 78 #[.slice A la.length c, .slice A' lb.length c'] w (ShO w (addL la lb)) := by
  obtain ⟨vs, h1, h2⟩ := ha.ex
  have CP := Lib.hid (ref06_copied A _ c vs la w h1 h2 rfl (by omega) hla)
  have HB := Lib.hid hb
  have hbl := hb.le
  obtain ⟨hbl1, hbl2⟩ := hbl
  unfold maxLen at hbl2
  obtain ⟨N, hN⟩ : ∃ N, la.length = N := ⟨_, rfl⟩
  obtain ⟨M, hM⟩ : ∃ M, lb.length = M := ⟨_, rfl⟩
  have HN := Lib.hid hN
  have HM := Lib.hid hM
  rw [hN] at hna ⊢
  rw [hM] at hbl1 ⊢
  rw [hN] at CP
  clear ha hb h1 h2 hla hN hM
  go_enter Try.func78, Try.ntmps78
  go_wp2_with (go_at_call 79; (with_reducible refine CP.out.mono ?_); rintro e w1 ⟨A0, c0, rs0, rfl, hls0, hm0⟩; have HL0 := Lib.hid hls0; have M0 := Lib.hid hm0; clear hls0 hm0)
  have KEEP : Hid (Keeps rs0 (EncI w A0 N c0 [] (vals rs0) [])) := EncI.keeps (w5 := w1) (rs0 := []) M0.out.gr M0.out.sp (Kn.nothing _) (fun x hx => by cases hx)
  have ENC : Hid (EncI w A0 N c0 [] (vals rs0) [] w1) := ⟨M0.out.bel, M0.out.sp, Grid.nil _ _, Kn.nothing _⟩
  have GP : Hid (Grid w1 w.heap.size (rowsT rs0 (addE lb) 0 0)) := by rw [rowsT_zero]; exact M0.out.gr
  have HRS : Hid (rs0.length = N) := by show _ = _; rw [← length_lsts, HL0.out, HN.out]
  have hc0 : N ≤ c0 := by have := M0.out.sl.le; rw [length_vals, HRS.out] at this; exact this
  clear CP M0
  go_loopw [6] (fun v wr => ∃ i : Nat, i ≤ N ∧ v = .int .i64 i ∧ EncI w A0 N c0 [] (vals rs0) [] wr ∧ Grid wr w.heap.size (rowsT rs0 (addE lb) i 0)) (fun v _ => N - (intOf v).toNat)
  case atStart => exact ⟨0, Nat.zero_le _, rfl, ENC.out, GP.out⟩
  case round =>
    clear ENC GP
    obtain ⟨i, hi, rfl, hI, hgr⟩ := hrel
    have EI := Lib.hid hI
    have GI := Lib.hid hgr
    clear hI hgr
    have DONE : Hid (N ≤ i ∨ M ≤ i → ShO w (addL la lb) (.returned (.slice A0 N c0)) wr) := fun h => by
      have hls : lsts (rowsT rs0 (addE lb) i 0) = addL la lb := by
        rw [lsts_rowsT rs0 (addE lb) i, HL0.out]; · rfl
        intro a r hr ha x hx
        rcases h with h | h
        · rw [List.getElem?_eq_none (by rw [HRS.out]; omega)] at hr; cases hr
        · unfold addE; rw [getD_over' (by rw [HM.out]; omega)]; show _ + 0 = _; rw [F.add_zero]
      have hmd : MadeR w wr A0 N c0 (rowsT rs0 (addE lb) i 0) := ⟨by rw [vals_rowsT]; exact EI.out.sp, GI.out, EI.out.bel⟩
      have hn := hmd.len hls
      exact ⟨A0, c0, by rw [← hn], hmd.rr hls, hmd.bel⟩
    by_cases hlt : i < N
    rotate_left
    · have hit : ¬ (i : Int) < (N : Int) := by omega
      go_wp2
      go_ret
      exact DONE.out (.inl (by omega))
    have hit : (i : Int) < (N : Int) := by omega
    by_cases hlm : i < M
    rotate_left
    · have him : ¬ (i : Int) < (M : Int) := by omega
      go_wp2
      go_ret
      exact DONE.out (.inr (by omega))
    have him : (i : Int) < (M : Int) := by omega
    clear DONE
    obtain ⟨r, hr⟩ : ∃ r, rs0[i]? = some r := ⟨rs0[i]'(by rw [HRS.out]; exact hlt), List.getElem?_eq_getElem _⟩
    obtain ⟨P, hP⟩ : ∃ P, r.2.2.length = P := ⟨_, rfl⟩
    have HRV : Hid ((vals rs0)[i]? = some (.slice r.1 P r.2.1)) := by show _ = _; unfold vals; rw [List.getElem?_map, hr, ← hP]; rfl
    have HRI := Lib.hid hr
    have HP := Lib.hid hP
    obtain ⟨q, hq⟩ : ∃ q, lenAt lb i = q := ⟨_, rfl⟩
    have HQ := Lib.hid hq
    have hPb : P ≤ 9223372036854775807 := by
      have ho := own_sl (GI.out.own i _ (rowsT_at hr (addE lb) i 0))
      have h3 := ho.le
      have h4 := ho.mx
      unfold maxLen at h4
      rw [List.length_map] at h3
      have h5 : (rowT (addE lb) i 0 i r).2.2.length = P := by unfold rowT; rw [length_tab]; exact hP
      omega
    have hqb : q ≤ 9223372036854775807 := by
      obtain ⟨_, _, _, _, _, _, h6⟩ := (HB.out).get (i := i) (by rw [HM.out]; exact hlm)
      have h3 := h6.len
      have h4 := h6.mx
      unfold maxLen at h4
      have : (lb.getD i []).length = q := hq
      omega
    clear hr hP hq
    go_wp2
    go_loopw [7] (fun v wi => ∃ x : Nat, x ≤ P ∧ v = .int .i64 x ∧ EncI w A0 N c0 [] (vals rs0) [] wi ∧ Grid wi w.heap.size (rowsT rs0 (addE lb) i x)) (fun v _ => P - (intOf v).toNat)
    case atStart => exact ⟨0, Nat.zero_le _, rfl, EI.out, GI.out⟩
    case round =>
      rename World => wi
      clear EI GI
      obtain ⟨x, hx, rfl, hI, hgr⟩ := hrel
      have EI := Lib.hid hI
      have GI := Lib.hid hgr
      clear hI hgr
      obtain ⟨b1, o1, hA1, _, hc1⟩ := Sl.at' (own_sl EI.out.sp) (by rw [length_vals, HRS.out]; omega)
      subst hA1
      have y1 := hc1 i _ HRV.out
      obtain ⟨b2, o2, A2, c2, hA2, y2, h6⟩ := (HB.out.below EI.out.bel).get (i := i) (by rw [HM.out]; exact hlm)
      subst hA2
      rw [HQ.out] at y2
      have H6 := Lib.hid h6
      clear hc1 h6
      have NEXT : Hid (P ≤ x ∨ q ≤ x → rowsT rs0 (addE lb) i x = rowsT rs0 (addE lb) (i + 1) 0) := fun h => rowsT_next rs0 (addE lb) i x fun r' hr' y hy1 hy2 => by
        have e : r' = r := Option.some.inj (hr'.symm.trans HRI.out)
        rw [e, HP.out] at hy2
        rcases h with h | h
        · omega
        · unfold addE; rw [getD_over (l := lb.getD i []) (by have : (lb.getD i []).length = q := HQ.out; omega), F.add_zero]
      by_cases hxP : x < P
      rotate_left
      · have hxt : ¬ (x : Int) < (P : Int) := by omega
        go_wp2
        go_roundw
        case rel => exact ⟨i + 1, by omega, by go_num, EI.out, by rw [← NEXT.out (.inl (by omega))]; exact GI.out⟩
        case measure => simp [intOf]; omega
      have hxt : (x : Int) < (P : Int) := by omega
      by_cases hxq : x < q
      rotate_left
      · have hxu : ¬ (x : Int) < (q : Int) := by omega
        go_wp2
        go_roundw
        case rel => exact ⟨i + 1, by omega, by go_num, EI.out, by rw [← NEXT.out (.inr (by omega))]; exact GI.out⟩
        case measure => simp [intOf]; omega
      have hxu : (x : Int) < (q : Int) := by omega
      clear NEXT
      obtain ⟨g, hgA, hcl, hfz, hst⟩ := grid_put KEEP.out EI.out GI.out HRI.out (by rw [HP.out]; exact hxP)
      have HST : Hid (∀ nd, EncI w (some ⟨b1, o1, none⟩) N c0 [] (vals rs0) [] ((wi.drewN nd).setCell ⟨g, x, none⟩ (bv (r.2.2.getD x 0 + (lb.getD i []).getD x 0))) ∧ Grid ((wi.drewN nd).setCell ⟨g, x, none⟩ (bv (r.2.2.getD x 0 + (lb.getD i []).getD x 0))) w.heap.size (rowsT rs0 (addE lb) i (x + 1))) := hst
      rw [hgA] at y1
      obtain ⟨b4, o4, hA4, _, hc4⟩ := Bs.at' H6.out (by have : (lb.getD i []).length = q := HQ.out; omega)
      subst hA4
      have y4 := hc4 x (by have : (lb.getD i []).length = q := HQ.out; omega)
      clear hc4 hst
      generalize (lb.getD i []).getD x 0 = y at *
      generalize r.2.2.getD x 0 = u at *
      have hx2 := xor_n u y
      go_wp2
      refine wp_region_still_tail 21 (by kernel_rfl) (by kernel_rfl) ?_
      simp only [List.take_succ_cons, List.take_zero, List.drop_succ_cons, List.drop_zero]
      repeat still_step
      refine wpStill_nil ?_
      change wpList _ _ _ _ _ wi.drew
      go_wp2
      go_roundw
      case rel => exact ⟨x + 1, by omega, by go_num, (HST.out 1).1, (HST.out 1).2⟩
      case measure => simp [intOf]; omega
set_option maxRecDepth 1000000 in
set_option maxHeartbeats 4000000 in
theorem times_out (b : Nat) (la : List (List F)) (y : F) (hna : la.length ≤ 900) (hla : ∀ l, l ∈ la → l.length ≤ 100000) (A : Option Addr) (c : Nat) (w : World) (hg : GfAt w b) (ha : Rr w A c la) :
    Calls Try.prog 80 #[fp b, .slice A la.length c, .int .u8 y.n] w (ShO w (mulL la y)) := by
  obtain ⟨vs, h1, h2⟩ := ha.ex
  have CP := Lib.hid (ref06_copied A _ c vs la w h1 h2 rfl (by omega) hla)
  have HGF := Lib.hid hg
  obtain ⟨N, hN⟩ : ∃ N, la.length = N := ⟨_, rfl⟩
  have HN := Lib.hid hN
  rw [hN] at hna ⊢
  rw [hN] at CP
  have HLA := Lib.hid hla
  clear ha hg h1 h2 hla hN
  unfold fp
  go_enter Try.func80, Try.ntmps80
  go_wp2_with (go_at_call 79; (with_reducible refine CP.out.mono ?_); rintro e w1 ⟨A0, c0, rs0, rfl, hls0, hm0⟩; have HL0 := Lib.hid hls0; have M0 := Lib.hid hm0; clear hls0 hm0)
  have KEEP : Hid (Keeps rs0 (EncI w A0 N c0 [] (vals rs0) [])) := EncI.keeps (w5 := w1) (rs0 := []) M0.out.gr M0.out.sp (Kn.nothing _) (fun x hx => by cases hx)
  have ENC : Hid (EncI w A0 N c0 [] (vals rs0) [] w1) := ⟨M0.out.bel, M0.out.sp, Grid.nil _ _, Kn.nothing _⟩
  have GP : Hid (Grid w1 w.heap.size (rowsT rs0 (mulE y) 0 0)) := by rw [rowsT_zero]; exact M0.out.gr
  have HRS : Hid (rs0.length = N) := by show _ = _; rw [← length_lsts, HL0.out, HN.out]
  have hc0 : N ≤ c0 := by have := M0.out.sl.le; rw [length_vals, HRS.out] at this; exact this
  clear CP M0
  go_loopw [8] (fun v wr => ∃ i : Nat, i ≤ N ∧ v = .int .i64 i ∧ EncI w A0 N c0 [] (vals rs0) [] wr ∧ Grid wr w.heap.size (rowsT rs0 (mulE y) i 0)) (fun v _ => N - (intOf v).toNat)
  case atStart => exact ⟨0, Nat.zero_le _, rfl, ENC.out, GP.out⟩
  case round =>
    clear ENC GP
    obtain ⟨i, hi, rfl, hI, hgr⟩ := hrel
    have EI := Lib.hid hI
    have GI := Lib.hid hgr
    clear hI hgr
    by_cases hlt : i < N
    rotate_left
    · have hit : ¬ (i : Int) < (N : Int) := by omega
      have DONE : Hid (ShO w (mulL la y) (.returned (.slice A0 N c0)) wr) := by
        have hls : lsts (rowsT rs0 (mulE y) i 0) = mulL la y := by
          rw [lsts_rowsT_all _ (by rw [HRS.out]; omega), HL0.out]; rfl
        have hmd : MadeR w wr A0 N c0 (rowsT rs0 (mulE y) i 0) := ⟨by rw [vals_rowsT]; exact EI.out.sp, GI.out, EI.out.bel⟩
        have hn := hmd.len hls
        exact ⟨A0, c0, by rw [← hn], hmd.rr hls, hmd.bel⟩
      go_wp2
      go_ret
      exact DONE.out
    have hit : (i : Int) < (N : Int) := by omega
    obtain ⟨r, hr⟩ : ∃ r, rs0[i]? = some r := ⟨rs0[i]'(by rw [HRS.out]; exact hlt), List.getElem?_eq_getElem _⟩
    obtain ⟨P, hP⟩ : ∃ P, r.2.2.length = P := ⟨_, rfl⟩
    have HRV : Hid ((vals rs0)[i]? = some (.slice r.1 P r.2.1)) := by show _ = _; unfold vals; rw [List.getElem?_map, hr, ← hP]; rfl
    have hPb : P ≤ 100000 := by
      rw [← hP]; exact HLA.out _ (List.mem_of_getElem? (lsts_at HL0.out hr))
    have HRI := Lib.hid hr
    have HP := Lib.hid hP
    clear hr hP
    go_wp2
    go_loopw [9] (fun v wi => ∃ x : Nat, x ≤ P ∧ v = .int .i64 x ∧ EncI w A0 N c0 [] (vals rs0) [] wi ∧ Grid wi w.heap.size (rowsT rs0 (mulE y) i x)) (fun v _ => P - (intOf v).toNat)
    case atStart => exact ⟨0, Nat.zero_le _, rfl, EI.out, GI.out⟩
    case round =>
      rename World => wi
      clear EI GI
      obtain ⟨x, hx, rfl, hI, hgr⟩ := hrel
      have EI := Lib.hid hI
      have GI := Lib.hid hgr
      clear hI hgr
      obtain ⟨b1, o1, hA1, _, hc1⟩ := Sl.at' (own_sl EI.out.sp) (by rw [length_vals, HRS.out]; omega)
      subst hA1
      have y1 := hc1 i _ HRV.out
      clear hc1
      by_cases hxP : x < P
      rotate_left
      · have hxt : ¬ (x : Int) < (P : Int) := by omega
        have NEXT : Hid (rowsT rs0 (mulE y) i x = rowsT rs0 (mulE y) (i + 1) 0) := rowsT_next_full _ fun r' hr' => by
          have e : r' = r := Option.some.inj (hr'.symm.trans HRI.out)
          rw [e, HP.out]; omega
        go_wp2
        go_roundw
        case rel => exact ⟨i + 1, by omega, by go_num, EI.out, by rw [← NEXT.out]; exact GI.out⟩
        case measure => simp [intOf]; omega
      have hxt : (x : Int) < (P : Int) := by omega
      obtain ⟨g, hgA, hcl, hfz, hst⟩ := grid_put KEEP.out EI.out GI.out HRI.out (by rw [HP.out]; exact hxP)
      have HST : Hid (∀ nd, EncI w (some ⟨b1, o1, none⟩) N c0 [] (vals rs0) [] ((wi.drewN nd).setCell ⟨g, x, none⟩ (bv (r.2.2.getD x 0 * y))) ∧ Grid ((wi.drewN nd).setCell ⟨g, x, none⟩ (bv (r.2.2.getD x 0 * y))) w.heap.size (rowsT rs0 (mulE y) i (x + 1))) := hst
      rw [hgA] at y1
      have hgw := HGF.out.below EI.out.bel
      have MU2 := Lib.hid (gf_mul b (r.2.2.getD x 0) y wi.drew ⟨hgw.lt, hgw.e, hgw.l⟩)
      clear hst hgw
      generalize r.2.2.getD x 0 = u at *
      unfold fp at MU2
      go_wp2
      go_region_law (go_simp; go_at_call 55; (with_reducible refine MU2.out.mono ?_); rintro e w2 ⟨rfl, nd, rfl⟩)
      all_goals
        go_wp2
        go_roundw
        case rel => exact ⟨x + 1, by omega, by go_num, (HST.out _).1, (HST.out _).2⟩
        case measure => simp [intOf]; omega
end Go.Proofs.Ytmkjplpnoohfnaa
