/- aumbryref06.Update, walked. -/
import Derived.Test.YtmkjplpnoohfnaaRowU
import Derived.StillTailTactics
namespace Go.Proofs.Ytmkjplpnoohfnaa
open Go.RowKit
set_option linter.unusedVariables false
set_option linter.unusedSimpArgs false
/-- one number of rows that are turned one behind the other: where it lies, and what is behind its store -/
theorem grid_put {I : World → Prop} {rs : List Row} {hh : Nat → Nat → F → F} {i n B : Nat} {r : Row} (hI : Keeps rs I) {wi : World} (hw : I wi) (hg : Grid wi B (rowsT rs hh i n)) (hr : rs[i]? = some r) (hn : n < r.2.2.length) :
    ∃ g, r.1 = some ⟨g, 0, none⟩ ∧ wi.cell? ⟨g, n, none⟩ = some (.int .u8 ((r.2.2.getD n 0).n : Int)) ∧ wi.frozen? ⟨g, n, none⟩ = false ∧ ∀ nd, I ((wi.drewN nd).setCell ⟨g, n, none⟩ (bv (hh i n (r.2.2.getD n 0)))) ∧ Grid ((wi.drewN nd).setCell ⟨g, n, none⟩ (bv (hh i n (r.2.2.getD n 0)))) B (rowsT rs hh i (n + 1)) := by
  have hlr : (rowT hh i n i r).2.2.length = r.2.2.length := by unfold rowT; rw [length_tab]
  have hown : wi.ownsRow B 5 1 (.slice r.1 r.2.2.length r.2.1) r.2.2.length ((rowT hh i n i r).2.2.map bv) := by
    have h := hg.own i _ (rowsT_at hr hh i n)
    unfold ownR at h
    rw [rowV_rowT] at h
    unfold rowV at h
    rwa [hlr] at h
  obtain ⟨g, hgA, _, _⟩ := own_addr hown (by omega)
  have hv : (rowT hh i n i r).2.2.getD n 0 = r.2.2.getD n 0 := by
    unfold rowT
    rw [getD_tab _ hn, if_neg (by omega)]
  rw [hgA] at hown
  have hcl := hown.cellAt n (by omega)
  rw [getElem?_bv (by rw [hlr]; exact hn), hv] at hcl
  refine ⟨g, hgA, hcl, hown.frozenAt n, fun nd => ?_⟩
  have hob : (rowV r).ownBlock = some g := by unfold rowV; rw [hgA]; rfl
  refine ⟨hI.s _ i r g n _ (hI.d wi nd hw) hr hob, ?_⟩
  have hgd : Grid (wi.drewN nd) B (rowsT rs hh i n) := hg.below (below_drew0 wi nd)
  have hst := ((show (wi.drewN nd).ownsRow B 5 1 (.slice (some ⟨g, 0, none⟩) r.2.2.length r.2.1) r.2.2.length ((rowT hh i n i r).2.2.map bv) from own_drewN hown nd).stored n (bv (hh i n (r.2.2.getD n 0)))).1
  rw [map_set] at hst
  have hwr := hgd.write (rowsT_at hr hh i n) (g := g) (by rw [rowV_rowT]; exact hob) (l := (rowT hh i n i r).2.2.set n (hh i n (r.2.2.getD n 0))) (by rw [List.length_set]) ((Beside.refl g (wi.drewN nd)).setCell n _) (by
    unfold ownR rowV
    rw [List.length_set, hlr]
    show World.ownsRow _ B 5 1 (.slice r.1 r.2.2.length r.2.1) r.2.2.length _
    rw [hgA]
    exact hst)
  have e := rowsT_set hr hh (n := n) hn
  rw [← e]
  exact hwr
theorem mapR_mapR (h g : Nat → Nat → F → F) (ls : List (List F)) : mapR h (mapR g ls) = mapR (fun a x v => h a x (g a x v)) ls := by
  refine List.ext_getElem? fun a => ?_
  unfold mapR
  rw [List.getElem?_mapIdx, List.getElem?_mapIdx, List.getElem?_mapIdx]
  cases ls[a]? with
  | none => rfl
  | some l =>
    refine congrArg some ?_
    dsimp only
    rw [length_tab]
    exact tab_congr fun x hx => by rw [getD_tab _ hx]
theorem mapR_congr {h g : Nat → Nat → F → F} {ls : List (List F)} (e : ∀ a l, ls[a]? = some l → ∀ x, x < l.length → h a x (l.getD x 0) = g a x (l.getD x 0)) : mapR h ls = mapR g ls := by
  refine List.ext_getElem? fun a => ?_
  unfold mapR
  rw [List.getElem?_mapIdx, List.getElem?_mapIdx]
  cases hl : ls[a]? with
  | none => rfl
  | some l => exact congrArg some (tab_congr fun x hx => e a l hl x hx)
theorem alk_iff {ls : List (List F)} {n : Int} : Alk ls n ↔ (ls.length : Int) = n ∧ ∃ L, ∀ l, l ∈ ls → l.length = L := by
  constructor
  · intro h
    refine ⟨h.1, lenAt ls 0, fun l hl => ?_⟩
    obtain ⟨i, hi, rfl⟩ := List.mem_iff_getElem.1 hl
    have := h.2 i hi
    unfold lenAt at this ⊢
    rwa [List.getD_eq_getElem?_getD, List.getElem?_eq_getElem hi] at this
  · rintro ⟨h, L, hL⟩
    have key : ∀ i, i < ls.length → lenAt ls i = L := fun i hi => by
      unfold lenAt
      rw [List.getD_eq_getElem?_getD, List.getElem?_eq_getElem hi]
      exact hL _ (List.getElem_mem _)
    exact ⟨h, fun i hi => by rw [key i hi, key 0 (by omega)]⟩
theorem alk_turn {l1 l2 : List F} {ls : List (List F)} {n : Int} : Alk (ls ++ [l1, l2]) n ↔ Alk (l1 :: l2 :: ls) n := by
  rw [alk_iff, alk_iff]
  simp only [List.length_append, List.length_cons, List.length_nil, List.mem_append, List.mem_cons, List.not_mem_nil, or_false]
  constructor
  · rintro ⟨h, L, hL⟩
    exact ⟨by omega, L, fun l hl => hL l (by rcases hl with h | h | h <;> simp [h])⟩
  · rintro ⟨h, L, hL⟩
    exact ⟨by omega, L, fun l hl => hL l (by rcases hl with h | h | h <;> simp [h])⟩
def updH (k j : Nat) (l1 l2 : List F) : Nat → Nat → F → F := fun a x v => v + parF k a j * (l1.getD x 0 + l2.getD x 0)
theorem updR_eq (k j : Nat) (l1 l2 : List F) (ls : List (List F)) : mapR (updH k j l1 l2) ls = updR k j l1 l2 ls := by
  unfold updR
  rw [mapR_mapR]
  refine mapR_congr fun a l _ x _ => ?_
  unfold updH addH
  rw [F.mul_add, F.add_assoc]
theorem lit2 (w : World) (u v : Value) : Sl (w.alloc (.cells #[u, v] 28)) (some ⟨w.heap.size, 0, none⟩) 2 [u, v] := own_sl (own_lit w [u, v] 2 rfl (by decide))
theorem below_lit' {w w' : World} {o : Obj} {g n c : Nat} (hg : (w.alloc o).grownBy w' (Value.slice (some ⟨g, 0, none⟩) n c).ownBlock) (h : g = w.heap.size) : Below w.heap.size w w' := by
  subst h
  exact below_lit hg
theorem two_one {A1 A2 : Option Addr} {n1 n2 c1 c2 : Nat} : ∀ u ∈ [Value.slice A1 n1 c1, Value.slice A2 n2 c2], u.oneCell' = true := fun u hu => by
  simp only [List.mem_cons, List.not_mem_nil, or_false] at hu
  rcases hu with rfl | rfl <;> rfl
set_option maxRecDepth 1000000 in
set_option maxHeartbeats 4000000 in
theorem ref06_update (k m j L : Nat) (A1 : Option Addr) (c1 : Nat) (l1 : List F) (A2 : Option Addr) (c2 : Nat) (l2 : List F) (A : Option Addr) (c : Nat) (vs : List Value) (ls : List (List F)) (w : World) (hkm : okkm k m) (h1 : Bs w A1 c1 l1) (h2 : Bs w A2 c2 l2) (ha : Sl w A c vs) (hb : Bss w vs ls) (hj : j < k) (hk : Alk (l1 :: l2 :: ls) ((m : Int) + 2)) (hL1 : l1.length = L) (hLb : L ≤ 100000) :
    Calls Try.prog 77 #[.int .i64 k, .int .i64 m, .int .i64 j, .slice A1 L c1, .slice A2 L c2, .slice A m c] w fun e w' => ∃ A' c' rs, e = .returned (.tuple #[.slice A' m c', .int .i64 0]) ∧ lsts rs = updR k j l1 l2 ls ∧ MadeR w w' A' m c' rs := by
  obtain ⟨hk1, hm0, hkm256⟩ := id hkm
  have hkb : k + m ≤ 256 := by omega
  have hn : ls.length = m := by have := hk.1; simp only [List.length_cons] at this; omega
  have hlen : ∀ i, i < m + 2 → lenAt (l1 :: l2 :: ls) i = L := fun i hi => by
    rw [hk.2 i (by simp only [List.length_cons]; omega)]; exact hL1
  have hL2 : l2.length = L := hlen 1 (by omega)
  have hrow : ∀ l, l ∈ ls → l.length = L := fun l hl => by
    obtain ⟨i, hi, rfl⟩ := List.mem_iff_getElem.1 hl
    have := hlen (i + 2) (by omega)
    unfold lenAt at this
    rwa [List.getD_eq_getElem?_getD, List.getElem?_cons_succ, List.getElem?_cons_succ, List.getElem?_eq_getElem hi] at this
  have PA := Lib.hid (ref05_Parity k m hkm w)
  have AL : Hid (∀ w' A' c', Below w.heap.size w w' → Sl w' A' c' (vs ++ [.slice A1 L c1, .slice A2 L c2]) → Calls Try.prog 112 #[.slice A' (m + 2) c', .int .i64 ((m : Int) + 2)] w' fun e w'' => e = .returned (.bool true) ∧ Below w'.heap.size w' w'') := fun w' A' c' hw hs =>
    ref06_alike_r A' (m + 2) c' _ (ls ++ [l1, l2]) _ true w' hs ((hb.below hw).append (((Bss.nil w').cons (h2.below hw) hL2).cons (h1.below hw) hL1)) (by simp only [List.length_append, List.length_cons, List.length_nil]; omega) (by omega) ⟨fun _ => alk_turn.2 hk, fun _ => rfl⟩
  have CP : Hid (∀ w', Below w.heap.size w w' → Calls Try.prog 79 #[.slice A m c] w' fun e w'' => ∃ A' c' rs, e = .returned (.slice A' m c') ∧ lsts rs = ls ∧ MadeR w' w'' A' m c' rs) := fun w' hw => ref06_copied A m c vs ls w' (ha.below hw) (hb.below hw) hn (by omega) (fun l hl => by rw [hrow l hl]; exact hLb)
  have HA := Lib.hid ha
  have HB := Lib.hid hb
  have H1 := Lib.hid h1
  have H2 := Lib.hid h2
  have HN := Lib.hid hn
  have HL1 := Lib.hid hL1
  have HL2 := Lib.hid hL2
  have HR := Lib.hid hrow
  have HVN : Hid (vs.length = m) := hb.1.trans hn
  have LOP : Hid (∀ i, i < m → i * k + j < m * k ∧ (matL m k (parF k)).getD (i * k + j) 0 = parF k i j) := fun i hi => ⟨row_lt hi hj, getD_matL _ hi hj⟩
  have LP : Hid ((matL m k (parF k)).length = m * k) := length_matL _ _ _
  have hmkb : m * k ≤ 65536 := Nat.mul_le_mul (show m ≤ 256 by omega) (show k ≤ 256 by omega)
  have FIN : Hid (mapR (updH k j l1 l2) ls = updR k j l1 l2 ls) := updR_eq k j l1 l2 ls
  clear ha hb hn hk hrow hkm h1 h2 hL1 hL2 hm0 hkm256 hlen
  have hj0 : ¬ (j : Int) < 0 := by omega
  have hjk : ¬ (k : Int) ≤ (j : Int) := by omega
  generalize matL m k (parF k) = lp at *
  obtain ⟨mk, hmk⟩ : ∃ mk, m * k = mk := ⟨_, rfl⟩
  rw [hmk] at PA LOP LP hmkb
  clear hmk
  go_enter Try.func77, Try.ntmps77
  go_wp2_with (first
    | (go_at_call 42; (with_reducible refine PA.out.mono ?_); rintro e w1 ⟨Ap, cp, rfl, ho1, hb1⟩; have BP := Lib.hid (Sl.alloc (own_sl ho1) (.cells #[.int .i64 (m : Int), .int .i64 (k : Int), .slice Ap mk cp] 30)); have KP := Lib.hid (Blk.new w1 #[.int .i64 (m : Int), .int .i64 (k : Int), .slice Ap mk cp] 30); have BW : Hid (Below w.heap.size w (w1.alloc (.cells #[.int .i64 (m : Int), .int .i64 (k : Int), .slice Ap mk cp] 30))) := hb1.alloc hb1.size _; have OL0 : Hid (((w1.alloc (.cells #[.int .i64 (m : Int), .int .i64 (k : Int), .slice Ap mk cp] 30)).alloc (.cells #[] 28)).ownsRow (w1.heap.size + 1) 28 1 (.slice (some ⟨w1.heap.size + 1, 0, none⟩) 0 0) 0 []) := (by have := own_lit (w1.alloc (.cells #[.int .i64 (m : Int), .int .i64 (k : Int), .slice Ap mk cp] 30)) [] 0 rfl (by decide); rwa [size_alloc'] at this); clear ho1 hb1)
    | (at_builtin; refine app_spines _ rfl _ _ rfl (w1.heap.size + 1) (some ⟨w1.heap.size + 1, 0, none⟩) 0 0 [] rfl OL0.out A c m vs rfl ((HA.out.below BW.out).alloc _) HVN.out HB.out.one (by omega) (by simp) ?_; intro Aa ca wa hoa hga; rw [Nat.zero_add, List.nil_append] at hoa; have OA := Lib.hid hoa; have BA := Lib.hid (below_lit' hga (size_alloc' _ _).symm); have hbas : w1.heap.size + 1 ≤ wa.heap.size := (by have := BA.out.size; rwa [size_alloc'] at this); clear hoa hga)
    | (at_builtin; refine app_spines _ rfl _ _ rfl (w1.heap.size + 1) Aa ca m vs rfl (own_below OA.out (below_alloc _ _)) _ 2 2 [.slice A1 L c1, .slice A2 L c2] rfl (lit2 _ _ _) rfl two_one (by omega) ?hb ?_; (case hb => simp; omega); intro Ab cb wb hob hgb; have SB := Lib.hid (own_sl hob); have BB : Hid (Below (w1.alloc (.cells #[.int .i64 (m : Int), .int .i64 (k : Int), .slice Ap mk cp] 30)).heap.size (w1.alloc (.cells #[.int .i64 (m : Int), .int .i64 (k : Int), .slice Ap mk cp] 30)) wb) := (by show Below _ _ _; rw [size_alloc']; exact own_grow (by have := BA.out.trans ((below_alloc wa (.cells #[.slice A1 L c1, .slice A2 L c2] 28)).mono BA.out.size); rwa [size_alloc'] at this) (own_below OA.out (below_alloc _ _)) hgb (by simp; omega)); clear hob hgb)
    | (go_at_call 112; (with_reducible refine (AL.out _ _ _ ?_ SB.out).mono ?_); (exact BW.out.trans (BB.out.mono BW.out.size)); rintro e w2 ⟨rfl, hb2⟩; have B2 := Lib.hid (BB.out.trans (hb2.mono BB.out.size)); clear hb2)
    | (go_at_call 79; (with_reducible refine (CP.out _ ?_).mono ?_); (exact BW.out.trans (B2.out.mono BW.out.size)); rintro e w3 ⟨A0, c0, rs0, rfl, hls0, hm0⟩; have HL0 := Lib.hid hls0; have M0 := Lib.hid hm0; clear hls0 hm0))
  generalize (w1.alloc (.cells #[.int .i64 (m : Int), .int .i64 (k : Int), .slice Ap mk cp] 30)) = W1 at *
  have KP2 := Lib.hid (KP.out.below B2.out)
  have BP2 : Hid (Bs w2 Ap cp lp) := Sl.below BP.out B2.out
  have BW2 := Lib.hid (BW.out.trans (B2.out.mono BW.out.size))
  have KEEP : Hid (Keeps rs0 (EncI w2 A0 m c0 [] (vals rs0) [])) := EncI.keeps (w5 := w3) (rs0 := []) M0.out.gr M0.out.sp (Kn.nothing _) (fun x hx => by cases hx)
  have ENC : Hid (EncI w2 A0 m c0 [] (vals rs0) [] w3) := ⟨M0.out.bel, M0.out.sp, Grid.nil _ _, Kn.nothing _⟩
  have GP : Hid (Grid w3 w2.heap.size (rowsT rs0 (updH k j l1 l2) 0 0)) := by rw [rowsT_zero]; exact M0.out.gr
  have HRS : Hid (rs0.length = m) := by show _ = _; rw [← length_lsts, HL0.out, HN.out]
  have HRL : Hid (∀ (i : Nat) (r : Row), rs0[i]? = some r → r.2.2.length = L) := fun i r hr => HR.out _ (List.mem_of_getElem? (lsts_at HL0.out hr))
  clear PA AL CP KP BP B2 BB BA OA SB M0
  go_loopw [19] (fun v wr => ∃ i : Nat, i ≤ m ∧ v = .int .i64 i ∧ EncI w2 A0 m c0 [] (vals rs0) [] wr ∧ Grid wr w2.heap.size (rowsT rs0 (updH k j l1 l2) i 0)) (fun v _ => m - (intOf v).toNat)
  case atStart => exact ⟨0, Nat.zero_le _, rfl, ENC.out, GP.out⟩
  case round =>
    clear ENC GP
    obtain ⟨i, hi, rfl, hI, hgr⟩ := hrel
    have EI := Lib.hid hI
    have GI := Lib.hid hgr
    clear hI hgr
    by_cases hlt : i < m
    · have hit : (i : Int) < (m : Int) := by omega
      obtain ⟨r, hr⟩ : ∃ r, rs0[i]? = some r := ⟨rs0[i]'(by rw [HRS.out]; exact hlt), List.getElem?_eq_getElem _⟩
      have HRI := Lib.hid hr
      have hrl := HRL.out i r hr
      have hrv : (vals rs0)[i]? = some (.slice r.1 L r.2.1) := by unfold vals; rw [List.getElem?_map, hr, ← hrl]; rfl
      have HRV := Lib.hid hrv
      have HRL2 := Lib.hid hrl
      clear hr hrl hrv
      have e1 : (i : Int) * (k : Int) = ((i * k : Nat) : Int) := by simp
      have hik : i * k + j < mk := (LOP.out i hlt).1
      have w1' : IntKind.i64.wrap ((i : Int) * (k : Int)) = ((i * k : Nat) : Int) := by rw [e1, IntKind.wrap_i64]; omega
      have LOQ := Lib.hid (LOP.out i hlt)
      clear e1
      generalize i * k = ik at *
      go_wp2
      go_loopw [20] (fun v wi => ∃ n : Nat, n ≤ L ∧ v = .int .i64 n ∧ EncI w2 A0 m c0 [] (vals rs0) [] wi ∧ Grid wi w2.heap.size (rowsT rs0 (updH k j l1 l2) i n)) (fun v _ => L - (intOf v).toNat)
      case atStart => exact ⟨0, Nat.zero_le _, rfl, EI.out, GI.out⟩
      case round =>
        rename World => wi
        clear EI GI
        obtain ⟨n, hn, rfl, hI, hgr⟩ := hrel
        have EI := Lib.hid hI
        have GI := Lib.hid hgr
        clear hI hgr
        by_cases hln : n < L
        · obtain ⟨g, hgA, hcl, hfz, hst⟩ := grid_put KEEP.out EI.out GI.out HRI.out (by rw [HRL2.out]; exact hln)
          have HST : Hid (∀ nd, EncI w2 A0 m c0 [] (vals rs0) [] ((wi.drewN nd).setCell ⟨g, n, none⟩ (bv (r.2.2.getD n 0 + parF k i j * (l1.getD n 0 + l2.getD n 0)))) ∧ Grid ((wi.drewN nd).setCell ⟨g, n, none⟩ (bv (r.2.2.getD n 0 + parF k i j * (l1.getD n 0 + l2.getD n 0)))) w2.heap.size (rowsT rs0 (updH k j l1 l2) i (n + 1))) := hst
          clear hst
          have hrv := HRV.out
          rw [hgA] at hrv
          obtain ⟨b1, o1, hA1, _, hc1⟩ := Sl.at' (own_sl EI.out.sp) (by rw [length_vals, HRS.out]; omega)
          subst hA1
          have y1 := hc1 i _ hrv
          have q0 := (KP2.out.below EI.out.bel).cell 0; have q1 := (KP2.out.below EI.out.bel).cell 1; have q2 := (KP2.out.below EI.out.bel).cell 2
          simp only [List.getElem?_toArray, List.getElem?_cons_succ, List.getElem?_cons_zero] at q0 q1 q2
          obtain ⟨b2, o2, hA2, _, hc2⟩ := Bs.at' (Sl.below BP2.out EI.out.bel) (by rw [LP.out]; omega)
          subst hA2
          have y2 := hc2 (ik + j) (by rw [LP.out]; exact hik)
          rw [LOQ.out.2] at y2
          obtain ⟨b3, o3, hA3, _, hc3⟩ := Bs.at' (Sl.below (Sl.below H1.out BW2.out) EI.out.bel) (by rw [HL1.out]; omega)
          subst hA3
          have y3 := hc3 n (by rw [HL1.out]; exact hln)
          obtain ⟨b4, o4, hA4, _, hc4⟩ := Bs.at' (Sl.below (Sl.below H2.out BW2.out) EI.out.bel) (by rw [HL2.out]; omega)
          subst hA4
          have y4 := hc4 n (by rw [HL2.out]; exact hln)
          have hnt : (n : Int) < (L : Int) := by omega
          have i0 : 0 ≤ (ik : Int) + (j : Int) := by omega
          have i1 : (ik : Int) + (j : Int) < (mk : Int) := by omega
          have i2 : ((ik : Int) + (j : Int)).toNat = ik + j := by omega
          have iw : IntKind.i64.wrap ((ik : Int) + (j : Int)) = (ik : Int) + (j : Int) := by rw [IntKind.wrap_i64]; omega
          clear hc1 hc2 hc3 hc4 hrv
          generalize parF k i j = x at *
          generalize l1.getD n 0 = y at *
          generalize l2.getD n 0 = z at *
          generalize r.2.2.getD n 0 = u at *
          have hx1 := xor_n y z
          have hx2 := xor_n u (x * (y + z))
          go_wp2
          refine wp_region_still_tail 33 (by kernel_rfl) (by kernel_rfl) ?_
          simp only [List.take_succ_cons, List.take_zero, List.drop_succ_cons, List.drop_zero]
          repeat still_step
          still_call ((ref_mul x (y + z) _).mono (fun e w' h => ⟨h.1, h.2.symm⟩))
          repeat still_step
          refine wpStill_nil ?_
          change wpList _ _ _ _ _ wi.drew
          go_wp2
          go_roundw
          case rel => exact ⟨n + 1, by omega, by go_num, (HST.out 1).1, (HST.out 1).2⟩
          case measure => simp [intOf]; omega
        · obtain rfl : n = L := by omega
          have NX : Hid (rowsT rs0 (updH k j l1 l2) i n = rowsT rs0 (updH k j l1 l2) (i + 1) 0) := rowsT_next_full _ fun r hr => Nat.le_of_eq (HRL.out i r hr)
          have hnt : ¬ (n : Int) < (n : Int) := by omega
          go_wp2
          go_roundw
          case rel => exact ⟨i + 1, by omega, by go_num, EI.out, by rw [← NX.out]; exact GI.out⟩
          case measure => simp [intOf]; omega
    · obtain rfl : i = m := by omega
      go_wp2
      go_ret2
      refine ⟨_, _, rowsT rs0 (updH k j l1 l2) i 0, rfl, ?_, MadeR.back ⟨?_, GI.out, EI.out.bel⟩ BW2.out⟩
      · rw [lsts_rowsT_all _ (Nat.le_of_eq HRS.out), HL0.out, FIN.out]
      · rw [vals_rowsT]; exact EI.out.sp
end Go.Proofs.Ytmkjplpnoohfnaa
