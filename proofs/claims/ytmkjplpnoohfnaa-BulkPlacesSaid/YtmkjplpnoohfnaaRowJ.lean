/- The closure of bulk.adder, walked. -/
import Derived.Test.YtmkjplpnoohfnaaRowI
import Derived.Test.YtmkjplpnoohfnaaMxA
namespace Go.Proofs.Ytmkjplpnoohfnaa
open Go.RowKit
set_option linter.unusedVariables false
set_option linter.unusedSimpArgs false
/-- a multiple of a row added -/
def addH (P : Mx) (j : Nat) (l : List F) : Nat → Nat → F → F := fun a x v => v + P a j * l.getD x 0
/-- what a call of the adder does not turn -/
structure Keeps (rs : List Row) (I : World → Prop) : Prop where
  d : ∀ (w : World) (n : Nat), I w → I (w.drewN n)
  s : ∀ (w : World) (i : Nat) (r : Row) (g x : Nat) (u : Value), I w → rs[i]? = some r → (rowV r).ownBlock = some g → I (w.setCell ⟨g, x, none⟩ u)
/-- what the adder reads -/
structure AF (b bt bp bf m k : Nat) (A : Option Addr) (c : Nat) (Ap : Option Addr) (cp : Nat) (lp : List F) (rs : List Row) (As : Option Addr) (cs : Nat) (l : List F) (w : World) : Prop where
  t : Blk w bt 61 #[.slice A m c]
  p : Blk w bp 30 #[.int .i64 m, .int .i64 k, .slice Ap (m * k) cp]
  f : Blk w bf 23 #[fp b]
  g : GfAt w b
  sp : Sl w A c (vals rs)
  pb : Bs w Ap cp lp
  sb : Bs w As cs l
set_option maxRecDepth 1000000 in
set_option maxHeartbeats 4000000 in
theorem adder_call (b bt bp bf m k j : Nat) (A : Option Addr) (c : Nat) (Ap : Option Addr) (cp : Nat) (P : Mx) (rs : List Row) (As : Option Addr) (cs : Nat) (l : List F) (L B : Nat) (I : World → Prop) (w : World)
    (hI : Keeps rs I) (hF : ∀ w, I w → AF b bt bp bf m k A c Ap cp (matL m k P) rs As cs l w) (hrs : rs.length = m) (hlen : ∀ (a : Nat) (r : Row), rs[a]? = some r → r.2.2.length = L) (hl : l.length = L) (hj : j < k) (hm : m ≤ 256) (hk : k ≤ 256) (hL : L ≤ 100000) (hw : I w) (hg : Grid w B rs) :
    Calls Try.prog 122 #[.int .i64 j, .slice As L cs, .pointer (some ⟨bt, 0, none⟩), .pointer (some ⟨bp, 0, none⟩), .pointer (some ⟨bf, 0, none⟩)] w fun e w' => e = .returned (.tuple #[]) ∧ I w' ∧ ∃ rs', vals rs' = vals rs ∧ lsts rs' = mapR (addH P j l) (lsts rs) ∧ Grid w' B rs' := by
  have FIN : Hid (lsts (rowsT rs (addH P j l) m 0) = mapR (addH P j l) (lsts rs)) := lsts_rowsT_all _ (Nat.le_of_eq hrs)
  have HI := Lib.hid hI
  have HF := Lib.hid hF
  have HR := Lib.hid hrs
  have HLEN := Lib.hid hlen
  have HL := Lib.hid hl
  have NX := Lib.hid (fun i => rowsT_next_full (rs := rs) (addH P j l) (i := i) (n := L) fun r hr => Nat.le_of_eq (hlen i r hr))
  have IX : Hid (∀ i, i < m → i * k + j < m * k ∧ (matL m k P).getD (i * k + j) 0 = P i j) := fun i hi => ⟨row_lt hi hj, getD_matL P hi hj⟩
  have LP : Hid ((matL m k P).length = m * k) := length_matL _ _ _
  have hmk : m * k ≤ 65536 := Nat.mul_le_mul hm hk
  have HW := Lib.hid hw
  have HG : Hid (Grid w B (rowsT rs (addH P j l) 0 0)) := by rw [rowsT_zero]; exact hg
  have q0 := (hF w hw).t.cell 0
  simp only [List.getElem?_toArray, List.getElem?_cons_succ, List.getElem?_cons_zero] at q0
  clear hI hF hrs hlen hl hw hg
  generalize matL m k P = lp at *
  generalize hmkn : m * k = mk at *
  go_enter Try.func122, Try.ntmps122
  go_wp2
  clear q0
  go_loopw [14] (fun v wr => ∃ i : Nat, i ≤ m ∧ v = .int .i64 i ∧ I wr ∧ Grid wr B (rowsT rs (addH P j l) i 0)) (fun v _ => m - (intOf v).toNat)
  case atStart => exact ⟨0, Nat.zero_le _, rfl, HW.out, HG.out⟩
  case round =>
    clear HW HG
    obtain ⟨i, hi, rfl, hw, hg⟩ := hrel
    have HW := Lib.hid hw
    have HG := Lib.hid hg
    clear hw hg
    by_cases hlt : i < m
    · obtain ⟨r, hr⟩ : ∃ r, rs[i]? = some r := ⟨rs[i]'(by rw [HR.out]; exact hlt), List.getElem?_eq_getElem _⟩
      have hrl := HLEN.out i r hr
      have F1 := HF.out wr HW.out
      obtain ⟨b1, o1, hA, _, hc1⟩ := Sl.at' F1.sp (by rw [length_vals, HR.out]; omega)
      have y1 := hc1 i (rowV r) (by unfold vals; rw [List.getElem?_map, hr]; rfl)
      obtain ⟨ix1, ix2⟩ := IX.out i hlt
      obtain ⟨b2, o2, hAp, _, hc2⟩ := Bs.at' F1.pb (by rw [LP.out]; omega)
      have y2 := hc2 (i * k + j) (by rw [LP.out]; exact ix1)
      rw [ix2] at y2
      unfold rowV at y1
      rw [hrl] at y1
      have p0 := F1.p.cell 0
      have p1 := F1.p.cell 1
      have p2 := F1.p.cell 2
      simp only [List.getElem?_toArray, List.getElem?_cons_succ, List.getElem?_cons_zero] at p0 p1 p2
      rw [hmkn] at p2
      have e1 : (i : Int) * (k : Int) = ((i * k : Nat) : Int) := by simp
      have w1 : IntKind.i64.wrap ((i : Int) * (k : Int)) = ((i * k : Nat) : Int) := by rw [e1, IntKind.wrap_i64]; omega
      have HRI := Lib.hid hr
      have HRL := Lib.hid hrl
      have hit : (i : Int) < (m : Int) := by omega
      clear hc1 hc2 ix2 e1 F1 hr hrl
      subst hA
      subst hAp
      generalize hik : i * k = ik at *
      go_wp2
      clear y1 y2 p0 p1 p2
      go_loopw [31] (fun v wi => ∃ n : Nat, n ≤ L ∧ v = .int .i64 n ∧ I wi ∧ Grid wi B (rowsT rs (addH P j l) i n)) (fun v _ => L - (intOf v).toNat)
      case atStart => exact ⟨0, Nat.zero_le _, rfl, HW.out, HG.out⟩
      case round =>
        rename World => wi
        clear HW HG
        obtain ⟨n, hn, rfl, hw, hg⟩ := hrel
        have HW := Lib.hid hw
        have HG := Lib.hid hg
        clear hw hg
        by_cases hln : n < L
        · have F1 := HF.out wi HW.out
          obtain ⟨b3, o3, hAs, _, hc3⟩ := Bs.at' F1.sb (by rw [HL.out]; omega)
          have y3 := hc3 n (by rw [HL.out]; exact hln)
          have f0 := F1.f.cell 0
          simp only [List.getElem?_toArray, List.getElem?_cons_succ, List.getElem?_cons_zero] at f0
          have hrow := HG.out.own i _ (rowsT_at HRI.out (addH P j l) i n)
          have hown : wi.ownsRow B 5 1 (.slice r.1 L r.2.1) L ((rowT (addH P j l) i n i r).2.2.map bv) := by
            have h := hrow
            unfold ownR at h
            rw [rowV_rowT] at h
            unfold rowV at h
            rw [show (rowT (addH P j l) i n i r).2.2.length = L by unfold rowT; rw [length_tab]; exact HRL.out, HRL.out] at h
            exact h
          obtain ⟨g, hgA, _, _⟩ := own_addr hown (by omega)
          have hlr : (rowT (addH P j l) i n i r).2.2.length = L := by unfold rowT; rw [length_tab]; exact HRL.out
          have hv : (rowT (addH P j l) i n i r).2.2.getD n 0 = r.2.2.getD n 0 := by
            unfold rowT
            rw [getD_tab _ (by rw [HRL.out]; exact hln), if_neg (by omega)]
          rw [hgA] at hown
          have hcl := hown.cellAt n (by omega)
          rw [getElem?_bv (by rw [hlr]; exact hln), hv] at hcl
          have hfz := hown.frozenAt n
          have HST : Hid (∀ nd, I ((wi.drewN nd).setCell ⟨g, n, none⟩ (bv (r.2.2.getD n 0 + P i j * l.getD n 0))) ∧ Grid ((wi.drewN nd).setCell ⟨g, n, none⟩ (bv (r.2.2.getD n 0 + P i j * l.getD n 0))) B (rowsT rs (addH P j l) i (n + 1))) := fun nd => by
            have hob : (rowV r).ownBlock = some g := by unfold rowV; rw [hgA]; rfl
            refine ⟨HI.out.s _ i r g n _ (HI.out.d wi nd HW.out) HRI.out hob, ?_⟩
            have hgd : Grid (wi.drewN nd) B (rowsT rs (addH P j l) i n) := HG.out.below (below_drew0 wi nd)
            have hst := ((show (wi.drewN nd).ownsRow B 5 1 (.slice (some ⟨g, 0, none⟩) L r.2.1) L ((rowT (addH P j l) i n i r).2.2.map bv) from own_drewN hown nd).stored n (bv (r.2.2.getD n 0 + P i j * l.getD n 0))).1
            rw [map_set] at hst
            have hwr := hgd.write (rowsT_at HRI.out (addH P j l) i n) (g := g) (by rw [rowV_rowT]; exact hob) (l := (rowT (addH P j l) i n i r).2.2.set n (r.2.2.getD n 0 + P i j * l.getD n 0)) (by rw [List.length_set]) ((Beside.refl g (wi.drewN nd)).setCell n _) (by
              unfold ownR rowV
              rw [List.length_set, hlr]
              show World.ownsRow _ B 5 1 (.slice r.1 L r.2.1) L _
              rw [hgA]
              exact hst)
            have e := rowsT_set HRI.out (addH P j l) (n := n) (by rw [HRL.out]; exact hln)
            rw [show addH P j l i n (r.2.2.getD n 0) = r.2.2.getD n 0 + P i j * l.getD n 0 from rfl] at e
            rw [← e]
            exact hwr
          have MU2 := Lib.hid (gf_mul b (P i j) (l.getD n 0) wi.drew ⟨F1.g.lt, F1.g.e, F1.g.l⟩)
          have hnt : (n : Int) < (L : Int) := by omega
          clear hc3 F1 hrow hown hlr hv
          subst hAs
          generalize P i j = x at *
          generalize l.getD n 0 = y at *
          generalize r.2.2.getD n 0 = z at *
          have hxor := xor_n z (x * y)
          unfold fp at MU2 f0
          rw [hgA]
          go_wp2
          go_region_law (go_simp; go_at_call 55; (with_reducible refine MU2.out.mono ?_); rintro e w2 ⟨rfl, n, rfl⟩)
          all_goals
            go_wp2
            go_roundw
            case rel => exact ⟨_ + 1, by omega, by go_num, (HST.out _).1, (HST.out _).2⟩
            case measure => simp [intOf]; omega
        · have hne : n = L := by omega
          subst hne
          go_wp2
          go_roundw
          case rel => exact ⟨i + 1, by omega, by go_num, HW.out, by rw [← NX.out i]; exact HG.out⟩
          case measure => simp [intOf]; omega
    · have hie : i = m := by omega
      subst hie
      go_wp2
      go_end0
      exact ⟨rfl, HW.out, _, vals_rowsT _ _ _ _, FIN.out, HG.out⟩
end Go.Proofs.Ytmkjplpnoohfnaa
