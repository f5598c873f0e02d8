/- Package poly, walked: what each of its calls answers, in memory of its own. -/
import Derived.Test.YtmcamamfpefffaaMem
import Derived.Test.YtmcamamfpefffaaPoly
import Derived.OneCell
namespace Go.Proofs.Ytmcamamfpefffaa
open Go.RowKit
/-- a sum of polynomials, not yet normed -/
def psum (acc : List F) (ls : List (List F)) : List F := ls.foldl padd acc
/-- one number more -/
def bump (o : List F) (j : Nat) (c : F) : List F := if j = o.length then (o ++ [0]).set j c else o.set j (o.getD j 0 + c)
theorem padd_take_succ (a p : List F) (j : Nat) (h : j < p.length) : padd a (p.take (j + 1)) = bump (padd a (p.take j)) j (p.getD j 0) := by
  have hl1 : (padd a (p.take (j + 1))).length = max a.length (j + 1) := by rw [length_padd, List.length_take]; congr 1; omega
  have hl0 : (padd a (p.take j)).length = max a.length j := by rw [length_padd, List.length_take]; congr 1; omega
  have g1 : ∀ i, (padd a (p.take (j + 1))).getD i 0 = a.getD i 0 + (p.take (j + 1)).getD i 0 := fun i => congrFun (cf_padd a (p.take (j + 1))) i
  have g0 : ∀ i, (padd a (p.take j)).getD i 0 = a.getD i 0 + (p.take j).getD i 0 := fun i => congrFun (cf_padd a (p.take j)) i
  have t1 : ∀ i, (p.take (j + 1)).getD i 0 = if i < j + 1 then p.getD i 0 else 0 := fun i => by
    rw [List.getD_eq_getElem?_getD, List.getElem?_take]; split
    · rw [List.getD_eq_getElem?_getD]
    · rfl
  have t0 : ∀ i, (p.take j).getD i 0 = if i < j then p.getD i 0 else 0 := fun i => by
    rw [List.getD_eq_getElem?_getD, List.getElem?_take]; split
    · rw [List.getD_eq_getElem?_getD]
    · rfl
  unfold bump
  split
  · rename_i hj
    rw [hl0] at hj
    have hl : ((padd a (p.take j)) ++ [(0 : F)]).length = max a.length j + 1 := by rw [List.length_append, hl0]; rfl
    refine ext_getD (by rw [List.length_set, hl, hl1]; omega) fun i hi => ?_
    rw [g1, t1]
    by_cases e : j = i
    · subst e
      rw [getD_set_eq _ _ _ (by omega), if_pos (by omega)]
      have : a.getD j 0 = 0 := cf_ge (p := a) (by omega)
      rw [this, F.zero_add]
    · rw [getD_set_ne _ _ _ _ e]
      have hi2 : i < (padd a (p.take j)).length := by omega
      rw [List.getD_eq_getElem?_getD (l := _ ++ _), List.getElem?_append_left hi2, ← List.getD_eq_getElem?_getD, g0, t0, if_pos (by omega), if_pos (by omega)]
  · rename_i hj
    rw [hl0] at hj
    refine ext_getD (by rw [List.length_set, hl0, hl1]; omega) fun i hi => ?_
    rw [g1, t1]
    by_cases e : j = i
    · subst e
      rw [getD_set_eq _ _ _ (by omega), g0, t0, if_pos (by omega), if_neg (by omega), F.add_zero]
    · rw [getD_set_ne _ _ _ _ e, g0, t0]
      by_cases h2 : i < j
      · rw [if_pos (by omega), if_pos h2]
      · rw [if_neg (by omega), if_neg h2]
/-- noughts at the top are cut off one by one -/
theorem norm_dropLast {o : List F} (h : o ≠ []) (h0 : o.getD (o.length - 1) 0 = 0) : norm (o.take (o.length - 1)) = norm o := by
  have hl : 0 < o.length := List.length_pos_iff.2 h
  refine norm_congr (S.ext fun i => ?_)
  rw [at_cf, at_cf, List.getD_eq_getElem?_getD, List.getElem?_take]
  split
  · rw [List.getD_eq_getElem?_getD]
  · rename_i hi
    rcases Nat.lt_or_ge i o.length with h1 | h1
    · have : i = o.length - 1 := by omega
      rw [this, h0]; rfl
    · have := cf_ge (p := o) h1
      rw [at_cf] at this; rw [this]; rfl

theorem psum_take_succ (acc : List F) (ls : List (List F)) (i : Nat) (h : i < ls.length) : psum acc (ls.take (i + 1)) = padd (psum acc (ls.take i)) ls[i] := by
  unfold psum
  rw [List.take_succ_eq_append_getElem h, List.foldl_append]; rfl
set_option maxRecDepth 100000 in
set_option maxHeartbeats 1000000 in
theorem poly_sum (A : Option Addr) (c : Nat) (vs : List Value) (ls : List (List F)) (M : Nat) (w : World) (ha : Sl w A c vs) (hs : Bss w vs ls)
    (hM : ∀ l ∈ ls, l.length ≤ M) (hM2 : M ≤ 140737488351232) :
    Calls Try.prog 36 #[.slice A vs.length c] w fun e w' => ∃ A' c', e = .returned (.slice A' (norm (psum [] ls)).length c') ∧ w'.ownsRow w.heap.size 5 1 (.slice A' (norm (psum [] ls)).length c') (norm (psum [] ls)).length ((norm (psum [] ls)).map bv) ∧ Below w.heap.size w w' := by
  have hvl : vs.length ≤ 9223372036854775807 := by have := ha.le; have := ha.mx; unfold maxLen at this; omega
  obtain ⟨i0, hi0, hz0, hz1, hz2⟩ := info_parts info_byte
  go_enter Try.func36, Try.ntmps36
  go_wp2
  go_loopw [3, 10] (fun v k wr => ∃ (i : Nat) (A' : Option Addr) (c' : Nat) (o : List F), i ≤ vs.length ∧ k = .int .i64 i ∧ v = .slice A' o.length c' ∧ Hid (o = psum [] (ls.take i)) ∧ o.length ≤ M ∧ wr.ownsRow w.heap.size 5 1 (.slice A' o.length c') o.length (o.map bv) ∧ Below w.heap.size w wr) (fun _ k _ => vs.length - (intOf k).toNat)
  case atStart => exact ⟨0, none, 0, [], by omega, rfl, rfl, rfl, by simp, World.ownsRow_nil _ _ _ _, Below.refl _ _⟩
  case round =>
    obtain ⟨i, A1, c1, o, hi, rfl, rfl, ho, hol, hown, hb⟩ := hrel
    by_cases hlt : i < vs.length
    · obtain ⟨b, off, hA, hbl, hc⟩ := (ha.below hb).at' (by omega)
      subst hA
      have hil : i < ls.length := by have := hs.1; omega
      obtain ⟨A2, c2, hv2, hr2⟩ := hs.2 i ls[i] (List.getElem?_eq_getElem hil)
      have hcell := hc i _ hv2
      obtain ⟨l, hl⟩ : ∃ l, l = ls[i] := ⟨_, rfl⟩
      rw [← hl] at hcell hr2
      have hlM : l.length ≤ M := hM l (by rw [hl]; exact List.getElem_mem _)
      have HL := Lib.hid hl
      have HSS := Lib.hid hs
      have HC := Lib.hid hc
      have HB := Lib.hid hb
      have HO := Lib.hid hown
      have HR := Lib.hid hr2
      have HA := Lib.hid ha
      clear hl hs hc hb hown hr2 hv2 ha hM
      go_wp2
      obtain ⟨wo, hwo⟩ : ∃ wo : World, wo = wr := ⟨_, rfl⟩
      subst hwo
      go_loopw [3, 16] (fun v k wr => ∃ (j : Nat) (A' : Option Addr) (c' : Nat) (o' : List F), j ≤ l.length ∧ k = .int .i64 j ∧ v = .slice A' o'.length c' ∧ Hid (o' = padd o (l.take j)) ∧ o'.length ≤ M ∧ wr.ownsRow w.heap.size 5 1 (.slice A' o'.length c') o'.length (o'.map bv) ∧ Below w.heap.size w wr) (fun _ k _ => l.length - (intOf k).toNat)
      case atStart => exact ⟨0, _, _, o, by omega, rfl, rfl, by rw [List.take_zero, padd_nil]; rfl, hol, HO.out, HB.out⟩
      case round =>
        clear HO HB
        obtain ⟨j, A3, c3, o3, hj, rfl, rfl, ho3, hol3, hown3, hb3⟩ := hrel
        by_cases hjl : j < l.length
        · obtain ⟨b2, off2, hA2, hbl2, hc2⟩ := Bs.at' (HR.out.below hb3) (by omega)
          subst hA2
          have hcell2 := hc2 j hjl
          clear hc2 HC
          have HBU := Lib.hid (padd_take_succ o l j hjl)
          generalize l.getD j 0 = x at *
          have hwsz := hb3.size
          by_cases he : j = o3.length
          · subst he
            go_wp2_with (at_builtin; refine wpList_append_own _ rfl _ _ 23 rfl w.heap.size 5 i0 (.int .u8 0) 1 1 Try.underlying23 hi0 hz0 hz1 hz2 rfl (by decide) _ _ _ rfl (hown3.alloc _) ⟨wr.heap.size, 0, none⟩ 1 1 [.int .u8 0] rfl rfl ?c1 ?c2 ?c3 ?c4 ?c5 ?_)
            case c1 => exact cell_one_new' _ _ _
            case c2 => intro u hu; simp at hu; subst hu; rfl
            case c3 => unfold maxLen; omega
            case c4 => omega
            case c5 => simp; omega
            intro v' w1 hown' hgrow _
            have hb1 : Below w.heap.size w w1 := own_grow (hb3.alloc hwsz _) (hown3.alloc _) hgrow (by simp; omega)
            obtain ⟨A4, c4, hv4⟩ := own_form hown'
            subst hv4
            obtain ⟨g, hg, hg1, hg2⟩ := own_addr hown' (by omega)
            subst hg
            have hcl := hown'.cellAt o3.length (by omega)
            rw [List.getElem?_append_right (by simp), List.length_map, Nat.sub_self] at hcl
            have hfz := hown'.frozenAt o3.length
            have hst := hown'.stored o3.length (bv x)
            have HST := Lib.hid hst
            have HB1 := Lib.hid hb1
            have HLx := Lib.hid (show o3.length + 1 ≤ M by omega)
            clear hown' hst hb1 hgrow hown3 hb3
            simp only [List.getElem?_cons_zero] at hcl
            have hx0 := xor_zero_n x
            go_wp2
            go_roundw
            case rel =>
              refine ⟨o3.length + 1, some ⟨g, 0, none⟩, c4, (o3 ++ [0]).set o3.length x, by omega, by go_num, by simp, ?_, by simp; exact HLx.out, ?_, HB1.out.setCell (by simp; omega) _⟩
              · have e := HBU.out
                rw [← ho3.out] at e
                unfold bump at e
                rw [if_pos rfl] at e
                exact e.symm
              · have := HST.out.1
                simpa using this
            case measure => simp [intOf]; omega
          · have hj3 : j < o3.length := by
              have e := ho3.out
              have e2 : o3.length = max o.length j := by rw [e, length_padd, List.length_take]; congr 1; omega
              omega
            obtain ⟨g, hg, hg1, hg2⟩ := own_addr hown3 (by omega)
            subst hg
            have hcl := hown3.cellAt j (by omega)
            rw [getElem?_bv hj3] at hcl
            have hfz := hown3.frozenAt j
            have hst := hown3.stored j (bv (o3.getD j 0 + x))
            rw [map_set] at hst
            have HST := Lib.hid hst
            have HB1 := Lib.hid hb3
            have HO3 := Lib.hid ho3
            have hne : ((j : Int) == (o3.length : Int)) = false := by simp; omega
            have HU : Hid (o3.set j (o3.getD j 0 + x) = padd o (l.take (j + 1))) := by
              have e := HBU.out
              rw [← ho3.out] at e
              unfold bump at e
              rw [if_neg he] at e
              exact e.symm
            clear hst hb3 hown3 ho3
            generalize o3.getD j 0 = y at *
            have hx0 := xor_n y x
            go_wp2
            go_roundw
            case rel => exact ⟨j + 1, some ⟨g, 0, none⟩, c3, o3.set j (y + x), by omega, by go_num, by simp, HU, by simp; exact hol3, by simpa using HST.out.1, HB1.out.setCell (by simp; omega) _⟩
            case measure => simp [intOf]; omega
        · have hj2 : j = l.length := by omega
          subst hj2
          have HO3 := Lib.hid ho3
          have H3 := Lib.hid hown3
          have H4 := Lib.hid hb3
          clear ho3 hown3 hb3
          go_wp2
          go_roundw
          case rel =>
            refine ⟨i + 1, A3, c3, o3, by omega, by go_num, rfl, ?_, hol3, H3.out, H4.out⟩
            have e := HO3.out
            rw [List.take_length, ho.out] at e
            rw [psum_take_succ _ _ _ hil, ← HL.out]
            exact e
          case measure => simp [intOf]; omega
    · have hi2 : i = vs.length := by omega
      subst hi2
      have hos : Hid (norm o = norm (psum [] ls)) := by
        have e := ho.out
        rw [hs.1, List.take_length] at e
        show _ = _
        rw [e]
      have H3 := Lib.hid hown
      have H4 := Lib.hid hb
      clear ho hown hb hs hM ha
      go_wp2
      go_loop [3] (fun v => ∃ (A' : Option Addr) (c' : Nat) (o' : List F), v = .slice A' o'.length c' ∧ Hid (norm o' = norm (psum [] ls)) ∧ o'.length ≤ M ∧ wr.ownsRow w.heap.size 5 1 (.slice A' o'.length c') o'.length (o'.map bv)) (fun v => match v with | .slice _ n _ => n | _ => 0)
      case atStart => exact ⟨_, _, o, rfl, hos, hol, H3.out⟩
      case round =>
        obtain ⟨A4, c4, o4, rfl, ho4, hl4, hown4⟩ := hrel
        rcases List.eq_nil_or_concat o4 with rfl | ⟨q, y, rfl⟩
        · have H5 := Lib.hid hown4
          clear hown4
          have hn4 : Hid (norm (psum [] ls) = []) := ho4.out.symm
          go_wp2
          go_ret
          exact ⟨A4, c4, by rw [hn4.out]; rfl, by rw [hn4.out]; exact H5.out, H4.out⟩
        · rw [List.concat_eq_append] at *
          have hlen : (q ++ [y]).length = q.length + 1 := by simp
          rw [hlen] at hown4 hl4 ⊢
          obtain ⟨g, hg, hg1, hg2⟩ := own_addr hown4 (by omega)
          subst hg
          have hcap : q.length + 1 ≤ c4 := by have := (own_sl hown4).le; simpa using this
          have hcl := hown4.cellAt q.length (by omega)
          rw [getElem?_bv (by simp)] at hcl
          have hgy : (q ++ [y]).getD q.length 0 = y := by rw [List.getD_eq_getElem?_getD, List.getElem?_append_right (Nat.le_refl _), Nat.sub_self]; rfl
          rw [hgy] at hcl
          by_cases hy : y = 0
          · have ht : ((y.n : Int) == 0) = true := beq_n (y := 0) hy
            have hnq : Hid (norm q = norm (psum [] ls)) := by
              show _ = _
              rw [← ho4.out]
              have := norm_dropLast (o := q ++ [y]) (by simp) (by rw [hlen]; exact hgy.trans hy)
              rw [hlen] at this
              rw [← this]; simp
            have hq := own_take hown4 q.length (by omega)
            have HQ := Lib.hid hq
            clear hq hown4 hy hgy hlen ho4
            go_wp2
            go_round
            case rel => exact ⟨some ⟨g, 0, none⟩, c4, q, by simp, hnq, by omega, by simpa using HQ.out⟩
            case measure => simp
          · have ht : ((y.n : Int) == 0) = false := bne_n (y := 0) hy
            have hnq : norm (psum [] ls) = q ++ [y] := by
              rw [← ho4.out]
              exact norm_self_of fun _ => by rw [at_cf, hlen]; exact (by rw [Nat.add_sub_cancel, hgy]; exact hy)
            have H5 := Lib.hid hown4
            have H6 := Lib.hid hnq
            have H7 := Lib.hid hlen
            clear hown4 hy hgy hlen ho4 hnq
            go_wp2
            go_ret
            exact ⟨some ⟨g, 0, none⟩, c4, by rw [H6.out, H7.out]; rfl, by rw [H6.out, H7.out]; exact H5.out, H4.out⟩

theorem padd_nil_left (p : List F) : padd [] p = p := rfl
theorem poly_norm (A : Option Addr) (c : Nat) (l : List F) (w : World) (ha : Bs w A c l) (hl : l.length ≤ 140737488351232) :
    Calls Try.prog 17 #[.slice A l.length c] w fun e w' => ∃ A' c', e = .returned (.slice A' (norm l).length c') ∧ Made w w' A' c' (norm l) := by
  have hs := poly_sum (some ⟨w.heap.size, 0, none⟩) 1 [.slice A l.length c] [l] l.length (w.alloc (.cells #[.slice A l.length c] 23))
    ⟨by simp, by unfold maxLen; omega, .inr ⟨w.heap.size, 0, rfl, by simp, fun i v hv => by
      cases i with
      | zero => simp at hv; subst hv; simp
      | succ i => simp at hv⟩⟩
    ⟨rfl, fun i m hm => by
      cases i with
      | zero => simp at hm; subst hm; exact ⟨A, c, rfl, ha.alloc _⟩
      | succ i => simp at hm⟩
    (by intro m hm; simp at hm; subst hm; exact Nat.le_refl _) hl
  have e : psum [] [l] = l := rfl
  rw [e] at hs
  have HS := Lib.hid hs
  clear hs e ha
  go_enter Try.func17, Try.ntmps17
  go_wp2_with (go_at_call 36; refine HS.out.mono ?_; rintro e w' ⟨A', c', rfl, ho, hb⟩; have HO := Lib.hid ho; have HB := Lib.hid hb; clear ho hb)
  go_ret
  exact ⟨A', c', rfl, Made.back ⟨HO.out, HB.out⟩ (below_alloc _ _)⟩
theorem poly_add (A : Option Addr) (c : Nat) (p : List F) (A2 : Option Addr) (c2 : Nat) (q : List F) (w : World) (ha : Bs w A c p) (ha2 : Bs w A2 c2 q) (hl : p.length ≤ 140737488351232) (hl2 : q.length ≤ 140737488351232) :
    Calls Try.prog 30 #[.slice A p.length c, .slice A2 q.length c2] w fun e w' => ∃ A' c', e = .returned (.slice A' (norm (padd p q)).length c') ∧ Made w w' A' c' (norm (padd p q)) := by
  have hs := poly_sum (some ⟨w.heap.size, 0, none⟩) 2 [.slice A p.length c, .slice A2 q.length c2] [p, q] (max p.length q.length) (w.alloc (.cells #[.slice A p.length c, .slice A2 q.length c2] 23))
    ⟨by simp, by unfold maxLen; omega, .inr ⟨w.heap.size, 0, rfl, by simp, fun i v hv => by
      match i with
      | 0 => simp at hv; subst hv; simp
      | 1 => simp at hv; subst hv; simp
      | i + 2 => simp at hv⟩⟩
    ⟨rfl, fun i m hm => by
      match i with
      | 0 => simp at hm; subst hm; exact ⟨A, c, rfl, ha.alloc _⟩
      | 1 => simp at hm; subst hm; exact ⟨A2, c2, rfl, ha2.alloc _⟩
      | i + 2 => simp at hm⟩
    (by intro m hm; simp at hm; rcases hm with rfl | rfl <;> omega) (by omega)
  have e : psum [] [p, q] = padd p q := rfl
  rw [e] at hs
  have HS := Lib.hid hs
  clear hs e ha ha2
  go_enter Try.func30, Try.ntmps30
  go_wp2_with (go_at_call 36; refine HS.out.mono ?_; rintro e w' ⟨A', c', rfl, ho, hb⟩; have HO := Lib.hid ho; have HB := Lib.hid hb; clear ho hb)
  go_ret
  exact ⟨A', c', rfl, Made.back ⟨HO.out, HB.out⟩ (below_alloc _ _)⟩
/-- a polynomial times a number, and x's power: what stands behind i rounds -/
def scaledT (m : F → F → F) (p : List F) (c : F) (k i : Nat) : List F := tab (k + p.length) fun j => if k ≤ j ∧ j < k + i then m (p.getD (j - k) 0) c else 0
theorem scaledT_set (m : F → F → F) (p : List F) (c : F) (k i : Nat) : (scaledT m p c k i).set (k + i) (m (p.getD i 0) c) = scaledT m p c k (i + 1) := by
  unfold scaledT
  rw [set_tab]
  refine tab_congr fun j hj => ?_
  by_cases h1 : j = k + i
  · subst h1; rw [if_pos rfl, if_pos (by omega), Nat.add_sub_cancel_left]
  · rw [if_neg h1]
    by_cases h2 : k ≤ j ∧ j < k + i
    · rw [if_pos h2, if_pos (by omega)]
    · rw [if_neg h2, if_neg (by omega)]
theorem scaledT_zero (m : F → F → F) (p : List F) (c : F) (k : Nat) : (scaledT m p c k 0).map bv = List.replicate (k + p.length) (.int .u8 0) := by
  rw [← tab_zero_map]; congr 1; exact tab_congr fun j _ => if_neg (by omega)
/-- .. all of it -/
def scaled (m : F → F → F) (p : List F) (c : F) (k : Nat) : List F := scaledT m p c k p.length
theorem length_scaled (m : F → F → F) (p : List F) (c : F) (k : Nat) : (scaled m p c k).length = k + p.length := length_tab _ _
theorem cf_scaled (p : List F) (c : F) (k : Nat) : cf (scaled (· * ·) p c k) = Xs k (S.C c * cf p) := S.ext fun j => by
  rw [at_cf]
  rcases Nat.lt_or_ge j (k + p.length) with h | h
  · rw [scaled, scaledT, getD_tab _ h]
    by_cases h1 : k ≤ j
    · rw [if_pos ⟨h1, h⟩]
      show p.getD (j - k) 0 * c = _
      obtain ⟨i, rfl⟩ : ∃ i, j = k + i := ⟨j - k, by omega⟩
      rw [at_Xs, S.at_C_mul, at_cf, F.mul_comm, Nat.add_sub_cancel_left]
    · rw [if_neg (by omega), at_Xs_lt _ _ _ (by omega)]
  · have h0 : (cf (scaled (· * ·) p c k)).at' j = 0 := cf_ge (by rw [length_scaled]; exact h)
    rw [at_cf] at h0
    obtain ⟨i, rfl⟩ : ∃ i, j = k + i := ⟨j - k, by omega⟩
    rw [h0, at_Xs, S.at_C_mul, cf_ge (by omega), F.mul_zero]
/-- what is asked of a field's product, in all worlds that come of this one -/
abbrev Fd (w : World) (v : Value) (m : F → F → F) : Prop := ∀ w', Below w.heap.size w w' → ∀ x y : F, Calls Try.prog 19 #[v, .int .u8 x.n, .int .u8 y.n] w' fun e w'' => e = .returned (.int .u8 (m x y).n) ∧ ∃ n, w'' = w'.drewN n
theorem Fd.below {w w' : World} {v : Value} {m : F → F → F} (h : Fd w v m) (hb : Below w.heap.size w w') : Fd w' v m := fun w2 hb2 x y => h w2 (hb.trans (hb2.mono hb.size)) x y
theorem GfAt.fd {w : World} {b : Nat} (h : GfAt w b) : Fd w (fp b) (· * ·) := fun _ hb x y => gf_mul b x y _ (h.below hb)
theorem fd_nil (w : World) : Fd w (.pointer none) (fun _ _ => 0) := fun w' _ x y => (mul_nil x.n y.n w').mono fun _ _ ⟨he, hw⟩ => ⟨he, 0, hw.symm⟩
set_option maxRecDepth 100000 in
theorem poly_scaled (v : Value) (m : F → F → F) (A : Option Addr) (c : Nat) (p : List F) (x : F) (k : Nat) (w : World) (hg : Fd w v m) (ha : Bs w A c p) (hl : k + p.length ≤ 140737488351232) :
    Calls Try.prog 37 #[v, .slice A p.length c, .int .u8 x.n, .int .i64 k] w fun e w' => ∃ A' c', e = .returned (.slice A' (scaled m p x k).length c') ∧ Made w w' A' c' (scaled m p x k) := by
  obtain ⟨i0, hi0, hz0, hz1, hz2⟩ := info_parts info_byte
  have HG := Lib.hid hg
  have HA := Lib.hid ha
  clear hg ha
  have hsum : (k : Int) + (p.length : Int) = ((k + p.length : Nat) : Int) := by simp
  have HSUM := Lib.hid hsum
  clear hsum
  go_enter Try.func37, Try.ntmps37
  go_wp2_with (refine wpList_make_full _ rfl _ _ 23 rfl w.heap.size 5 i0 _ 1 Try.underlying23 hi0 hz0 hz1 .i64 .i64 ((k : Int) + (p.length : Int)) ((k : Int) + (p.length : Int)) (k + p.length) rfl rfl HSUM.out HSUM.out (by rw [hz2]; omega) (by unfold maxLen; omega) (Nat.le_refl _) ?_; intro w1 hown hgr; have HO := Lib.hid hown; have HR := Lib.hid hgr; clear hown hgr)
  go_loopw [18] (fun v wr => ∃ i : Nat, i ≤ p.length ∧ v = .int .i64 i ∧ wr.ownsRow w.heap.size 5 1 (.slice (some ⟨w.heap.size, 0, none⟩) (k + p.length) (k + p.length)) (k + p.length) ((scaledT m p x k i).map bv) ∧ Below w.heap.size w wr) (fun v _ => p.length - (intOf v).toNat)
  case atStart =>
    refine ⟨0, by omega, rfl, ?_, (Below.refl _ _).grown HR.out (Nat.le_refl _) (by simp)⟩
    rw [scaledT_zero]
    have := HO.out
    rw [show (Value.int .u8 0).cells = #[.int .u8 0] from rfl, Nat.mul_one, toList_madeCells_one] at this
    exact this
  case round =>
    clear HO HR
    obtain ⟨i, hi, rfl, hown, hb⟩ := hrel
    by_cases hlt : i < p.length
    · obtain ⟨b2, off, hA, hbl, hc⟩ := Bs.at' (HA.out.below hb) (by omega)
      subst hA
      have hcell := hc i hlt
      have hst := hown.stored (k + i) (bv (m (p.getD i 0) x))
      rw [map_set, scaledT_set m p x k i] at hst
      have hcl := hown.cellAt (k + i) (by omega)
      rw [getElem?_bv (by unfold scaledT; rw [length_tab]; omega)] at hcl
      have hfz := hown.frozenAt (k + i)
      have HST := Lib.hid hst
      have HB := Lib.hid hb
      have hg2 : Fd wr v m := HG.out.below hb
      have HG2 := Lib.hid hg2
      clear hst hb hg2 hown hc HA
      generalize p.getD i 0 = y at *
      generalize (scaledT m p x k i).getD (k + i) 0 = z at *
      go_wp2_with (go_at_call 19; (with_reducible refine (HG2.out _ (Below.refl _ _) _ _).mono ?_); rintro e w2 ⟨rfl, n, rfl⟩)
      go_roundw
      case rel => exact ⟨i + 1, by omega, by go_num, HST.out.1, (below_drewN HB.out _).setCell (Nat.le_refl _) _⟩
      case measure => simp [intOf]; omega
    · have : i = p.length := by omega
      subst this
      have HO := Lib.hid hown
      have HB := Lib.hid hb
      clear hown hb
      go_wp2
      go_ret
      exact ⟨_, _, by rw [length_scaled]; rfl, by rw [length_scaled]; exact HO.out, HB.out⟩
/-- what poly.Mul gathers -/
def mulRows (m : F → F → F) (p q : List F) : List (List F) := (List.range q.length).map fun i => scaled m p (q.getD i 0) i
theorem psum_append (acc : List F) (a b : List (List F)) : psum acc (a ++ b) = psum (psum acc a) b := by unfold psum; rw [List.foldl_append]
theorem cf_mulRows (p q : List F) : cf (psum [] (mulRows (· * ·) p q)) = cf p * cf q := by
  have h : ∀ n, n ≤ q.length → cf (psum [] ((List.range n).map fun i => scaled (· * ·) p (q.getD i 0) i)) = cf p * cf (q.take n) := by
    intro n
    induction n with
    | zero => intro _; rw [List.take_zero, cf_nil, S.mul_zero]; rfl
    | succ n ih =>
      intro hn
      rw [List.range_succ, List.map_append, psum_append]
      rw [show psum (psum [] ((List.range n).map fun i => scaled (· * ·) p (q.getD i 0) i)) ([n].map fun i => scaled (· * ·) p (q.getD i 0) i) = padd (psum [] ((List.range n).map fun i => scaled (· * ·) p (q.getD i 0) i)) (scaled (· * ·) p (q.getD n 0) n) from rfl]
      rw [cf_padd, ih (by omega), cf_scaled]
      have e : cf (q.take (n + 1)) = cf (q.take n) + Xs n (S.C (q.getD n 0)) := S.ext fun j => by
        rw [S.at_add, at_cf, at_cf, List.getD_eq_getElem?_getD, List.getElem?_take, List.getD_eq_getElem?_getD, List.getElem?_take]
        rcases Nat.lt_trichotomy j n with h1 | h1 | h1
        · rw [if_pos (by omega), if_pos h1, at_Xs_lt _ _ _ h1, F.add_zero]
        · subst h1
          rw [if_pos (by omega), if_neg (by omega)]
          have := at_Xs j (S.C (q.getD j 0)) 0
          rw [Nat.add_zero] at this
          rw [this, S.at_C, if_pos rfl, List.getD_eq_getElem?_getD]
          exact (F.zero_add _).symm
        · rw [if_neg (by omega), if_neg (by omega)]
          obtain ⟨i, rfl⟩ : ∃ i, j = n + (i + 1) := ⟨j - n - 1, by omega⟩
          rw [at_Xs, S.at_C, if_neg (by omega)]
          exact (F.add_zero _).symm
      rw [e, S.mul_add]
      congr 1
      rw [S.mul_comm (cf p), Xs_mul]
  have := h q.length (Nat.le_refl _)
  rwa [List.take_length] at this
theorem norm_mulRows_nil (p q : List F) : norm (psum [] (mulRows (fun _ _ => 0) p q)) = [] := by
  refine norm_nil_of ?_
  have h : ∀ (ls : List (List F)) (acc : List F), cf acc = 0 → (∀ l ∈ ls, cf l = 0) → cf (psum acc ls) = 0 := by
    intro ls
    induction ls with
    | nil => intro acc h _; exact h
    | cons l ls ih =>
      intro acc ha hl
      exact ih (padd acc l) (by rw [cf_padd, ha, hl l (by simp), S.add_zero]) (fun l' h' => hl l' (by simp [h']))
  refine h _ [] cf_nil fun l hl => ?_
  obtain ⟨i, _, rfl⟩ := List.mem_map.1 hl
  refine S.ext fun j => ?_
  rw [at_cf, S.at_zero]
  rcases Nat.lt_or_ge j (i + p.length) with h1 | h1
  · rw [scaled, scaledT, getD_tab _ h1]; split <;> rfl
  · exact cf_ge (p := scaled _ _ _ _) (by rw [length_scaled]; exact h1)
theorem norm_mulRows (p q : List F) : norm (psum [] (mulRows (· * ·) p q)) = norm (pmul p q) := norm_congr (by rw [cf_mulRows, cf_pmul])
set_option maxRecDepth 100000 in
set_option maxHeartbeats 400000 in
theorem poly_mul_any (v : Value) (m : F → F → F) (A : Option Addr) (c : Nat) (p : List F) (A2 : Option Addr) (c2 : Nat) (q : List F) (w : World) (hg : Fd w v m) (ha : Bs w A c p) (ha2 : Bs w A2 c2 q) (hl : p.length ≤ 1000000) (hl2 : q.length ≤ 1000000) :
    Calls Try.prog 18 #[v, .slice A p.length c, .slice A2 q.length c2] w fun e w' => ∃ A' c', e = .returned (.slice A' (norm (psum [] (mulRows m p q))).length c') ∧ Made w w' A' c' (norm (psum [] (mulRows m p q))) := by
  obtain ⟨i0, hi0, hz0, hz1, hz2⟩ := info_parts info_row
  have HG := Lib.hid hg
  have HA := Lib.hid ha
  have HA2 := Lib.hid ha2
  clear hg ha ha2
  go_enter Try.func18, Try.ntmps18
  go_wp2
  go_loopw [7, 12] (fun v k wr => ∃ (i : Nat) (A' : Option Addr) (c' : Nat) (vs : List Value), i ≤ q.length ∧ k = .int .i64 i ∧ v = .slice A' i c' ∧ wr.ownsRow w.heap.size 23 1 (.slice A' i c') i vs ∧ OwnSS wr w.heap.size vs ((mulRows m p q).take i) ∧ Below w.heap.size w wr) (fun _ k _ => q.length - (intOf k).toNat)
  case atStart => exact ⟨0, none, 0, [], by omega, rfl, rfl, World.ownsRow_nil _ _ _ _, ⟨rfl, fun i l h => by simp at h⟩, Below.refl _ _⟩
  case round =>
    obtain ⟨i, A1, c1, vs, hi, rfl, rfl, hown, hss, hb⟩ := hrel
    have hbs := hb.size
    have HO := Lib.hid hown
    have HS := Lib.hid hss
    have HB := Lib.hid hb
    clear hown hss hb
    by_cases hlt : i < q.length
    · obtain ⟨b2, off, hA, hbl, hc⟩ := Bs.at' (HA2.out.below HB.out) (by omega)
      subst hA
      have hcell := hc i hlt
      clear hc
      have hget : Hid ((mulRows m p q).take (i + 1) = (mulRows m p q).take i ++ [scaled m p (q.getD i 0) i]) := by
        show _ = _
        have hl : i < (mulRows m p q).length := by simp [mulRows]; exact hlt
        rw [List.take_succ_eq_append_getElem hl]
        congr 2
        simp [mulRows]
      generalize q.getD i 0 = y at *
      go_wp2_with (first
        | (go_at_call 37; (with_reducible refine (poly_scaled v m _ _ _ _ _ _ ?_ ?_ ?_).mono ?_); (exact Fd.below HG.out HB.out); (exact HA.out.below HB.out); omega; rintro e w2 ⟨A3, c3, rfl, hm⟩; have HM := Lib.hid hm; have hm2 := hm.bel.size; clear hm)
        | (at_builtin; refine wpList_append_own _ rfl _ _ 55 rfl w.heap.size 23 i0 (.slice none 0 0) 1 24 Try.underlying55 hi0 hz0 hz1 hz2 rfl (by decide) _ _ _ rfl ((own_below HO.out HM.out.bel).alloc _) ⟨w2.heap.size, 0, none⟩ 1 1 [.slice A3 (scaled m p y i).length c3] rfl rfl ?c1 ?c2 ?c3 ?c4 ?c5 ?_))
      case c1 => exact cell_one_new' _ _ _
      case c2 => intro u hu; simp at hu; subst hu; rfl
      case c3 => unfold maxLen; omega
      case c4 => omega
      case c5 => simp; omega
      intro v' w3 hown' hgrow _
      have ho2 := (own_below HO.out HM.out.bel).alloc (.cells #[.slice A3 (scaled m p y i).length c3] 23)
      have hb3 : Below w.heap.size w w3 := own_grow ((HB.out.trans (HM.out.bel.mono hbs)).alloc (by omega) _) ho2 hgrow (by simp; omega)
      have hs3 := ((HS.out.below HM.out.bel).snoc (own_mono HM.out.own hbs)).below (below_alloc _ (.cells #[.slice A3 (scaled m p y i).length c3] 23))
      have hs4 := hs3.grown ho2 (by decide) hgrow
      rw [← hget.out] at hs4
      obtain ⟨A4, c4, hv4⟩ := own_form hown'
      subst hv4
      have H1 := Lib.hid hown'
      have H2 := Lib.hid hs4
      have H3 := Lib.hid hb3
      clear hown' hs4 hb3 hs3 ho2 hgrow
      go_wp2
      go_roundw
      case rel => exact ⟨i + 1, A4, c4, _, by omega, by go_num, rfl, H1.out, H2.out, H3.out⟩
      case measure => simp [intOf]; omega
    · have : i = q.length := by omega
      subst this
      have hfull : (mulRows m p q).take q.length = mulRows m p q := List.take_of_length_le (by simp [mulRows])
      have hs5 := HS.out.bss
      rw [hfull] at hs5
      have hlen := own_len HO.out
      have hsl := own_sl HO.out
      have hsum := poly_sum A1 c1 vs (mulRows m p q) 2000000 wr hsl hs5 (by
        intro l hl
        simp only [mulRows, List.mem_map, List.mem_range] at hl
        obtain ⟨j, hj, rfl⟩ := hl
        rw [length_scaled]; omega) (by omega)
      rw [hlen] at hsum
      have HSUM := Lib.hid hsum
      clear hsum hsl hlen hs5 hfull
      go_wp2_with (go_at_call 36; (with_reducible refine HSUM.out.mono ?_); rintro e w' ⟨A', c', rfl, ho, hb⟩; have HO2 := Lib.hid ho; have HB2 := Lib.hid hb; clear ho hb)
      go_ret
      exact ⟨A', c', rfl, own_mono HO2.out hbs, HB.out.trans (HB2.out.mono hbs)⟩
theorem poly_mul (b : Nat) (A : Option Addr) (c : Nat) (p : List F) (A2 : Option Addr) (c2 : Nat) (q : List F) (w : World) (hg : GfAt w b) (ha : Bs w A c p) (ha2 : Bs w A2 c2 q) (hl : p.length ≤ 1000000) (hl2 : q.length ≤ 1000000) :
    Calls Try.prog 18 #[fp b, .slice A p.length c, .slice A2 q.length c2] w fun e w' => ∃ A' c', e = .returned (.slice A' (norm (pmul p q)).length c') ∧ Made w w' A' c' (norm (pmul p q)) := by
  have := poly_mul_any (fp b) (· * ·) A c p A2 c2 q w hg.fd ha ha2 hl hl2
  rwa [norm_mulRows] at this
theorem poly_mul_nil (A : Option Addr) (c : Nat) (p : List F) (A2 : Option Addr) (c2 : Nat) (q : List F) (w : World) (ha : Bs w A c p) (ha2 : Bs w A2 c2 q) (hl : p.length ≤ 1000000) (hl2 : q.length ≤ 1000000) :
    Calls Try.prog 18 #[.pointer none, .slice A p.length c, .slice A2 q.length c2] w fun e w' => ∃ A' c', e = .returned (.slice A' 0 c') ∧ Below w.heap.size w w' := by
  have := poly_mul_any (.pointer none) (fun _ _ => 0) A c p A2 c2 q w (fd_nil w) ha ha2 hl hl2
  rw [norm_mulRows_nil] at this
  exact this.mono fun e w' ⟨A', c', he, hm⟩ => ⟨A', c', he, hm.bel⟩

set_option maxRecDepth 100000 in
theorem poly_eval (b : Nat) (A : Option Addr) (c : Nat) (p : List F) (x : F) (w : World) (hg : GfAt w b) (ha : Bs w A c p) :
    Calls Try.prog 20 #[fp b, .slice A p.length c, .int .u8 x.n] w fun e w' => e = .returned (.int .u8 (eval p x).n) ∧ Below w.heap.size w w' := by
  have hpl : p.length ≤ 9223372036854775807 := by have := ha.len; have := ha.mx; unfold maxLen at this; omega
  have HG := Lib.hid hg
  have HA := Lib.hid ha
  clear hg ha
  go_enter Try.func20, Try.ntmps20
  go_wp2
  go_loopw [7, 8] (fun o k wr => ∃ m : Nat, m ≤ p.length ∧ k = .int .i64 ((m : Int) - 1) ∧ o = .int .u8 (eval (p.drop m) x).n ∧ Below w.heap.size w wr) (fun _ k _ => ((intOf k) + 1).toNat)
  case atStart => exact ⟨p.length, Nat.le_refl _, rfl, by rw [List.drop_length]; rfl, Below.refl _ _⟩
  case round =>
    obtain ⟨m, hm, rfl, rfl, hb⟩ := hrel
    cases m with
    | zero =>
      have HB := Lib.hid hb
      clear hb
      have e0 : ((0 : Nat) : Int) - 1 = -1 := rfl
      rw [e0]
      clear e0
      rw [List.drop_zero]
      go_wp2
      go_ret
      exact ⟨rfl, HB.out⟩
    | succ m =>
      have e1 : ((m + 1 : Nat) : Int) - 1 = (m : Int) := by omega
      rw [e1]
      clear e1
      obtain ⟨b2, off, hA, hbl, hc⟩ := Bs.at' (HA.out.below hb) (by omega)
      subst hA
      have hcell := hc m (by omega)
      have hev : eval (p.drop m) x = eval (p.drop (m + 1)) x * x + p.getD m 0 := by
        rw [List.drop_eq_getElem_cons (by omega)]
        simp only [eval]
        rw [List.getD_eq_getElem?_getD, List.getElem?_eq_getElem (by omega), F.mul_comm x, F.add_comm]; rfl
      have HEV := Lib.hid hev
      have HB := Lib.hid hb
      have HG2 := Lib.hid (HG.out.below hb)
      have hml : (m : Int) < (p.length : Int) := by omega
      have hmt : (m : Int).toNat = m := by omega
      clear hev hb hc HA HG
      generalize eval (p.drop (m + 1)) x = o at *
      generalize p.getD m 0 = y at *
      have hxor := xor_n (o * x) y
      go_wp2
      go_quiet ((go_at_call 19; exact Calls.quiet_of (gf_mul _ _ _ _ (HG2.out.drewN _))))
      go_wp2
      go_roundw
      case rel => exact ⟨m, by omega, rfl, by rw [HEV.out], below_drewN HB.out _⟩
      case measure => simp [intOf]
/-- what stands behind t rounds of Deriv -/
def derivT (p : List F) (t : Nat) : List F := tab p.length fun j => if j % 2 = 0 ∧ j < 2 * t then p.getD (j + 1) 0 else 0
theorem derivT_set (p : List F) (t : Nat) : (derivT p t).set (2 * t) (p.getD (2 * t + 1) 0) = derivT p (t + 1) := by
  unfold derivT
  rw [set_tab]
  refine tab_congr fun j _ => ?_
  by_cases h : j = 2 * t
  · subst h; rw [if_pos rfl, if_pos (by omega)]
  · rw [if_neg h]
    by_cases h2 : j % 2 = 0 ∧ j < 2 * t
    · rw [if_pos h2, if_pos (by omega)]
    · rw [if_neg h2, if_neg (by omega)]
theorem derivT_zero (p : List F) : (derivT p 0).map bv = List.replicate p.length (.int .u8 0) := by
  rw [← tab_zero_map]; congr 1; exact tab_congr fun j _ => if_neg (by omega)
theorem derivT_all (p : List F) (t : Nat) (h : p.length ≤ 2 * t + 1) : derivT p t = derivL p := by
  unfold derivT derivL
  refine tab_congr fun j hj => ?_
  by_cases h1 : j % 2 = 0
  · rw [if_pos h1]
    by_cases h2 : j < 2 * t
    · rw [if_pos ⟨h1, h2⟩]
    · rw [if_neg (by omega)]
      exact (cf_ge (p := p) (by omega)).symm
  · rw [if_neg h1, if_neg (by omega)]
set_option maxRecDepth 100000 in
theorem poly_deriv (A : Option Addr) (c : Nat) (p : List F) (w : World) (ha : Bs w A c p) (hl : p.length ≤ 1000000) :
    Calls Try.prog 23 #[.slice A p.length c] w fun e w' => ∃ A' c', e = .returned (.slice A' (norm (derivL p)).length c') ∧ Made w w' A' c' (norm (derivL p)) := by
  obtain ⟨i0, hi0, hz0, hz1, hz2⟩ := info_parts info_byte
  have HA := Lib.hid ha
  clear ha
  go_enter Try.func23, Try.ntmps23
  go_wp2_with (refine wpList_make_full _ rfl _ _ 23 rfl w.heap.size 5 i0 _ 1 Try.underlying23 hi0 hz0 hz1 .i64 .i64 (p.length : Int) (p.length : Int) p.length rfl rfl rfl rfl (by rw [hz2]; omega) (by unfold maxLen; omega) (Nat.le_refl _) ?_; intro w1 hown hgr; have HO := Lib.hid hown; have HR := Lib.hid hgr; clear hown hgr)
  go_loopw [4] (fun v wr => ∃ t : Nat, 2 * t ≤ p.length + 1 ∧ v = .int .i64 (2 * (t : Int) + 1) ∧ wr.ownsRow w.heap.size 5 1 (.slice (some ⟨w.heap.size, 0, none⟩) p.length p.length) p.length ((derivT p t).map bv) ∧ Below w.heap.size w wr) (fun v _ => p.length + 3 - (intOf v).toNat)
  case atStart =>
    refine ⟨0, by omega, rfl, ?_, (Below.refl _ _).grown HR.out (Nat.le_refl _) (by simp)⟩
    rw [derivT_zero]
    have := HO.out
    rw [show (Value.int .u8 0).cells = #[.int .u8 0] from rfl, Nat.mul_one, toList_madeCells_one] at this
    exact this
  case round =>
    clear HO HR
    obtain ⟨t, ht, rfl, hown, hb⟩ := hrel
    by_cases hlt : 2 * t + 1 < p.length
    · obtain ⟨b2, off, hA, hbl, hc⟩ := Bs.at' (HA.out.below hb) (by omega)
      subst hA
      have hi1 : (2 * (t : Int) + 1).toNat = 2 * t + 1 := by omega
      have hi2 : (2 * (t : Int)).toNat = 2 * t := by omega
      have hcell := hc (2 * t + 1) hlt
      have hst := hown.stored (2 * t) (bv (p.getD (2 * t + 1) 0))
      rw [map_set, derivT_set p t] at hst
      have hcl := hown.cellAt (2 * t) (by omega)
      rw [getElem?_bv (by unfold derivT; rw [length_tab]; omega)] at hcl
      have hfz := hown.frozenAt (2 * t)
      have hlt1 : 2 * (t : Int) + 1 < (p.length : Int) := by omega
      have HST := Lib.hid hst
      have HB := Lib.hid hb
      clear hst hb hown hc HA
      generalize p.getD (2 * t + 1) 0 = y at *
      generalize (derivT p t).getD (2 * t) 0 = z at *
      go_wp2
      go_goals
      go_roundw
      case rel => exact ⟨t + 1, by omega, by go_num, HST.out.1, HB.out.setCell (Nat.le_refl _) _⟩
      case measure => simp [intOf]; omega
    · have hlt1 : ¬ 2 * (t : Int) + 1 < (p.length : Int) := by omega
      have hsl := own_sl hown
      rw [derivT_all p t (by omega)] at hsl
      have hn := poly_norm (some ⟨w.heap.size, 0, none⟩) p.length (derivL p) wr hsl (by unfold derivL; simp; omega)
      have hll : (derivL p).length = p.length := by unfold derivL; simp
      rw [hll] at hn
      have HN := Lib.hid hn
      have HB := Lib.hid hb
      clear hn hsl hown hb hll
      go_wp2_with (go_at_call 17; (with_reducible refine HN.out.mono ?_); rintro e w' ⟨A', c', rfl, hm⟩; have HM := Lib.hid hm; clear hm)
      go_ret
      exact ⟨A', c', rfl, own_mono HM.out.own HB.out.size, HB.out.trans (HM.out.bel.mono HB.out.size)⟩

theorem poly_divide_nil (A : Option Addr) (c : Nat) (p : List F) (A2 : Option Addr) (c2 : Nat) (q : List F) (w : World) (ha : Bs w A c p) (ha2 : Bs w A2 c2 q) (hl : p.length ≤ 140737488351232) (hl2 : q.length ≤ 140737488351232) :
    Calls Try.prog 29 #[.pointer none, .slice A p.length c, .slice A2 q.length c2] w fun e w' => e = .returned (.tuple #[.slice none 0 0, .slice none 0 0, .int .i64 1]) ∧ Below w.heap.size w w' := by
  have HA := Lib.hid ha
  have HA2 := Lib.hid ha2
  clear ha ha2
  go_enter Try.func29, Try.ntmps29
  go_wp2_with (first
    | (go_at_call 17; (with_reducible refine (poly_norm _ _ _ _ HA.out hl).mono ?_); rintro e w1 ⟨A3, c3, rfl, hm⟩; have HM := Lib.hid hm; clear hm)
    | (go_at_call 17; (with_reducible refine (poly_norm _ _ _ _ (HA2.out.below HM.out.bel) hl2).mono ?_); rintro e w2 ⟨A4, c4, rfl, hm⟩; have HM2 := Lib.hid hm; clear hm))
  go_ret3
  exact ⟨rfl, HM.out.bel.trans (HM2.out.bel.mono HM.out.bel.size)⟩
theorem poly_divide_zero (b : Nat) (A : Option Addr) (c : Nat) (p : List F) (A2 : Option Addr) (c2 : Nat) (q : List F) (w : World) (ha : Bs w A c p) (ha2 : Bs w A2 c2 q) (hl : p.length ≤ 140737488351232) (hl2 : q.length ≤ 140737488351232) (hq : norm q = []) :
    Calls Try.prog 29 #[fp b, .slice A p.length c, .slice A2 q.length c2] w fun e w' => e = .returned (.tuple #[.slice none 0 0, .slice none 0 0, .int .i64 20]) ∧ Below w.heap.size w w' := by
  unfold fp
  have HA := Lib.hid ha
  have HA2 := Lib.hid ha2
  have HQ := Lib.hid hq
  clear ha ha2 hq
  go_enter Try.func29, Try.ntmps29
  go_wp2_with (first
    | (go_at_call 17; (with_reducible refine (poly_norm _ _ _ _ HA.out hl).mono ?_); rintro e w1 ⟨A3, c3, rfl, hm⟩; have HM := Lib.hid hm; clear hm)
    | (go_at_call 17; (with_reducible refine (poly_norm _ _ _ _ (HA2.out.below HM.out.bel) hl2).mono ?_); rintro e w2 ⟨A4, c4, rfl, hm⟩; have HM2 := Lib.hid hm; clear hm; rw [HQ.out, List.length_nil]))
  go_ret3
  exact ⟨rfl, HM.out.bel.trans (HM2.out.bel.mono HM.out.bel.size)⟩
theorem poly_sum2 (A : Option Addr) (c : Nat) (p : List F) (A2 : Option Addr) (c2 : Nat) (q : List F) (w : World) (ha : Bs w A c p) (ha2 : Bs w A2 c2 q) (hl : p.length ≤ 140737488351232) (hl2 : q.length ≤ 140737488351232) :
    Calls Try.prog 36 #[.slice (some ⟨w.heap.size, 0, none⟩) 2 2] (w.alloc (.cells #[.slice A p.length c, .slice A2 q.length c2] 23)) fun e w' => ∃ A' c', e = .returned (.slice A' (norm (padd p q)).length c') ∧ Made w w' A' c' (norm (padd p q)) := by
  have hs := poly_sum (some ⟨w.heap.size, 0, none⟩) 2 [.slice A p.length c, .slice A2 q.length c2] [p, q] (max p.length q.length) (w.alloc (.cells #[.slice A p.length c, .slice A2 q.length c2] 23))
    ⟨by simp, by unfold maxLen; omega, .inr ⟨w.heap.size, 0, rfl, by simp, fun i v hv => by
      match i with
      | 0 => simp at hv; subst hv; simp
      | 1 => simp at hv; subst hv; simp
      | i + 2 => simp at hv⟩⟩
    ⟨rfl, fun i m hm => by
      match i with
      | 0 => simp at hm; subst hm; exact ⟨A, c, rfl, ha.alloc _⟩
      | 1 => simp at hm; subst hm; exact ⟨A2, c2, rfl, ha2.alloc _⟩
      | i + 2 => simp at hm⟩
    (by intro m hm; simp at hm; rcases hm with rfl | rfl <;> omega) (by omega)
  have e : psum [] [p, q] = padd p q := rfl
  rw [e] at hs
  exact hs.mono fun e w' ⟨A', c', he, ho, hb⟩ => ⟨A', c', he, Made.back ⟨ho, hb⟩ (below_alloc _ _)⟩
/-- one step of a division -/
theorem divide_step {p by' o L : List F} (hn : norm by' = by') (hby : by' ≠ []) (hle : by'.length ≤ L.length)
    (heq : cf p = cf o * cf by' + cf L) (ho : o.getD (L.length - by'.length) 0 = 0) (hol : L.length - by'.length < o.length) :
    cf p = cf (o.set (L.length - by'.length) (L.getD (L.length - 1) 0 * F.inv (by'.getD (by'.length - 1) 0))) * cf by' +
        cf (padd L (scaled (· * ·) by' (L.getD (L.length - 1) 0 * F.inv (by'.getD (by'.length - 1) 0)) (L.length - by'.length))) ∧
      (norm (padd L (scaled (· * ·) by' (L.getD (L.length - 1) 0 * F.inv (by'.getD (by'.length - 1) 0)) (L.length - by'.length)))).length < L.length := by
  have hb1 : 0 < by'.length := List.length_pos_iff.2 hby
  have htop : by'.getD (by'.length - 1) 0 ≠ 0 := by
    have := norm_top (p := by') (by rw [hn]; exact hby)
    rw [hn] at this; exact this
  generalize hk : L.length - by'.length = k at *
  generalize hcc : L.getD (L.length - 1) 0 * F.inv (by'.getD (by'.length - 1) 0) = c
  have e1 : cf (o.set k c) = cf o + Xs k (S.C c) := S.ext fun j => by
    rw [S.at_add, at_cf, at_cf]
    by_cases h : k = j
    · subst h
      have := at_Xs k (S.C c) 0
      rw [Nat.add_zero] at this
      rw [getD_set_eq _ _ _ hol, ho, F.zero_add, this, S.at_C, if_pos rfl]
    · rw [getD_set_ne _ _ _ _ h]
      rcases Nat.lt_or_ge j k with h1 | h1
      · rw [at_Xs_lt _ _ _ h1, F.add_zero]
      · obtain ⟨i, rfl⟩ : ∃ i, j = k + (i + 1) := ⟨j - k - 1, by omega⟩
        rw [at_Xs, S.at_C, if_neg (by omega), F.add_zero]
  constructor
  · rw [cf_padd, cf_scaled, e1, heq, S.add_mul, Xs_mul]
    rw [show cf o * cf by' + Xs k (S.C c * cf by') + (cf L + Xs k (S.C c * cf by')) = cf o * cf by' + cf L + Xs k (S.C c * cf by') + Xs k (S.C c * cf by') by ac_rfl, S.add_add_cancel]
  · have h2 : (norm (padd L (scaled (· * ·) by' c k))).length ≤ L.length - 1 := by
      refine length_norm_le_of fun i hi => ?_
      rw [cf_padd, S.at_add, cf_scaled]
      by_cases h : i = L.length - 1
      · subst h
        have e2 : L.length - 1 = k + (by'.length - 1) := by omega
        have e3 : (Xs k (S.C c * cf by')).at' (L.length - 1) = c * by'.getD (by'.length - 1) 0 := by rw [e2, at_Xs, S.at_C_mul]; rfl
        rw [e3, ← hcc, F.mul_assoc, F.inv_mul htop, F.mul_one]
        exact F.add_self _
      · have h3 : (cf L).at' i = 0 := cf_ge (by omega)
        obtain ⟨j, rfl⟩ : ∃ j, i = k + j := ⟨i - k, by omega⟩
        rw [h3, F.zero_add, at_Xs, S.at_C_mul, cf_ge (by omega), F.mul_zero]
    omega
set_option maxRecDepth 100000 in
set_option maxHeartbeats 1000000 in
theorem poly_divide (b : Nat) (A : Option Addr) (c : Nat) (p : List F) (A2 : Option Addr) (c2 : Nat) (q : List F) (w : World) (hg : GfAt w b) (ha : Bs w A c p) (ha2 : Bs w A2 c2 q) (hl : p.length ≤ 1000000) (hl2 : q.length ≤ 1000000) (hq : norm q ≠ []) :
    Calls Try.prog 29 #[fp b, .slice A p.length c, .slice A2 q.length c2] w fun e w' => ∃ (s r : List F) (A' : Option Addr) (c' : Nat) (A'' : Option Addr) (c'' : Nat), e = .returned (.tuple #[.slice A' s.length c', .slice A'' r.length c'', .int .i64 0]) ∧ IsDiv p q s r ∧ Bs w' A' c' s ∧ Bs w' A'' c'' r ∧ Below w.heap.size w w' := by
  unfold fp
  obtain ⟨i0, hi0, hz0, hz1, hz2⟩ := info_parts info_byte
  have hln := length_norm_le p
  have hln2 := length_norm_le q
  have hlp : 0 < (norm q).length := List.length_pos_iff.2 hq
  have hq0 : (((norm q).length : Int) == 0) = false := by simp; exact hq
  have HA := Lib.hid ha
  have HA2 := Lib.hid ha2
  have HQ := Lib.hid hq
  have HG := Lib.hid hg
  clear ha ha2 hq hg
  go_enter Try.func29, Try.ntmps29
  go_wp2_with (first
    | (go_at_call 17; (with_reducible refine (poly_norm _ _ _ _ HA.out (by omega)).mono ?_); rintro e w1 ⟨A3, c3, rfl, hm⟩; have HM := Lib.hid hm; have hs1 := hm.bel.size; clear hm)
    | (go_at_call 17; (with_reducible refine (poly_norm _ _ _ _ (HA2.out.below HM.out.bel) (by omega)).mono ?_); rintro e w2 ⟨A4, c4, rfl, hm⟩; have HM2 := Lib.hid hm; have hs2 := hm.bel.size; clear hm)
    | (refine wpList_make_full _ rfl _ _ 23 rfl w.heap.size 5 i0 _ 1 Try.underlying23 hi0 hz0 hz1 .i64 .i64 ((norm p).length : Int) ((norm p).length : Int) (norm p).length rfl rfl rfl rfl (by rw [hz2]; omega) (by unfold maxLen; omega) (by omega) ?_; intro w3 hown hgr; have HO := Lib.hid hown; have HR := Lib.hid hgr; clear hown hgr))
  obtain ⟨g, hgd⟩ : ∃ g : Nat, g = w2.heap.size := ⟨_, rfl⟩
  rw [← hgd]
  have hown0 : w3.ownsRow w.heap.size 5 1 (.slice (some ⟨g, 0, none⟩) (norm p).length (norm p).length) (norm p).length ((tab (norm p).length fun _ => 0).map bv) := by
    rw [tab_zero_map, hgd]
    have := HO.out
    rw [show (Value.int .u8 0).cells = #[.int .u8 0] from rfl, Nat.mul_one, toList_madeCells_one] at this
    exact this
  have hb3 : Below w2.heap.size w2 w3 := (Below.refl _ _).grown HR.out (Nat.le_refl _) (by simp)
  have hbw : Below w.heap.size w w3 := (HM.out.bel.trans (HM2.out.bel.mono hs1)).trans (hb3.mono (by omega))
  have hby0 : w3.ownsRow w.heap.size 5 1 (.slice A4 (norm q).length c4) (norm q).length ((norm q).map bv) := own_below (own_mono HM2.out.own (by omega)) hb3
  have hbyg : (Value.slice A4 (norm q).length c4).ownBlock ≠ some g := fun h => by have := (HM2.out.own.lt g h).2; omega
  have hL0 : w3.ownsRow w.heap.size 5 1 (.slice A3 (norm p).length c3) (norm p).length ((norm p).map bv) := own_below (own_below HM.out.own HM2.out.bel) hb3
  have hLg : (Value.slice A3 (norm p).length c3).ownBlock ≠ some g := fun h => by have := ((own_below HM.out.own HM2.out.bel).lt g h).2; omega
  have hgB : w.heap.size ≤ g := by omega
  have hnp : norm (norm p) = norm p := norm_norm p
  have hnq : norm (norm q) = norm q := norm_norm q
  have hcp : cf (norm p) = cf p := cf_norm p
  have hcq : cf (norm q) = cf q := cf_norm q
  have K1 := Lib.hid hown0
  have K2 := Lib.hid hbw
  have K3 := Lib.hid hby0
  have K4 := Lib.hid hbyg
  have K5 := Lib.hid hL0
  have K6 := Lib.hid hLg
  have K7 := Lib.hid hnq
  have K8 := Lib.hid hcq
  have K9 := Lib.hid hgd
  have K10 : Hid (cf p = cf (tab (norm p).length fun _ => 0) * cf (norm q) + cf (norm p)) := by
    show _ = _
    have : cf (tab (norm p).length fun _ => 0) = 0 := S.ext fun i => by
      rcases Nat.lt_or_ge i (norm p).length with h | h
      · rw [at_cf, getD_tab _ h]; rfl
      · exact cf_ge (by rw [length_tab]; exact h)
    rw [this, S.zero_mul, S.zero_add, hcp]
  have K11 := Lib.hid hnp
  clear hown0 hbw hby0 hbyg hL0 hLg hnp hcp hnq hcq HO HR HM HM2 hb3 hgd hs1 hs2
  generalize hQ : norm q = Q at *
  have HQ2 := Lib.hid hQ
  clear hQ
  obtain ⟨N, hN⟩ : ∃ N : Nat, N = (norm p).length := ⟨_, rfl⟩
  rw [← hN] at K1 hln K10 ⊢
  have HN := Lib.hid hN
  go_loopw [9] (fun v wr => ∃ (L : List F) (A' : Option Addr) (c' : Nat) (o : List F), v = .slice A' L.length c' ∧ L.length ≤ N ∧ Hid (norm L = L) ∧ wr.ownsRow w.heap.size 5 1 (.slice A' L.length c') L.length (L.map bv) ∧ Hid ((Value.slice A' L.length c').ownBlock ≠ some g) ∧
      wr.ownsRow w.heap.size 5 1 (.slice (some ⟨g, 0, none⟩) N N) N (o.map bv) ∧ Hid (o.length = N) ∧ Hid (cf p = cf o * cf Q + cf L) ∧ Hid (∀ j, j + Q.length ≤ L.length → o.getD j 0 = 0) ∧ wr.ownsRow w.heap.size 5 1 (.slice A4 Q.length c4) Q.length (Q.map bv) ∧ Below w.heap.size w wr) (fun v _ => match v with | .slice _ n _ => n | _ => 0)
  case atStart =>
    refine ⟨norm p, A3, c3, _, by rw [hN], by omega, K11.out, K5.out, K6.out, K1.out, length_tab _ _, K10.out, fun j hj => ?_, K3.out, K2.out⟩
    exact getD_tab _ (by omega)
  case round =>
    clear K1 K2 K3 K5 K6 K10 K11 hN
    obtain ⟨L, A5, c5, o, rfl, hLN, hLn, hLo, hLg, hoo, hol, heq, hz, hby, hb⟩ := hrel
    have hbs := hb.size
    by_cases hlt : Q.length ≤ L.length
    · have hlL : 0 < L.length := by omega
      have hdec : decide (Q.length ≤ L.length) = true := decide_eq_true hlt
      obtain ⟨b1, o1, hA5, hbl1, hc1⟩ := Bs.at' (own_sl hLo) (by omega)
      obtain ⟨b2, o2, hA4, hbl2, hc2⟩ := Bs.at' (own_sl hby) (by omega)
      have hk1 := hc1 (L.length - 1) (by omega)
      have hk2 := hc2 (Q.length - 1) (by omega)
      have hstep := divide_step (p := p) (by' := Q) (o := o) (L := L) K7.out HQ.out hlt heq.out (hz.out _ (by omega)) (by have := hol.out; omega)
      have S1 := Lib.hid hLo
      have S2 := Lib.hid hoo
      have S3 := Lib.hid hby
      have S4 := Lib.hid hb
      have S5 := Lib.hid hstep
      have S6 := Lib.hid (HG.out.below hb)
      clear hLo hoo hby hb hstep hc1 hc2
      subst hA5
      subst hA4
      have f1 : IntKind.i64.wrap ((L.length : Int) - 1) = ((L.length - 1 : Nat) : Int) := by rw [IntKind.wrap_i64]; omega
      have f2 : IntKind.i64.wrap ((Q.length : Int) - 1) = ((Q.length - 1 : Nat) : Int) := by rw [IntKind.wrap_i64]; omega
      have f3 : (L.length : Int) - (Q.length : Int) = ((L.length - Q.length : Nat) : Int) := by omega
      have f4 : ((L.length - 1 : Nat) : Int) < (L.length : Int) := by omega
      have f5 : ((Q.length - 1 : Nat) : Int) < (Q.length : Int) := by omega
      have hQ0 : Q.getD (Q.length - 1) 0 ≠ 0 := by
        have := norm_top (p := Q) (by rw [K7.out]; exact HQ.out)
        rw [K7.out] at this; exact this
      have HQ0 := Lib.hid hQ0
      clear hQ0
      generalize L.getD (L.length - 1) 0 = x at *
      generalize Q.getD (Q.length - 1) 0 = y at *
      go_wp2
      go_quiet ((go_at_call 24; exact Calls.quiet_of (gf_div_nz _ _ _ HQ0.out _ (S6.out.drewN _))))
      have T1 := S2.out.cellAt (L.length - Q.length) (by omega)
      rw [getElem?_bv (by have := hol.out; omega)] at T1
      generalize o.getD (L.length - Q.length) 0 = z at *
      have T2 := S2.out.frozenAt (L.length - Q.length)
      have T3 := S2.out.stored (L.length - Q.length) (bv (x * F.inv y))
      rw [map_set] at T3
      have T4 := ownsRow_setCell_other (a := ⟨g, L.length - Q.length, none⟩) S3.out (fun h => K4.out h) (bv (x * F.inv y))
      have T5 := ownsRow_setCell_other (a := ⟨g, L.length - Q.length, none⟩) S1.out (fun h => hLg.out h) (bv (x * F.inv y))
      have T6 : Below w.heap.size w (wr.setCell ⟨g, L.length - Q.length, none⟩ (bv (x * F.inv y))) := S4.out.setCell hgB _
      have hgl := (S2.out.lt g rfl).2
      have U3 := Lib.hid T3
      have U4 := Lib.hid T4
      have U5 := Lib.hid T5
      have U6 := Lib.hid T6
      have f6 : L.length - Q.length < N := by omega
      have f7 : ((L.length - Q.length : Nat) : Int) < (N : Int) := by omega
      clear T3 T4 T5 T6 hk1 hk2
      go_wp2_with (first
        | (go_at_call 37; (with_reducible refine (poly_scaled (fp b) (· * ·) _ _ _ _ _ _ ?_ ?_ ?_).mono ?_); (exact (HG.out.below (below_drewN U6.out _)).fd); (exact own_sl (own_drewN U4.out _)); omega; rintro e w5 ⟨A6, c6, rfl, hm⟩; have HM := Lib.hid hm; have hs5 := hm.bel.size; clear hm)
        | (go_at_call 36; (with_reducible refine (poly_sum2 _ _ _ _ _ _ _ ?_ ?_ ?_ ?_).mono ?_); (exact own_sl (own_below (own_drewN U5.out _) HM.out.bel)); (exact HM.out.bs); omega; (rw [length_scaled]; omega); rintro e w6 ⟨A7, c7, rfl, hm⟩; have HM2 := Lib.hid hm; have hs6 := hm.bel.size; clear hm))
      have hs5' : wr.heap.size ≤ w5.heap.size := by simpa using hs5
      have hbf := below_drewN U6.out nq
      have hlt2 := S5.out.2
      have V1 := own_below (own_below (own_drewN U3.out.1 nq) HM.out.bel) HM2.out.bel
      have V2 := own_below (own_below (own_drewN U4.out nq) HM.out.bel) HM2.out.bel
      have V3 : Below w.heap.size w w6 := (hbf.trans (HM.out.bel.mono (by simp; omega))).trans (HM2.out.bel.mono (by omega))
      have V4 := own_mono HM2.out.own (show w.heap.size ≤ w5.heap.size by omega)
      have V5 : Hid ((Value.slice A7 (norm (padd L (scaled (· * ·) Q (x * F.inv y) (L.length - Q.length)))).length c7).ownBlock ≠ some g) := fun h => by have := (HM2.out.own.lt g h).1; omega
      have V6 : Hid (cf p = cf (o.set (L.length - Q.length) (x * F.inv y)) * cf Q + cf (norm (padd L (scaled (· * ·) Q (x * F.inv y) (L.length - Q.length))))) := by
        show _ = _
        rw [cf_norm]; exact S5.out.1
      have V7 : Hid (∀ j, j + Q.length ≤ (norm (padd L (scaled (· * ·) Q (x * F.inv y) (L.length - Q.length)))).length → (o.set (L.length - Q.length) (x * F.inv y)).getD j 0 = 0) := fun j hj => by
        rw [getD_set_ne _ _ _ _ (by omega)]; exact hz.out j (by omega)
      have W1 := Lib.hid V1
      have W2 := Lib.hid V2
      have W3 := Lib.hid V3
      have W4 := Lib.hid V4
      have W5 := Lib.hid hlt2
      have W6 : Hid ((norm (padd L (scaled (· * ·) Q (x * F.inv y) (L.length - Q.length)))).length ≤ N) := by show _ ≤ _; omega
      clear V1 V2 V3 V4 hlt2 hbf
      go_roundw
      case rel => exact ⟨_, A7, c7, o.set (L.length - Q.length) (x * F.inv y), rfl, W6.out, norm_norm _, W4.out, V5, W1.out, by show _ = _; rw [List.length_set]; exact hol.out, V6, V7, W2.out, W3.out⟩
      case measure => simp; exact W5.out
    · have hdec : decide (Q.length ≤ L.length) = false := decide_eq_false hlt
      have hsl := own_sl hoo
      have hn := poly_norm (some ⟨g, 0, none⟩) N o wr hsl (by have := hol.out; omega)
      rw [hol.out] at hn
      have S1 := Lib.hid hLo
      have S4 := Lib.hid hb
      have S5 : Hid (IsDiv p q (norm o) L) := ⟨norm_norm o, hLn.out, by
        rw [cf_norm, heq.out, K8.out], by rw [HQ2.out]; omega⟩
      have S6 := Lib.hid hn
      clear hLo hoo hby hb hn hsl heq
      go_wp2_with (go_at_call 17; (with_reducible refine S6.out.mono ?_); rintro e w6 ⟨A7, c7, rfl, hm⟩; have HM2 := Lib.hid hm; clear hm)
      go_ret3
      exact ⟨norm o, L, A7, c7, A5, c5, rfl, S5.out, HM2.out.bs, own_sl (own_below S1.out HM2.out.bel), S4.out.trans (HM2.out.bel.mono hbs)⟩

end Go.Proofs.Ytmcamamfpefffaa
