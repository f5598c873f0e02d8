/- The document's answer for layer 2 (aumbryref02), walked. -/
import Derived.Test.YtoofmblmbgdeeaaPolyW
import Derived.Test.YtoofmblmbgdeeaaSame
import Derived.Test.YtoofmblmbgdeeaaApp
namespace Go.Proofs.Ytoofmblmbgdeeaa
open Go.RowKit
theorem cf_take_succ (q : List F) (n : Nat) : cf (q.take (n + 1)) = cf (q.take n) + Xs n (S.C (q.getD n 0)) := S.ext fun j => by
  rw [S.at_add, at_cf, at_cf, List.getD_eq_getElem?_getD, List.getElem?_take, List.getD_eq_getElem?_getD, List.getElem?_take]
  rcases Nat.lt_trichotomy j n with h1 | h1 | h1
  · rw [if_pos (by omega), if_pos h1, at_Xs_lt _ _ _ h1, F.add_zero]
  · subst h1
    rw [if_pos (by omega), if_neg (by omega)]
    have := at_Xs j (S.C (q.getD j 0)) 0
    rw [Nat.add_zero] at this
    rw [this, S.at_C, if_pos rfl, List.getD_eq_getElem?_getD]
    exact (F.zero_add _).symm
  · rw [if_neg (by omega), if_neg (by omega)]
    obtain ⟨d, rfl⟩ : ∃ d, j = n + d := ⟨j - n, by omega⟩
    rw [at_Xs, S.at_C, if_neg (by omega)]
    exact (F.zero_add _).symm
theorem Xs_Xs : ∀ (i k : Nat) (f : S), Xs i (Xs k f) = Xs (i + k) f
  | 0, k, f => by rw [Nat.zero_add]; rfl
  | i + 1, k, f => by rw [show i + 1 + k = (i + k) + 1 by omega]; simp only [Xs]; rw [Xs_Xs i k f]
theorem C_Xs (a : F) (k : Nat) (f : S) : S.C a * Xs k f = Xs k (S.C a * f) := by rw [S.mul_comm, Xs_mul, S.mul_comm]
theorem cf_set_add (l : List F) (j : Nat) (x : F) (h : j < l.length) : cf (l.set j (l.getD j 0 + x)) = cf l + Xs j (S.C x) := S.ext fun i => by
  rw [S.at_add, at_cf, at_cf]
  rcases Nat.lt_trichotomy i j with h1 | h1 | h1
  · rw [getD_set_ne _ _ _ _ (by omega), at_Xs_lt _ _ _ h1, F.add_zero]
  · subst h1
    rw [getD_set_eq _ _ _ h]
    have := at_Xs i (S.C x) 0
    rw [Nat.add_zero] at this
    rw [this, S.at_C, if_pos rfl]
  · rw [getD_set_ne _ _ _ _ (by omega)]
    obtain ⟨d, rfl⟩ : ∃ d, i = j + d := ⟨i - j, by omega⟩
    rw [at_Xs, S.at_C, if_neg (by omega), F.add_zero]
/-- norm, from the top down -/
theorem norm_take_step {p : List F} {m : Nat} (h0 : p.getD m 0 = 0) : norm (p.take (m + 1)) = norm (p.take m) :=
  norm_congr (by rw [cf_take_succ, h0, S.C_zero]; rw [show Xs m 0 = 0 from S.ext fun i => by
    rcases Nat.lt_or_ge i m with h | h
    · rw [at_Xs_lt _ _ _ h]; rfl
    · obtain ⟨d, rfl⟩ : ∃ d, i = m + d := ⟨i - m, by omega⟩
      rw [at_Xs]; rfl]; rw [S.add_zero])
theorem norm_take_stop {p : List F} {m : Nat} (hm : m + 1 ≤ p.length) (h0 : p.getD m 0 ≠ 0) : norm (p.take (m + 1)) = p.take (m + 1) :=
  norm_self_of fun _ => by
    rw [at_cf, List.length_take, Nat.min_eq_left hm, List.getD_eq_getElem?_getD, List.getElem?_take, if_pos (by omega), ← List.getD_eq_getElem?_getD]
    exact h0
theorem Bs.take {w : World} {A : Option Addr} {c : Nat} {l : List F} (h : Bs w A c l) (k : Nat) : Bs w A c (l.take k) := by
  refine ⟨by have := h.le; simp at this ⊢; omega, h.mx, ?_⟩
  rcases h.cells with h0 | ⟨b, o, hA, hb, hc⟩
  · left
    have : l = [] := by simpa using h0
    rw [this, List.take_nil]; rfl
  · refine .inr ⟨b, o, hA, hb, fun i v hv => hc i v ?_⟩
    rw [List.map_take, List.getElem?_take] at hv
    split at hv
    · exact hv
    · cases hv
theorem norm_stop {p : List F} {m : Nat} (hm : m ≤ p.length) (h : norm p = p.take m) : m = (norm p).length := by rw [h, List.length_take]; omega
set_option maxRecDepth 100000 in
theorem ref_norm (A : Option Addr) (c : Nat) (p : List F) (w : World) (ha : Bs w A c p) (hl : p.length ≤ 140737488351232) :
    Calls Try.prog 45 #[.slice A p.length c] w fun e w' => ∃ A' c', e = .returned (.slice A' (norm p).length c') ∧ Made w w' A' c' (norm p) := by
  have HA := Lib.hid ha
  clear ha
  go_enter Try.func45, Try.ntmps45
  go_wp2
  go_loopw [3] (fun v wr => ∃ m : Nat, m ≤ p.length ∧ v = .int .i64 m ∧ Hid (norm (p.take m) = norm p) ∧ Below w.heap.size w wr) (fun v _ => (intOf v).toNat)
  case atStart => exact ⟨p.length, Nat.le_refl _, rfl, by rw [List.take_length]; rfl, Below.refl _ _⟩
  case round =>
    obtain ⟨m, hm, rfl, HN, hb⟩ := hrel
    have hbs := hb.size
    have hcap := HA.out.len
    cases m with
    | zero =>
      have HNP : Hid (norm p = p.take 0) := by rw [← HN.out]; rfl
      have HB := Lib.hid hb
      have HP := Lib.hid (HA.out.below hb)
      clear hb HN HA
      cases A with
      | none =>
        go_wp2_with (at_builtin; refine app_bytes _ rfl _ _ rfl wr.heap.size _ _ 0 [] rfl (World.ownsRow_lit wr #[] 0 (Nat.le_refl _) (Nat.zero_le _) rfl) _ _ 0 (p.take 0) rfl (Sl.alloc (Bs.take HP.out 0) _) rfl ?b ?z ?_)
        case b => omega
        case z => simp
        intro A' c' w' hown hb'
        have HO := Lib.hid hown
        have HB2 := Lib.hid hb'
        clear hown hb'
        go_wp2
        go_ret
        exact ⟨A', c', by rw [HNP.out]; rfl, by rw [HNP.out]; exact own_mono HO.out hbs, (HB.out.alloc hbs _).trans (HB2.out.mono hbs)⟩
      | some ad =>
        go_wp2_with (at_builtin; refine app_bytes _ rfl _ _ rfl wr.heap.size _ _ 0 [] rfl (World.ownsRow_lit wr #[] 0 (Nat.le_refl _) (Nat.zero_le _) rfl) _ _ 0 (p.take 0) rfl (Sl.alloc (Bs.take HP.out 0) _) rfl ?b ?z ?_)
        case b => omega
        case z => simp
        intro A' c' w' hown hb'
        have HO := Lib.hid hown
        have HB2 := Lib.hid hb'
        clear hown hb'
        go_wp2
        go_ret
        exact ⟨A', c', by rw [HNP.out]; rfl, by rw [HNP.out]; exact own_mono HO.out hbs, (HB.out.alloc hbs _).trans (HB2.out.mono hbs)⟩
    | succ m =>
      obtain ⟨b2, off, hA, hbl, hc⟩ := Bs.at' (HA.out.below hb) (by omega)
      subst hA
      have hcell := hc m (by omega)
      have e1 : ((m + 1 : Nat) : Int) - 1 = (m : Int) := by omega
      have e2 : (0 : Int) < ((m + 1 : Nat) : Int) := by omega
      have hml : (m : Int) < (p.length : Int) := by omega
      have HB := Lib.hid hb
      have HP := Lib.hid (HA.out.below hb)
      clear hb HA hc
      by_cases hz : p.getD m 0 = 0
      · have ht : (((p.getD m 0).n : Int) == 0) = true := by rw [hz]; rfl
        have HN2 : Hid (norm (p.take m) = norm p) := (norm_take_step hz).symm.trans HN.out
        clear hz
        generalize p.getD m 0 = y at *
        go_wp2
        go_roundw
        case rel => exact ⟨m, by omega, by go_num, HN2, HB.out⟩
        case measure => simp [intOf]
      · have ht : (((p.getD m 0).n : Int) == 0) = false := by simp; intro h; exact hz (F.ext h)
        have HNP : Hid (norm p = p.take (m + 1)) := HN.out.symm.trans (norm_take_stop hm hz)
        have hlen := norm_stop hm HNP.out
        have hle : (List.take (m + 1) p).length = m + 1 := by rw [List.length_take]; omega
        have HLEN := Lib.hid hlen
        have HLE := Lib.hid hle
        clear hz hlen hle
        generalize p.getD m 0 = y at *
        go_wp2_with (at_builtin; refine app_bytes _ rfl _ _ rfl wr.heap.size _ _ 0 [] rfl (World.ownsRow_lit wr #[] 0 (Nat.le_refl _) (Nat.zero_le _) rfl) _ _ (m + 1) (p.take (m + 1)) rfl (Sl.alloc (Bs.take HP.out (m + 1)) _) HLE.out ?b ?z ?_)
        case b => omega
        case z => simp
        intro A' c' w' hown hb'
        have HO := Lib.hid hown
        have HB2 := Lib.hid hb'
        clear hown hb'
        go_wp2
        go_ret
        exact ⟨A', c', by rw [← HLEN.out]; simp, by rw [HNP.out, HLE.out]; simpa using own_mono HO.out hbs, (HB.out.alloc hbs _).trans (HB2.out.mono hbs)⟩
set_option maxRecDepth 100000 in
theorem ref_at (A : Option Addr) (c : Nat) (p : List F) (i : Nat) (hi : i ≤ 9223372036854775807) (w : World) (ha : Bs w A c p) :
    Calls Try.prog 66 #[.slice A p.length c, .int .i64 i] w fun e w' => e = .returned (.int .u8 (p.getD i 0).n) ∧ w = w' := by
  have HA := Lib.hid ha
  clear ha
  by_cases hlt : i < p.length
  · obtain ⟨b2, off, hA, hbl, hc⟩ := Bs.at' HA.out (by omega)
    subst hA
    have hcell := hc i hlt
    clear hc HA
    generalize p.getD i 0 = y at *
    go_enter Try.func66, Try.ntmps66
    go_wp2
    go_ret
    exact ⟨rfl, rfl⟩
  · have hz : p.getD i 0 = 0 := cf_ge (p := p) (by omega)
    have HZ := Lib.hid hz
    clear hz HA
    go_enter Try.func66, Try.ntmps66
    go_wp2
    go_ret
    exact ⟨by rw [HZ.out]; rfl, rfl⟩
def addF (p q : List F) (j : Nat) : F := p.getD j 0 + q.getD j 0
theorem padd_tab (p q : List F) : padd p q = tab (max p.length q.length) (addF p q) := by
  refine ext_getD (by rw [length_padd, length_tab]) fun i hi => ?_
  rw [length_padd] at hi
  rw [getD_tab _ hi]
  exact congrFun (cf_padd p q) i
theorem tab_succ (n : Nat) (f : Nat → F) : tab (n + 1) f = tab n f ++ [f n] := by simp [tab, List.range_succ]
set_option maxRecDepth 100000 in
theorem ref_padd (A : Option Addr) (c : Nat) (p : List F) (A2 : Option Addr) (c2 : Nat) (q : List F) (w : World) (ha : Bs w A c p) (ha2 : Bs w A2 c2 q) (hl : p.length ≤ 1000000) (hl2 : q.length ≤ 1000000) :
    Calls Try.prog 47 #[.slice A p.length c, .slice A2 q.length c2] w fun e w' => ∃ A' c', e = .returned (.slice A' (norm (padd p q)).length c') ∧ Made w w' A' c' (norm (padd p q)) := by
  have HA := Lib.hid ha
  have HA2 := Lib.hid ha2
  clear ha ha2
  go_enter Try.func47, Try.ntmps47
  go_wp2
  go_loopw [5, 6] (fun v i wr => ∃ (m : Nat) (A' : Option Addr) (c' : Nat), m ≤ max p.length q.length ∧ i = .int .i64 m ∧ v = .slice A' m c' ∧ wr.ownsRow w.heap.size 5 1 (.slice A' m c') m ((tab m (addF p q)).map bv) ∧ Below w.heap.size w wr) (fun _ i _ => max p.length q.length - (intOf i).toNat)
  case atStart => exact ⟨0, none, 0, Nat.zero_le _, rfl, rfl, World.ownsRow_nil _ _ _ _, Below.refl _ _⟩
  case round =>
    obtain ⟨m, A1, c1, hm, rfl, rfl, hown, hb⟩ := hrel
    have hbs := hb.size
    have HO := Lib.hid hown
    have HB := Lib.hid hb
    have HP := Lib.hid (HA.out.below hb)
    have HQ := Lib.hid (HA2.out.below hb)
    have HT : Hid (tab (m + 1) (addF p q) = tab m (addF p q) ++ [p.getD m 0 + q.getD m 0]) := tab_succ m (addF p q)
    have at1 : m ≤ 1000000 → Calls Try.prog 66 #[.slice A p.length c, .int .i64 m] wr fun e w' => e = .returned (.int .u8 (p.getD m 0).n) ∧ wr = w' := fun h => ref_at A c p m (by omega) wr HP.out
    have at2 : m ≤ 1000000 → Calls Try.prog 66 #[.slice A2 q.length c2, .int .i64 m] wr fun e w' => e = .returned (.int .u8 (q.getD m 0).n) ∧ wr = w' := fun h => ref_at A2 c2 q m (by omega) wr HQ.out
    have AT1 := Lib.hid at1
    have AT2 := Lib.hid at2
    clear hown hb at1 at2
    by_cases hlt : m < max p.length q.length
    · have hxor := xor_n (p.getD m 0) (q.getD m 0)
      generalize p.getD m 0 = y at *
      generalize q.getD m 0 = z at *
      by_cases h1 : m < p.length
      · have d1 : decide (m < p.length) = true := decide_eq_true h1
        go_wp2_with (first
          | (go_at_call 66; (with_reducible refine (AT1.out ?_).mono ?_); omega; rintro e w1 ⟨rfl, rfl⟩)
          | (go_at_call 66; (with_reducible refine (AT2.out ?_).mono ?_); omega; rintro e w1 ⟨rfl, rfl⟩)
          | (at_builtin; refine app_bytes _ rfl _ _ rfl w.heap.size _ _ m (tab m (addF p q)) rfl (HO.out.alloc _) _ _ 1 [y + z] rfl (lit_bs rfl rfl rfl (by decide)) rfl ?b ?z ?_; (case b => omega); (case z => simp; omega); intro A' c' w' hown hb'; rw [← HT.out] at hown; have HO2 := Lib.hid hown; have HB2 : Hid (Below w.heap.size w w') := (HB.out.alloc hbs _).trans hb'; clear hown hb'))
        go_roundw
        case rel => exact ⟨m + 1, A', c', by omega, by go_num, rfl, HO2.out, HB2.out⟩
        case measure => simp [intOf]; omega
      · have d1 : decide (m < p.length) = false := decide_eq_false h1
        have h2 : m < q.length := by omega
        have d2 : decide (m < q.length) = true := decide_eq_true h2
        go_wp2_with (first
          | (go_at_call 66; (with_reducible refine (AT1.out ?_).mono ?_); omega; rintro e w1 ⟨rfl, rfl⟩)
          | (go_at_call 66; (with_reducible refine (AT2.out ?_).mono ?_); omega; rintro e w1 ⟨rfl, rfl⟩)
          | (at_builtin; refine app_bytes _ rfl _ _ rfl w.heap.size _ _ m (tab m (addF p q)) rfl (HO.out.alloc _) _ _ 1 [y + z] rfl (lit_bs rfl rfl rfl (by decide)) rfl ?b ?z ?_; (case b => omega); (case z => simp; omega); intro A' c' w' hown hb'; rw [← HT.out] at hown; have HO2 := Lib.hid hown; have HB2 : Hid (Below w.heap.size w w') := (HB.out.alloc hbs _).trans hb'; clear hown hb'))
        go_roundw
        case rel => exact ⟨m + 1, A', c', by omega, by go_num, rfl, HO2.out, HB2.out⟩
        case measure => simp [intOf]; omega
    · have hme : m = max p.length q.length := by omega
      have d1 : decide (m < p.length) = false := decide_eq_false (by omega)
      have d2 : decide (m < q.length) = false := decide_eq_false (by omega)
      have hn : ∀ (A : Option Addr) (c : Nat) (w : World), Bs w A c (tab m (addF p q)) → Calls Try.prog 45 #[.slice A m c] w fun e w' => ∃ A' c', e = .returned (.slice A' (norm (padd p q)).length c') ∧ Made w w' A' c' (norm (padd p q)) := fun A c w h => by
        rw [hme, ← padd_tab] at h
        have := ref_norm A c (padd p q) w h (by rw [length_padd]; omega)
        rwa [length_padd, ← hme] at this
      have HN := Lib.hid hn
      clear hn hme hm hlt
      go_wp2_with (go_at_call 45; (with_reducible refine (HN.out _ _ _ ?_).mono ?_); (exact own_sl HO.out); rintro e w' ⟨A', c', rfl, hmade⟩; have HM := Lib.hid hmade; clear hmade)
      go_ret
      exact ⟨A', c', rfl, own_mono HM.out.own hbs, HB.out.trans (HM.out.bel.mono hbs)⟩
theorem eval_snoc (x a : F) : ∀ (l : List F), eval (l ++ [a]) x = eval l x + a * x.pow l.length
  | [] => by
    rw [List.nil_append]
    simp only [eval, List.length_nil]
    rw [F.pow_zero, F.mul_one, F.mul_zero, F.add_zero, F.zero_add]
  | b :: l => by
    simp only [List.cons_append, eval, List.length_cons]
    rw [eval_snoc x a l, F.mul_add, F.add_assoc, F.pow_succ, F.mul_left_comm]
theorem eval_take_succ (p : List F) (x : F) (m : Nat) (h : m < p.length) : eval (p.take (m + 1)) x = eval (p.take m) x + p.getD m 0 * x.pow m := by
  rw [List.take_succ_eq_append_getElem h, eval_snoc, List.length_take, Nat.min_eq_left (by omega), List.getD_eq_getElem?_getD, List.getElem?_eq_getElem h]; rfl
set_option maxRecDepth 100000 in
theorem ref_eval (A : Option Addr) (c : Nat) (p : List F) (x : F) (w : World) (ha : Bs w A c p) :
    Calls Try.prog 55 #[.slice A p.length c, .int .u8 x.n] w fun e w' => e = .returned (.int .u8 (eval p x).n) ∧ Below w.heap.size w w' := by
  have hpl : p.length ≤ 9223372036854775807 := by have := ha.len; have := ha.mx; unfold maxLen at this; omega
  have HA := Lib.hid ha
  clear ha
  go_enter Try.func55, Try.ntmps55
  go_wp2
  go_loopw [5, 6, 7] (fun o k i wr => ∃ m : Nat, m ≤ p.length ∧ i = .int .i64 m ∧ o = .int .u8 (eval (p.take m) x).n ∧ k = .int .u8 (x.pow m).n ∧ Below w.heap.size w wr) (fun _ _ i _ => p.length - (intOf i).toNat)
  case atStart => exact ⟨0, by omega, rfl, rfl, rfl, Below.refl _ _⟩
  case round =>
    obtain ⟨m, hm, rfl, rfl, rfl, hb⟩ := hrel
    by_cases hlt : m < p.length
    · obtain ⟨b2, off, hA, hbl, hc⟩ := Bs.at' (HA.out.below hb) (by omega)
      subst hA
      have hcell := hc m hlt
      have HEV := Lib.hid (eval_take_succ p x m hlt)
      have HPS : Hid (x.pow (m + 1) = x.pow m * x) := by show _ = _; rw [F.pow_succ, F.mul_comm]
      have HB := Lib.hid hb
      clear hb hc HA
      generalize eval (p.take m) x = o at *
      generalize p.getD m 0 = y at *
      generalize x.pow m = k at *
      have hxor := xor_n o (y * k)
      go_wp2_with (first
        | (go_at_call 40; (with_reducible refine (ref_mul y k _).mono ?_); rintro e w1 ⟨rfl, rfl⟩)
        | (go_at_call 40; (with_reducible refine (ref_mul k x _).mono ?_); rintro e w1 ⟨rfl, rfl⟩))
      go_roundw
      case rel => exact ⟨m + 1, by omega, by go_num, by rw [HEV.out], by rw [HPS.out], HB.out⟩
      case measure => simp [intOf]; omega
    · have : m = p.length := by omega
      subst this
      have HB := Lib.hid hb
      clear hb
      rw [List.take_length]
      go_wp2
      go_ret
      exact ⟨rfl, HB.out⟩
def derF (p : List F) (i : Nat) : F := if i % 2 = 0 then p.getD (i + 1) 0 else 0
theorem derivL_tab (p : List F) : norm (derivL p) = norm (tab (p.length - 1) (derF p)) := by
  refine norm_congr (S.ext fun i => ?_)
  rw [at_cf, at_cf]
  have h1 : derivL p = tab p.length (derF p) := rfl
  rcases Nat.lt_or_ge i (p.length - 1) with h | h
  · rw [h1, getD_tab _ (by omega), getD_tab _ h]
  · have h2 : (tab (p.length - 1) (derF p)).getD i 0 = 0 := cf_ge (p := tab (p.length - 1) (derF p)) (by rw [length_tab]; exact h)
    rw [h2, h1]
    rcases Nat.lt_or_ge i p.length with h3 | h3
    · rw [getD_tab _ h3, derF]
      split
      · exact cf_ge (p := p) (by omega)
      · rfl
    · exact cf_ge (p := tab p.length (derF p)) (by rw [length_tab]; exact h3)
set_option maxRecDepth 100000 in
theorem ref_deriv (A : Option Addr) (c : Nat) (p : List F) (w : World) (ha : Bs w A c p) (hl : p.length ≤ 1000000) :
    Calls Try.prog 51 #[.slice A p.length c] w fun e w' => ∃ A' c', e = .returned (.slice A' (norm (derivL p)).length c') ∧ Made w w' A' c' (norm (derivL p)) := by
  have HA := Lib.hid ha
  clear ha
  go_enter Try.func51, Try.ntmps51
  go_wp2
  go_loopw [3, 4] (fun v i wr => ∃ (m : Nat) (A' : Option Addr) (c' : Nat), m ≤ p.length - 1 ∧ i = .int .i64 m ∧ v = .slice A' m c' ∧ wr.ownsRow w.heap.size 5 1 (.slice A' m c') m ((tab m (derF p)).map bv) ∧ Below w.heap.size w wr) (fun _ i _ => p.length - (intOf i).toNat)
  case atStart => exact ⟨0, none, 0, Nat.zero_le _, rfl, rfl, World.ownsRow_nil _ _ _ _, Below.refl _ _⟩
  case round =>
    obtain ⟨m, A1, c1, hm, rfl, rfl, hown, hb⟩ := hrel
    have hbs := hb.size
    by_cases hlt : m + 1 < p.length
    · obtain ⟨b2, off, hA, hbl, hc⟩ := Bs.at' (HA.out.below hb) (by omega)
      subst hA
      have hcell := hc (m + 1) hlt
      have hi1 : (m : Int) + 1 < (p.length : Int) := by omega
      have hi2 : ((m : Int) + 1).toNat = m + 1 := by omega
      have HO := Lib.hid hown
      have HB := Lib.hid hb
      have hbl2 := hb.size
      have hcell2 : ∀ o, (wr.alloc o).cell? ⟨b2, off + (m + 1), none⟩ = wr.cell? ⟨b2, off + (m + 1), none⟩ := fun o => (below_alloc wr o).cell hbl
      have HC2 := Lib.hid hcell2
      clear hown hb hc HA hcell2
      by_cases he : m % 2 = 0
      · have hr : ((m : Int) % 2 == 0) = true := by rw [beq_iff_eq]; omega
        have HT : Hid (tab (m + 1) (derF p) = tab m (derF p) ++ [p.getD (m + 1) 0]) := by show _ = _; rw [tab_succ, derF, if_pos he]
        clear he
        generalize p.getD (m + 1) 0 = y at *
        go_wp2_with (at_builtin; refine app_bytes _ rfl _ _ rfl w.heap.size _ _ m (tab m (derF p)) rfl (HO.out.alloc _) _ _ 1 [y] rfl (lit_bs rfl rfl rfl (by decide)) rfl ?b ?z ?_; (case b => omega); (case z => simp; omega); intro A' c' w' hown hb'; rw [← HT.out] at hown; have HO2 := Lib.hid hown; have HB2 : Hid (Below w.heap.size w w') := (HB.out.alloc hbs _).trans hb'; clear hown hb')
        go_roundw
        case rel => exact ⟨m + 1, A', c', by omega, by go_num, rfl, HO2.out, HB2.out⟩
        case measure => simp [intOf]; omega
      · have hr : ((m : Int) % 2 == 0) = false := by rw [beq_eq_false_iff_ne]; omega
        have HT : Hid (tab (m + 1) (derF p) = tab m (derF p) ++ [0]) := by show _ = _; rw [tab_succ, derF, if_neg he]
        clear he
        go_wp2_with (at_builtin; refine app_bytes _ rfl _ _ rfl w.heap.size _ _ m (tab m (derF p)) rfl (HO.out.alloc _) _ _ 1 [0] rfl (lit_bs rfl rfl rfl (by decide)) rfl ?b ?z ?_; (case b => omega); (case z => simp; omega); intro A' c' w' hown hb'; rw [← HT.out] at hown; have HO2 := Lib.hid hown; have HB2 : Hid (Below w.heap.size w w') := (HB.out.alloc hbs _).trans hb'; clear hown hb')
        go_roundw
        case rel => exact ⟨m + 1, A', c', by omega, by go_num, rfl, HO2.out, HB2.out⟩
        case measure => simp [intOf]; omega
    · have hi1 : ¬ (m : Int) + 1 < (p.length : Int) := by omega
      have hme : m = p.length - 1 := by omega
      have hn : ∀ (A : Option Addr) (c : Nat) (w : World), Bs w A c (tab m (derF p)) → Calls Try.prog 45 #[.slice A m c] w fun e w' => ∃ A' c', e = .returned (.slice A' (norm (derivL p)).length c') ∧ Made w w' A' c' (norm (derivL p)) := fun A c w h => by
        have := ref_norm A c _ w h (by rw [length_tab]; omega)
        rwa [length_tab, hme, ← derivL_tab, ← hme] at this
      have HN := Lib.hid hn
      have HO := Lib.hid hown
      have HB := Lib.hid hb
      clear hn hme hown hb
      go_wp2_with (go_at_call 45; (with_reducible refine (HN.out _ _ _ ?_).mono ?_); (exact own_sl HO.out); rintro e w' ⟨A', c', rfl, hmade⟩; have HM := Lib.hid hmade; clear hmade)
      go_ret
      exact ⟨A', c', rfl, own_mono HM.out.own hbs, HB.out.trans (HM.out.bel.mono hbs)⟩
end Go.Proofs.Ytoofmblmbgdeeaa
