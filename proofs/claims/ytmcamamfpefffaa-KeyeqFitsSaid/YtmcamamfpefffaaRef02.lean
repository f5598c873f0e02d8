/- The document's answer for layer 2 (aumbryref02), walked. -/
import Derived.Test.YtmcamamfpefffaaPolyW
import Derived.Test.YtmcamamfpefffaaSame
import Derived.Test.YtmcamamfpefffaaApp
namespace Go.Proofs.Ytmcamamfpefffaa
open Go.RowKit
theorem cf_take_succ (q : List F) (n : Nat) : cf (q.take (n + 1)) = cf (q.take n) + Xs n (S.C (q.getD n 0)) := S.ext fun j => by
  rw [S.at_add, at_cf, at_cf, List.getD_eq_getElem?_getD, List.getElem?_take, List.getD_eq_getElem?_getD, List.getElem?_take]
  rcases Nat.lt_trichotomy j n with h1 | h1 | h1
  · rw [if_pos (by omega), if_pos h1, at_Xs_lt _ _ _ h1, F.add_zero]
  · subst h1
    rw [if_pos (by omega), if_neg (by omega)]
    have := at_Xs j (S.C (q.getD j 0)) 0
    rw [Nat.add_zero] at this
    rw [this, S.at_C, if_pos rfl, List.getD_eq_getElem?_getD]
    exact (F.zero_add _).symm
  · rw [if_neg (by omega), if_neg (by omega)]
    obtain ⟨d, rfl⟩ : ∃ d, j = n + d := ⟨j - n, by omega⟩
    rw [at_Xs, S.at_C, if_neg (by omega)]
    exact (F.zero_add _).symm
theorem Xs_Xs : ∀ (i k : Nat) (f : S), Xs i (Xs k f) = Xs (i + k) f
  | 0, k, f => by rw [Nat.zero_add]; rfl
  | i + 1, k, f => by rw [show i + 1 + k = (i + k) + 1 by omega]; simp only [Xs]; rw [Xs_Xs i k f]
theorem C_Xs (a : F) (k : Nat) (f : S) : S.C a * Xs k f = Xs k (S.C a * f) := by rw [S.mul_comm, Xs_mul, S.mul_comm]
theorem cf_set_add (l : List F) (j : Nat) (x : F) (h : j < l.length) : cf (l.set j (l.getD j 0 + x)) = cf l + Xs j (S.C x) := S.ext fun i => by
  rw [S.at_add, at_cf, at_cf]
  rcases Nat.lt_trichotomy i j with h1 | h1 | h1
  · rw [getD_set_ne _ _ _ _ (by omega), at_Xs_lt _ _ _ h1, F.add_zero]
  · subst h1
    rw [getD_set_eq _ _ _ h]
    have := at_Xs i (S.C x) 0
    rw [Nat.add_zero] at this
    rw [this, S.at_C, if_pos rfl]
  · rw [getD_set_ne _ _ _ _ (by omega)]
    obtain ⟨d, rfl⟩ : ∃ d, i = j + d := ⟨i - j, by omega⟩
    rw [at_Xs, S.at_C, if_neg (by omega), F.add_zero]
/-- norm, from the top down -/
theorem norm_take_step {p : List F} {m : Nat} (h0 : p.getD m 0 = 0) : norm (p.take (m + 1)) = norm (p.take m) :=
  norm_congr (by rw [cf_take_succ, h0, S.C_zero]; rw [show Xs m 0 = 0 from S.ext fun i => by
    rcases Nat.lt_or_ge i m with h | h
    · rw [at_Xs_lt _ _ _ h]; rfl
    · obtain ⟨d, rfl⟩ : ∃ d, i = m + d := ⟨i - m, by omega⟩
      rw [at_Xs]; rfl]; rw [S.add_zero])
theorem norm_take_stop {p : List F} {m : Nat} (hm : m + 1 ≤ p.length) (h0 : p.getD m 0 ≠ 0) : norm (p.take (m + 1)) = p.take (m + 1) :=
  norm_self_of fun _ => by
    rw [at_cf, List.length_take, Nat.min_eq_left hm, List.getD_eq_getElem?_getD, List.getElem?_take, if_pos (by omega), ← List.getD_eq_getElem?_getD]
    exact h0
theorem Bs.take {w : World} {A : Option Addr} {c : Nat} {l : List F} (h : Bs w A c l) (k : Nat) : Bs w A c (l.take k) := by
  refine ⟨by have := h.le; simp at this ⊢; omega, h.mx, ?_⟩
  rcases h.cells with h0 | ⟨b, o, hA, hb, hc⟩
  · left
    have : l = [] := by simpa using h0
    rw [this, List.take_nil]; rfl
  · refine .inr ⟨b, o, hA, hb, fun i v hv => hc i v ?_⟩
    rw [List.map_take, List.getElem?_take] at hv
    split at hv
    · exact hv
    · cases hv
theorem norm_stop {p : List F} {m : Nat} (hm : m ≤ p.length) (h : norm p = p.take m) : m = (norm p).length := by rw [h, List.length_take]; omega
set_option maxRecDepth 100000 in
theorem ref_norm (A : Option Addr) (c : Nat) (p : List F) (w : World) (ha : Bs w A c p) (hl : p.length ≤ 140737488351232) :
    Calls Try.prog 32 #[.slice A p.length c] w fun e w' => ∃ A' c', e = .returned (.slice A' (norm p).length c') ∧ Made w w' A' c' (norm p) := by
  have HA := Lib.hid ha
  clear ha
  go_enter Try.func32, Try.ntmps32
  go_wp2
  go_loopw [3] (fun v wr => ∃ m : Nat, m ≤ p.length ∧ v = .int .i64 m ∧ Hid (norm (p.take m) = norm p) ∧ Below w.heap.size w wr) (fun v _ => (intOf v).toNat)
  case atStart => exact ⟨p.length, Nat.le_refl _, rfl, by rw [List.take_length]; rfl, Below.refl _ _⟩
  case round =>
    obtain ⟨m, hm, rfl, HN, hb⟩ := hrel
    have hbs := hb.size
    have hcap := HA.out.len
    cases m with
    | zero =>
      have HNP : Hid (norm p = p.take 0) := by rw [← HN.out]; rfl
      have HB := Lib.hid hb
      have HP := Lib.hid (HA.out.below hb)
      clear hb HN HA
      cases A with
      | none =>
        go_wp2_with (at_builtin; refine app_bytes _ rfl _ _ rfl wr.heap.size _ _ 0 [] rfl (World.ownsRow_lit wr #[] 0 (Nat.le_refl _) (Nat.zero_le _) rfl) _ _ 0 (p.take 0) rfl (Sl.alloc (Bs.take HP.out 0) _) rfl ?b ?z ?_)
        case b => omega
        case z => simp
        intro A' c' w' hown hb'
        have HO := Lib.hid hown
        have HB2 := Lib.hid hb'
        clear hown hb'
        go_wp2
        go_ret
        exact ⟨A', c', by rw [HNP.out]; rfl, by rw [HNP.out]; exact own_mono HO.out hbs, (HB.out.alloc hbs _).trans (HB2.out.mono hbs)⟩
      | some ad =>
        go_wp2_with (at_builtin; refine app_bytes _ rfl _ _ rfl wr.heap.size _ _ 0 [] rfl (World.ownsRow_lit wr #[] 0 (Nat.le_refl _) (Nat.zero_le _) rfl) _ _ 0 (p.take 0) rfl (Sl.alloc (Bs.take HP.out 0) _) rfl ?b ?z ?_)
        case b => omega
        case z => simp
        intro A' c' w' hown hb'
        have HO := Lib.hid hown
        have HB2 := Lib.hid hb'
        clear hown hb'
        go_wp2
        go_ret
        exact ⟨A', c', by rw [HNP.out]; rfl, by rw [HNP.out]; exact own_mono HO.out hbs, (HB.out.alloc hbs _).trans (HB2.out.mono hbs)⟩
    | succ m =>
      obtain ⟨b2, off, hA, hbl, hc⟩ := Bs.at' (HA.out.below hb) (by omega)
      subst hA
      have hcell := hc m (by omega)
      have e1 : ((m + 1 : Nat) : Int) - 1 = (m : Int) := by omega
      have e2 : (0 : Int) < ((m + 1 : Nat) : Int) := by omega
      have hml : (m : Int) < (p.length : Int) := by omega
      have HB := Lib.hid hb
      have HP := Lib.hid (HA.out.below hb)
      clear hb HA hc
      by_cases hz : p.getD m 0 = 0
      · have ht : (((p.getD m 0).n : Int) == 0) = true := by rw [hz]; rfl
        have HN2 : Hid (norm (p.take m) = norm p) := (norm_take_step hz).symm.trans HN.out
        clear hz
        generalize p.getD m 0 = y at *
        go_wp2
        go_roundw
        case rel => exact ⟨m, by omega, by go_num, HN2, HB.out⟩
        case measure => simp [intOf]
      · have ht : (((p.getD m 0).n : Int) == 0) = false := by simp; intro h; exact hz (F.ext h)
        have HNP : Hid (norm p = p.take (m + 1)) := HN.out.symm.trans (norm_take_stop hm hz)
        have hlen := norm_stop hm HNP.out
        have hle : (List.take (m + 1) p).length = m + 1 := by rw [List.length_take]; omega
        have HLEN := Lib.hid hlen
        have HLE := Lib.hid hle
        clear hz hlen hle
        generalize p.getD m 0 = y at *
        go_wp2_with (at_builtin; refine app_bytes _ rfl _ _ rfl wr.heap.size _ _ 0 [] rfl (World.ownsRow_lit wr #[] 0 (Nat.le_refl _) (Nat.zero_le _) rfl) _ _ (m + 1) (p.take (m + 1)) rfl (Sl.alloc (Bs.take HP.out (m + 1)) _) HLE.out ?b ?z ?_)
        case b => omega
        case z => simp
        intro A' c' w' hown hb'
        have HO := Lib.hid hown
        have HB2 := Lib.hid hb'
        clear hown hb'
        go_wp2
        go_ret
        exact ⟨A', c', by rw [← HLEN.out]; simp, by rw [HNP.out, HLE.out]; simpa using own_mono HO.out hbs, (HB.out.alloc hbs _).trans (HB2.out.mono hbs)⟩
set_option maxRecDepth 100000 in
theorem ref_at (A : Option Addr) (c : Nat) (p : List F) (i : Nat) (hi : i ≤ 9223372036854775807) (w : World) (ha : Bs w A c p) :
    Calls Try.prog 40 #[.slice A p.length c, .int .i64 i] w fun e w' => e = .returned (.int .u8 (p.getD i 0).n) ∧ w = w' := by
  have HA := Lib.hid ha
  clear ha
  by_cases hlt : i < p.length
  · obtain ⟨b2, off, hA, hbl, hc⟩ := Bs.at' HA.out (by omega)
    subst hA
    have hcell := hc i hlt
    clear hc HA
    generalize p.getD i 0 = y at *
    go_enter Try.func40, Try.ntmps40
    go_wp2
    go_ret
    exact ⟨rfl, rfl⟩
  · have hz : p.getD i 0 = 0 := cf_ge (p := p) (by omega)
    have HZ := Lib.hid hz
    clear hz HA
    go_enter Try.func40, Try.ntmps40
    go_wp2
    go_ret
    exact ⟨by rw [HZ.out]; rfl, rfl⟩
def addF (p q : List F) (j : Nat) : F := p.getD j 0 + q.getD j 0
theorem padd_tab (p q : List F) : padd p q = tab (max p.length q.length) (addF p q) := by
  refine ext_getD (by rw [length_padd, length_tab]) fun i hi => ?_
  rw [length_padd] at hi
  rw [getD_tab _ hi]
  exact congrFun (cf_padd p q) i
theorem tab_succ (n : Nat) (f : Nat → F) : tab (n + 1) f = tab n f ++ [f n] := by simp [tab, List.range_succ]
theorem eval_snoc (x a : F) : ∀ (l : List F), eval (l ++ [a]) x = eval l x + a * x.pow l.length
  | [] => by
    rw [List.nil_append]
    simp only [eval, List.length_nil]
    rw [F.pow_zero, F.mul_one, F.mul_zero, F.add_zero, F.zero_add]
  | b :: l => by
    simp only [List.cons_append, eval, List.length_cons]
    rw [eval_snoc x a l, F.mul_add, F.add_assoc, F.pow_succ, F.mul_left_comm]
theorem eval_take_succ (p : List F) (x : F) (m : Nat) (h : m < p.length) : eval (p.take (m + 1)) x = eval (p.take m) x + p.getD m 0 * x.pow m := by
  rw [List.take_succ_eq_append_getElem h, eval_snoc, List.length_take, Nat.min_eq_left (by omega), List.getD_eq_getElem?_getD, List.getElem?_eq_getElem h]; rfl
def derF (p : List F) (i : Nat) : F := if i % 2 = 0 then p.getD (i + 1) 0 else 0
theorem derivL_tab (p : List F) : norm (derivL p) = norm (tab (p.length - 1) (derF p)) := by
  refine norm_congr (S.ext fun i => ?_)
  rw [at_cf, at_cf]
  have h1 : derivL p = tab p.length (derF p) := rfl
  rcases Nat.lt_or_ge i (p.length - 1) with h | h
  · rw [h1, getD_tab _ (by omega), getD_tab _ h]
  · have h2 : (tab (p.length - 1) (derF p)).getD i 0 = 0 := cf_ge (p := tab (p.length - 1) (derF p)) (by rw [length_tab]; exact h)
    rw [h2, h1]
    rcases Nat.lt_or_ge i p.length with h3 | h3
    · rw [getD_tab _ h3, derF]
      split
      · exact cf_ge (p := p) (by omega)
      · rfl
    · exact cf_ge (p := tab p.length (derF p)) (by rw [length_tab]; exact h3)
end Go.Proofs.Ytmcamamfpefffaa
