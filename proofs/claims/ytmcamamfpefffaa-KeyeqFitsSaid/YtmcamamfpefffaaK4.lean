/- The document's located, walked. -/
import Derived.Test.YtmcamamfpefffaaK3
namespace Go.Proofs.Ytmcamamfpefffaa
open Go.RowKit
set_option linter.unusedVariables false
set_option linter.unusedSimpArgs false
/-- what located answers -/
def LocatedR (w : World) (p : List F) (m e t : Nat) (ed : Ending) (w' : World) : Prop :=
  Below w.heap.size w w' ∧ ((∃ l A c, ed = .returned (.tuple #[.slice A (t + 1 : Nat) c, .bool true]) ∧ Loc (cf p) m e t l ∧ (∀ l', Loc (cf p) m e t l' → l' = l) ∧ Bs w' A c l) ∨ (∃ A n c, ed = .returned (.tuple #[.slice A n c, .bool false]) ∧ ¬ Uq (cf p) m e t))
theorem solved_spn {wb w : World} {A : Option Addr} {n c t : Nat} {rs : List Row} {v : Mx} (h : MadeR wb w A n c rs) (hl : lsts rs = rowsM n (t + 1) v) :
    (0 < n → ∃ g, A = some ⟨g, 0, none⟩) ∧ ∀ g, A = some ⟨g, 0, none⟩ → Spn wb w g n c (rowsM n (t + 1) v) := by
  refine ⟨fun h0 => by obtain ⟨g, hA, _, _⟩ := own_addr h.sp h0; exact ⟨g, hA⟩, fun g hg => ?_⟩
  by_cases h0 : 0 < n
  · obtain ⟨g', hA, hsp⟩ := Spn.of h hl h0
    have : g' = g := by rw [hg] at hA; injection hA with hA; injection hA with hA _; exact hA.symm
    subst this
    exact hsp
  · obtain rfl : n = 0 := by omega
    subst hg
    exact ⟨⟨vals rs, h.sp, by rw [length_vals, ← length_lsts, hl], fun j l hj => by (have := (List.getElem?_eq_some_iff.1 hj).1; rw [length_rowsM] at this; omega)⟩, h.bel⟩
theorem SolvedR.one {wb w' : World} {n t : Nat} {v : Mx} {e : Ending} (h : SolvedR wb n t v e w') : Below wb.heap.size wb w' ∧ ∃ (bb : Bool) (A2 : Option Addr) (n2 c2 : Nat) (xs : List F), e = .returned (.tuple #[.slice A2 n2 c2, .bool bb]) ∧ w'.ownsRow wb.heap.size 5 1 (.slice A2 n2 c2) n2 (xs.map bv) ∧ n2 ≤ t ∧ ((bb = true ∧ n2 = t ∧ ∃ x, SolvR n t v true x ∧ xs = tab t x) ∨ (bb = false ∧ ∀ x, SolvR n t v false x)) := by
  obtain ⟨h1, h2⟩ := h
  refine ⟨h1, ?_⟩
  rcases h2 with ⟨x, A2, c2, he, hx, ho⟩ | ⟨he, hx⟩
  · exact ⟨true, A2, t, c2, tab t x, he, ho, Nat.le_refl _, .inl ⟨rfl, rfl, x, hx, rfl⟩⟩
  · exact ⟨false, none, 0, 0, [], he, World.ownsRow_nil _ _ _ _, Nat.zero_le _, .inr ⟨rfl, hx⟩⟩
set_option maxRecDepth 1000000 in
set_option maxHeartbeats 4000000 in
theorem ref09_located (A : Option Addr) (c : Nat) (p : List F) (m e t : Nat) (w : World) (ha : Bs w A c p) (hm : m ≤ 1000) (het : 2 * t + e ≤ m) :
    Calls Try.prog 35 #[.slice A p.length c, .int .i64 m, .int .i64 e, .int .i64 t] w (LocatedR w p m e t) := by
  have HA := Lib.hid ha
  have HPL : Hid (p.length ≤ maxLen) := Nat.le_trans ha.len ha.mx
  obtain ⟨n, hn⟩ : ∃ n, n = m - (e + t) := ⟨_, rfl⟩
  have HN := Lib.hid hn
  have AT : Hid (∀ (i : Nat) (w' : World), Below w.heap.size w w' → i ≤ 100000 → Calls Try.prog 40 #[.slice A p.length c, .int .i64 i] w' fun ed w'' => ed = .returned (.int .u8 (p.getD i 0).n) ∧ w' = w'') := fun i w' hb hi => ref_at A c p i (by omega) w' (HA.out.below hb)
  have ROW : Hid (∀ i, i < n → (rowsM n (t + 1) (locM p e t))[i]? = some (tab (t + 1) (locM p e t i))) := fun i hi => rowsM_at _ hi
  have HLL : Hid ((rowsM n (t + 1) (locM p e t)).length = n) := length_rowsM _ _ _
  have YES : Hid (∀ x, SolvR n t (locM p e t) true x → Loc (cf p) m e t (tab t x ++ [1]) ∧ ∀ l', Loc (cf p) m e t l' → l' = tab t x ++ [1]) := fun x h => by rw [HN.out] at h; exact SolvR.loc h
  have NO : Hid ((∀ x, SolvR n t (locM p e t) false x) → ¬ Uq (cf p) m e t) := fun h => by
    have := h fun _ => 0
    rw [HN.out] at this
    exact SolvR.none this
  have LM : Hid (∀ r i, i ≤ t → locM p e t r i = p.getD (e + t + r - i) 0) := fun r i _ => rfl
  have hnm : e + t + n = m := by omega
  have htn : t ≤ n := by omega
  unfold LocatedR
  clear ha hn HN HA
  generalize hls : rowsM n (t + 1) (locM p e t) = ls at *
  have HLS := Lib.hid hls
  clear hls
  generalize hlm : locM p e t = lm at *
  clear hlm
  generalize p.length = pl at *
  go_enter Try.func35, Try.ntmps35
  go_wp2
  go_loopw [10, 11] (fun v x wr => ∃ (rs : List Row) (A' : Option Addr) (c' : Nat), rs.length ≤ n ∧ x = .int .i64 ((e + t + rs.length : Nat) : Int) ∧ v = .slice A' rs.length c' ∧ lsts rs = ls.take rs.length ∧ wr.ownsRow w.heap.size 23 1 (.slice A' rs.length c') rs.length (vals rs) ∧ Grid wr w.heap.size rs ∧ Below w.heap.size w wr) (fun _ x _ => m - (intOf x).toNat)
  case atStart => exact ⟨[], none, 0, Nat.zero_le _, by go_num, rfl, rfl, World.ownsRow_nil _ _ _ _, Grid.nil _ _, Below.refl _ _⟩
  case round =>
    obtain ⟨rs, A1, c1, hi, rfl, rfl, hls, hsp, hgr, hbel⟩ := hrel
    have HL := Lib.hid hls
    have HS := Lib.hid hsp
    have HG := Lib.hid hgr
    have HW := Lib.hid hbel
    have hsz := hbel.size
    clear hls hsp hgr hbel
    obtain ⟨r, hr0⟩ : ∃ r, rs.length = r := ⟨_, rfl⟩
    have HI := Lib.hid hr0
    rw [hr0] at hi HS ⊢
    clear hr0
    obtain ⟨q, hq0⟩ : ∃ q, e + t + r = q := ⟨_, rfl⟩
    have HQ := Lib.hid hq0
    have hqt : t ≤ q := by omega
    have hqm : q ≤ m := by omega
    have hqr : q < m ↔ r < n := by omega
    rw [hq0]
    clear hq0
    by_cases hlt : r < n
    · have hqt2 : (q : Int) < (m : Int) := by have := hqr.2 hlt; omega
      have H1 := Lib.hid (ROW.out r hlt)
      have LMr : Hid (∀ i, i ≤ t → lm r i = p.getD (q - i) 0) := fun i hi => by rw [LM.out r i hi, HQ.out]
      have hrn : r ≤ 1000 := by omega
      clear hqr
      go_wp2
      go_loopw [12, 13] (fun v x wi => ∃ (i : Nat) (A5 : Option Addr) (c5 : Nat), i ≤ t + 1 ∧ x = .int .i64 i ∧ v = .slice A5 i c5 ∧ wi.ownsRow wr.heap.size 5 1 (.slice A5 i c5) i ((tab i (lm r)).map bv) ∧ Below wr.heap.size wr wi) (fun _ x _ => t + 1 - (intOf x).toNat)
      case atStart => exact ⟨0, none, 0, Nat.zero_le _, rfl, rfl, World.ownsRow_nil _ _ _ _, Below.refl _ _⟩
      case round =>
        rename World => wi
        obtain ⟨i, A5, c5, hi5, rfl, rfl, hown, hbel⟩ := hrel
        have HO := Lib.hid hown
        have HB := Lib.hid hbel
        have hsz5 := hbel.size
        clear hown hbel
        by_cases hlt5 : i < t + 1
        · have hit : (i : Int) ≤ (t : Int) := by omega
          obtain ⟨k, hk⟩ : ∃ k, q = i + k := ⟨q - i, by omega⟩
          have hsub : (q : Int) - (i : Int) = (k : Int) := by omega
          have hk0 : (0 : Int) ≤ (k : Int) := by omega
          have hqi : q - i = k := by omega
          have HV : Hid (lm r i = p.getD k 0) := by rw [LMr.out i (by omega), hqi]; exact rfl
          have HT : Hid (tab (i + 1) (lm r) = tab i (lm r) ++ [p.getD k 0]) := by show _ = _; rw [tab_succ, HV.out]
          have ATk : Hid (Calls Try.prog 40 #[.slice A pl c, .int .i64 k] wi fun ed w'' => ed = .returned (.int .u8 (p.getD k 0).n) ∧ wi = w'') := AT.out k wi (HW.out.trans (HB.out.mono hsz)) (by omega)
          have HK := Lib.hid hk
          clear hk hqi
          generalize p.getD k 0 = a at *
          go_wp2_with (first
            | (go_at_call 40; (with_reducible refine ATk.out.mono ?_); rintro ed w3 ⟨rfl, rfl⟩)
            | (at_builtin; refine app_bytes _ rfl _ _ rfl wr.heap.size A5 c5 i (tab i (lm r)) rfl (HO.out.alloc _) _ _ 1 [a] rfl (lit_bs rfl rfl rfl (by decide)) rfl (by omega) (by simp; omega) ?_; intro A3 c3 w3 hown3 hb3; have HO3 := Lib.hid hown3; have HB3 : Hid (Below wr.heap.size wr w3) := (HB.out.alloc HB.out.size _).trans hb3; clear hown3 hb3))
          go_roundw
          case rel => exact ⟨i + 1, A3, c3, by omega, by go_num, rfl, by rw [HT.out]; exact HO3.out, HB3.out⟩
          case measure => simp [intOf]; omega
        · obtain rfl : i = t + 1 := by omega
          have hit : ¬ ((t + 1 : Nat) : Int) ≤ (t : Int) := by omega
          obtain ⟨t1, ht1⟩ : ∃ t1, t1 = t + 1 := ⟨_, rfl⟩
          rw [← ht1] at HO H1 hit hi5 hlt5 ⊢
          have HT1 := Lib.hid ht1
          clear ht1
          go_wp2_with (at_builtin; refine app_spine _ rfl _ _ rfl w.heap.size A1 c1 r (vals rs) rfl (own_below HS.out (HB.out.trans ((below_alloc wi _).mono HB.out.size))) _ 1 (.slice A5 t1 c5) rfl (lit_row _ rfl) rfl (by omega) ?hb ?_; (case hb => exact Nat.le_trans hsz (Nat.le_trans HB.out.size (by simp))); intro A4 c4 w4 hown4 hgr4; have HO4 := Lib.hid hown4; have HG4 := Lib.hid hgr4; clear hown4 hgr4)
          go_roundw
          case rel =>
            have hb5 : Below wr.heap.size wr (wi.alloc (.cells #[.slice A5 t1 c5] 23)) := HB.out.trans ((below_alloc wi _).mono HB.out.size)
            have hs5 := own_below HS.out hb5
            have hlt3 : (tab t1 (lm r)).length = t1 := length_tab _ _
            have hg3 := (HG.out.snoc HB.out (r := (A5, c5, tab t1 (lm r))) (by show World.ownsRow _ _ 5 1 (.slice A5 (tab t1 (lm r)).length c5) (tab t1 (lm r)).length _; rw [hlt3]; exact HO.out) hsz).below (below_alloc wi (.cells #[.slice A5 t1 c5] 23))
            have ho4 := HO4.out
            have hvs := vals_snoc rs (A5, c5, tab t1 (lm r))
            unfold rowV at hvs
            simp only [hlt3] at hvs
            rw [hvs] at ho4
            have hlen : (rs ++ [(A5, c5, tab t1 (lm r))]).length = r + 1 := by rw [List.length_append, HI.out, List.length_singleton]
            refine ⟨rs ++ [(A5, c5, tab t1 (lm r))], A4, c4, by rw [hlen]; omega, by rw [hlen, ← HQ.out]; go_num, by rw [hlen], by rw [hlen]; exact lsts_snoc (by rw [← HI.out]; exact HL.out) H1.out, by rw [hlen]; exact ho4, hg3.grown hs5 (by decide) HG4.out, own_grow (HW.out.trans (hb5.mono hsz)) hs5 HG4.out (Nat.le_trans hsz hb5.size)⟩
          case measure => simp [intOf]; omega
    · have hie : r = n := by omega
      subst hie
      have hqq : q = m := by have := HQ.out; omega
      subst hqq
      have hlt2 : ¬ (q : Int) < (q : Int) := by omega
      have MD : Hid (MadeR w wr A1 r c1 rs) := ⟨HS.out, HG.out, HW.out⟩
      have EQ : Hid (lsts rs = rowsM r (t + 1) lm) := by show _ = _; rw [HL.out, HI.out, HLS.out]; exact List.take_of_length_le (by rw [HLL.out]; exact Nat.le_refl _)
      have SV : Hid (Calls Try.prog 41 #[.slice A1 r c1, .int .i64 t] wr (SolvedR w r t lm)) := by
        obtain ⟨h1, h2⟩ := solved_spn MD.out EQ.out
        exact ref09_solved r t A1 c1 lm w wr (by omega) (by omega) htn HW.out h1 h2
      clear HL HS HG MD EQ hqr
      go_wp2_with (first
        | (go_at_call 41; (with_reducible refine SV.out.mono ?_); rintro ed w3 hres; obtain ⟨hb3, bb, A2, n2, c2, xs, rfl, hown, hn2, hor⟩ := SolvedR.one hres; have HB3 := Lib.hid hb3; have HO2 := Lib.hid hown; have HOR := Lib.hid hor; have hbs3 := hb3.size; clear hres hb3 hown hor)
        | (at_builtin; refine app_bytes _ rfl _ _ rfl w.heap.size A2 c2 n2 xs rfl (HO2.out.alloc _) _ _ 1 [1] rfl (lit_bs rfl rfl rfl (by decide)) rfl (by omega) (by simp; omega) ?_; intro A5 c5 w5 hown5 hb5; have HO5 := Lib.hid hown5; have HB5 : Hid (Below w.heap.size w w5) := (HB3.out.alloc HB3.out.size _).trans hb5; clear hown5 hb5))
      go_ret2
      refine ⟨HB5.out, ?_⟩
      rcases HOR.out with ⟨rfl, rfl, x, hx, rfl⟩ | ⟨rfl, hx⟩
      · exact .inl ⟨_, A5, c5, rfl, (YES.out x hx).1, (YES.out x hx).2, own_sl HO5.out⟩
      · exact .inr ⟨A5, _, c5, rfl, NO.out hx⟩
end Go.Proofs.Ytmcamamfpefffaa
