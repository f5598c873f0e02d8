/- KeyeqFits, walked. -/
import Derived.Test.YtmcamamfpefffaaLaw09
import Derived.Test.YtmcamamfpefffaaKsc
namespace Go.Proofs.Ytmcamamfpefffaa
open Go.RowKit
set_option linter.unusedVariables false
set_option linter.unusedSimpArgs false
/-- the turned syndromes while they are written -/
def turN (s : List F) (i : Nat) : List F := tab s.length fun x => if s.length ≤ x + i then s.getD (s.length - 1 - x) 0 else 0
theorem length_turN (s : List F) (i : Nat) : (turN s i).length = s.length := length_tab _ _
theorem turN_zero (s : List F) : List.replicate s.length (0 : F) = turN s 0 := by
  refine ext_getD (by rw [length_turN, List.length_replicate]) fun x hx => ?_
  rw [List.length_replicate] at hx
  rw [turN, getD_tab _ hx, if_neg (by omega), List.getD_eq_getElem?_getD, List.getElem?_replicate, if_pos hx]; rfl
theorem turN_set (s : List F) {i k : Nat} (h : i + k + 1 = s.length) : (turN s i).set k (s.getD i 0) = turN s (i + 1) := by
  unfold turN
  rw [set_tab]
  refine tab_congr fun x hx => ?_
  by_cases e : x = k
  · subst e
    rw [if_pos rfl, if_pos (by omega)]
    congr 1; omega
  · rw [if_neg e]
    by_cases e2 : s.length ≤ x + i
    · rw [if_pos e2, if_pos (by omega)]
    · rw [if_neg e2, if_neg (by omega)]
theorem turN_all (s : List F) : turN s s.length = s.reverse := by
  refine ext_getD (by rw [length_turN, List.length_reverse]) fun x hx => ?_
  rw [length_turN] at hx
  rw [turN, getD_tab _ hx, if_pos (by omega), getD_reverse hx]
theorem KeyCase.three {s known l o : List F} {er : Int} (h : KeyCase s known l o er) : er = 1 ∨ er = 0 ∨ (er = 100 ∧ l = [] ∧ o = []) := by
  rcases h with ⟨_, _, _, h⟩ | ⟨e, _, _, ⟨h, _⟩ | ⟨h, h1, h2, _⟩⟩
  · exact .inl h
  · exact .inr (.inl h)
  · exact .inr (.inr ⟨h, h1, h2⟩)
theorem KeyCase.one {s known l o : List F} {er : Int} (h : KeyCase s known l o er) (he : er = 1) : l = [] ∧ o = [] ∧ ((norm known).length = 0 ∨ s.length + 1 < (norm known).length) := by
  rcases h with ⟨h0, h1, h2, _⟩ | ⟨e, _, _, ⟨h, _⟩ | ⟨h, h1, h2, _⟩⟩
  · exact ⟨h1, h2, h0⟩
  · omega
  · omega
theorem KeyCase.zero {s known l o : List F} (h : KeyCase s known l o 0) : ∃ e t, (norm known).length = e + 1 ∧ e ≤ s.length ∧ 2 * t + e ≤ s.length ∧ Loc (cf (keyP s known)) s.length e t l ∧ o = (norm (pmul l (keyP s known))).drop s.length := by
  rcases h with ⟨_, _, _, h⟩ | ⟨e, h1, h2, ⟨_, t, k1, k2, k3, k4, k5⟩ | ⟨h, _⟩⟩
  · omega
  · exact ⟨e, t, h1, h2, k1, k3, k5⟩
  · omega
set_option maxRecDepth 100000 in
set_option maxHeartbeats 8000000 in
theorem fits_main {w : World} {A0 : Option Addr} {c0 : Nat} (s : List F) {A1 : Option Addr} {c1 : Nat} (known l o : List F) (h1 : s.length ≤ 40) (h2 : known.length ≤ 40) (hlo : KeyCase s known l o 0) (r0 : Bs w A0 c0 s) (r1 : Bs w A1 c1 known) :
    Calls Try.prog 5 #[.slice A0 s.length c0, .slice A1 known.length c1] w fun e w' => e = .returned (.bool true) ∧ Below w.heap.size w w' := by
  have e1 : ¬ (40 : Int) < (s.length : Int) := by omega
  have e2 : ¬ (40 : Int) < (known.length : Int) := by omega
  have KS : Hid (∀ (b : Nat) (w : World), GfAt w b → Bs w A0 c0 s → Bs w A1 c1 known → Calls Try.prog 12 #[.pointer (some ⟨b, 0, none⟩), .slice A0 s.length c0, .slice A1 known.length c1] w (KeyR w s known)) := fun b w hg h h2 => key_solve b A0 c0 s A1 c1 known w hg h h2 (by omega) (by omega)
  obtain ⟨gl, hgl⟩ : ∃ gl, (norm known).length = gl := ⟨_, rfl⟩
  have NM : Hid (∀ w', Bs w' A1 c1 known → Calls Try.prog 17 #[.slice A1 known.length c1] w' fun ed w'' => ∃ A' c', ed = .returned (.slice A' gl c') ∧ Bs w'' A' c' (norm known) ∧ Below w'.heap.size w' w'') := fun w' h => by
    have := poly_norm A1 c1 known w' h (by omega)
    rw [hgl] at this
    exact this.mono fun ed w'' ⟨A', c', he, hm⟩ => ⟨A', c', he, hm.bs, hm.bel⟩
  have gl_le : gl ≤ 40 := by have := length_norm_le known; omega
  have KB := Lib.hid hlo
  obtain ⟨e, t, he, hem, hte, hloc, ho⟩ := hlo.zero
  rw [hgl] at he
  have HGL := Lib.hid hgl
  have LOC := Lib.hid hloc
  have HO1 := Lib.hid ho
  clear hlo hgl hloc ho
  have hgt : (gl : Int) - 1 = (e : Int) := by omega
  clear he
  have P0 := Lib.hid r0
  have Q0 := Lib.hid r1
  have W := Lib.hid (Since.refl w)
  clear r0 r1
  go_enter Try.func5, Try.ntmps5
  go_wp2_with (first
    | (go_at_call 10; (with_reducible refine (awake9 _).mono ?_); rintro e W1 ⟨rfl, hb⟩; have hbel : Below _ _ W1 := hb; (first | have P0 := Lib.hid (Sl.below P0.out hbel) | have P0 := Lib.hid (Sl.below (P0.out.alloc _) hbel) | have P0 := Lib.hid (Sl.below ((P0.out.alloc _).alloc _) hbel) | have P0 := Lib.hid (Sl.below (((P0.out.alloc _).alloc _).alloc _) hbel) | skip); (first | have Q0 := Lib.hid (Sl.below Q0.out hbel) | have Q0 := Lib.hid (Sl.below (Q0.out.alloc _) hbel) | have Q0 := Lib.hid (Sl.below ((Q0.out.alloc _).alloc _) hbel) | have Q0 := Lib.hid (Sl.below (((Q0.out.alloc _).alloc _).alloc _) hbel) | skip); (first | have W := Lib.hid (Since.below W.out hbel) | have W := Lib.hid (Since.below (W.out.alloc _) hbel) | have W := Lib.hid (Since.below ((W.out.alloc _).alloc _) hbel) | have W := Lib.hid (Since.below (((W.out.alloc _).alloc _).alloc _) hbel) | skip); (first | have G := Lib.hid (GfAt.below G.out hbel) | have G := Lib.hid (GfAt.below (G.out.alloc _) hbel) | have G := Lib.hid (GfAt.below ((G.out.alloc _).alloc _) hbel) | have G := Lib.hid (GfAt.below (((G.out.alloc _).alloc _).alloc _) hbel) | skip); (first | have B5 := Lib.hid (Sl.below B5.out hbel) | have B5 := Lib.hid (Sl.below (B5.out.alloc _) hbel) | have B5 := Lib.hid (Sl.below ((B5.out.alloc _).alloc _) hbel) | have B5 := Lib.hid (Sl.below (((B5.out.alloc _).alloc _).alloc _) hbel) | skip); (first | have B6 := Lib.hid (Sl.below B6.out hbel) | have B6 := Lib.hid (Sl.below (B6.out.alloc _) hbel) | have B6 := Lib.hid (Sl.below ((B6.out.alloc _).alloc _) hbel) | have B6 := Lib.hid (Sl.below (((B6.out.alloc _).alloc _).alloc _) hbel) | skip); (first | have B9 := Lib.hid (Sl.below B9.out hbel) | have B9 := Lib.hid (Sl.below (B9.out.alloc _) hbel) | have B9 := Lib.hid (Sl.below ((B9.out.alloc _).alloc _) hbel) | have B9 := Lib.hid (Sl.below (((B9.out.alloc _).alloc _).alloc _) hbel) | skip); clear hbel)
    | (go_at_call 11; (with_reducible refine (new_any _).mono ?_); rintro e W2 ⟨rfl, hb, hg⟩; have hbel : Below _ _ W2 := hb; (first | have P0 := Lib.hid (Sl.below P0.out hbel) | have P0 := Lib.hid (Sl.below (P0.out.alloc _) hbel) | have P0 := Lib.hid (Sl.below ((P0.out.alloc _).alloc _) hbel) | have P0 := Lib.hid (Sl.below (((P0.out.alloc _).alloc _).alloc _) hbel) | skip); (first | have Q0 := Lib.hid (Sl.below Q0.out hbel) | have Q0 := Lib.hid (Sl.below (Q0.out.alloc _) hbel) | have Q0 := Lib.hid (Sl.below ((Q0.out.alloc _).alloc _) hbel) | have Q0 := Lib.hid (Sl.below (((Q0.out.alloc _).alloc _).alloc _) hbel) | skip); (first | have W := Lib.hid (Since.below W.out hbel) | have W := Lib.hid (Since.below (W.out.alloc _) hbel) | have W := Lib.hid (Since.below ((W.out.alloc _).alloc _) hbel) | have W := Lib.hid (Since.below (((W.out.alloc _).alloc _).alloc _) hbel) | skip); (first | have G := Lib.hid (GfAt.below G.out hbel) | have G := Lib.hid (GfAt.below (G.out.alloc _) hbel) | have G := Lib.hid (GfAt.below ((G.out.alloc _).alloc _) hbel) | have G := Lib.hid (GfAt.below (((G.out.alloc _).alloc _).alloc _) hbel) | skip); (first | have B5 := Lib.hid (Sl.below B5.out hbel) | have B5 := Lib.hid (Sl.below (B5.out.alloc _) hbel) | have B5 := Lib.hid (Sl.below ((B5.out.alloc _).alloc _) hbel) | have B5 := Lib.hid (Sl.below (((B5.out.alloc _).alloc _).alloc _) hbel) | skip); (first | have B6 := Lib.hid (Sl.below B6.out hbel) | have B6 := Lib.hid (Sl.below (B6.out.alloc _) hbel) | have B6 := Lib.hid (Sl.below ((B6.out.alloc _).alloc _) hbel) | have B6 := Lib.hid (Sl.below (((B6.out.alloc _).alloc _).alloc _) hbel) | skip); (first | have B9 := Lib.hid (Sl.below B9.out hbel) | have B9 := Lib.hid (Sl.below (B9.out.alloc _) hbel) | have B9 := Lib.hid (Sl.below ((B9.out.alloc _).alloc _) hbel) | have B9 := Lib.hid (Sl.below (((B9.out.alloc _).alloc _).alloc _) hbel) | skip); have G : Hid (GfAt W2 _) := hg; clear hbel)
    | (go_at_call 12; (with_reducible refine (KS.out _ _ ?_ ?_ ?_).mono ?_); (first | exact G.out | exact G.out.alloc _ | exact (G.out.alloc _).alloc _ | exact ((G.out.alloc _).alloc _).alloc _ | exact (((G.out.alloc _).alloc _).alloc _).alloc _); (first | exact P0.out | exact P0.out.alloc _ | exact (P0.out.alloc _).alloc _ | exact ((P0.out.alloc _).alloc _).alloc _ | exact (((P0.out.alloc _).alloc _).alloc _).alloc _); (first | exact Q0.out | exact Q0.out.alloc _ | exact (Q0.out.alloc _).alloc _ | exact ((Q0.out.alloc _).alloc _).alloc _ | exact (((Q0.out.alloc _).alloc _).alloc _).alloc _); rintro e W3 ⟨hb, l', o', er', A11, c11, A12, c12, rfl, h5, h6, hk⟩; have hbel : Below _ _ W3 := hb; (first | have P0 := Lib.hid (Sl.below P0.out hbel) | have P0 := Lib.hid (Sl.below (P0.out.alloc _) hbel) | have P0 := Lib.hid (Sl.below ((P0.out.alloc _).alloc _) hbel) | have P0 := Lib.hid (Sl.below (((P0.out.alloc _).alloc _).alloc _) hbel) | skip); (first | have Q0 := Lib.hid (Sl.below Q0.out hbel) | have Q0 := Lib.hid (Sl.below (Q0.out.alloc _) hbel) | have Q0 := Lib.hid (Sl.below ((Q0.out.alloc _).alloc _) hbel) | have Q0 := Lib.hid (Sl.below (((Q0.out.alloc _).alloc _).alloc _) hbel) | skip); (first | have W := Lib.hid (Since.below W.out hbel) | have W := Lib.hid (Since.below (W.out.alloc _) hbel) | have W := Lib.hid (Since.below ((W.out.alloc _).alloc _) hbel) | have W := Lib.hid (Since.below (((W.out.alloc _).alloc _).alloc _) hbel) | skip); (first | have G := Lib.hid (GfAt.below G.out hbel) | have G := Lib.hid (GfAt.below (G.out.alloc _) hbel) | have G := Lib.hid (GfAt.below ((G.out.alloc _).alloc _) hbel) | have G := Lib.hid (GfAt.below (((G.out.alloc _).alloc _).alloc _) hbel) | skip); (first | have B5 := Lib.hid (Sl.below B5.out hbel) | have B5 := Lib.hid (Sl.below (B5.out.alloc _) hbel) | have B5 := Lib.hid (Sl.below ((B5.out.alloc _).alloc _) hbel) | have B5 := Lib.hid (Sl.below (((B5.out.alloc _).alloc _).alloc _) hbel) | skip); (first | have B6 := Lib.hid (Sl.below B6.out hbel) | have B6 := Lib.hid (Sl.below (B6.out.alloc _) hbel) | have B6 := Lib.hid (Sl.below ((B6.out.alloc _).alloc _) hbel) | have B6 := Lib.hid (Sl.below (((B6.out.alloc _).alloc _).alloc _) hbel) | skip); (first | have B9 := Lib.hid (Sl.below B9.out hbel) | have B9 := Lib.hid (Sl.below (B9.out.alloc _) hbel) | have B9 := Lib.hid (Sl.below ((B9.out.alloc _).alloc _) hbel) | have B9 := Lib.hid (Sl.below (((B9.out.alloc _).alloc _).alloc _) hbel) | skip); have B5 : Hid (Bs W3 A11 c11 l) := (by obtain ⟨rfl, rfl, rfl⟩ := KB.out.eq hk; exact h5); have B6 : Hid (Bs W3 A12 c12 o) := (by obtain ⟨rfl, rfl, rfl⟩ := KB.out.eq hk; exact h6); obtain ⟨rfl, rfl, rfl⟩ := KB.out.eq hk; clear hk h5 h6; clear hbel)
    | (go_at_call 17; (with_reducible refine (NM.out _ ?_).mono ?_); (first | exact Q0.out | exact Q0.out.alloc _ | exact (Q0.out.alloc _).alloc _ | exact ((Q0.out.alloc _).alloc _).alloc _ | exact (((Q0.out.alloc _).alloc _).alloc _).alloc _); rintro e W4 ⟨A9, c9, rfl, h9, hb⟩; have hbel : Below _ _ W4 := hb; (first | have P0 := Lib.hid (Sl.below P0.out hbel) | have P0 := Lib.hid (Sl.below (P0.out.alloc _) hbel) | have P0 := Lib.hid (Sl.below ((P0.out.alloc _).alloc _) hbel) | have P0 := Lib.hid (Sl.below (((P0.out.alloc _).alloc _).alloc _) hbel) | skip); (first | have Q0 := Lib.hid (Sl.below Q0.out hbel) | have Q0 := Lib.hid (Sl.below (Q0.out.alloc _) hbel) | have Q0 := Lib.hid (Sl.below ((Q0.out.alloc _).alloc _) hbel) | have Q0 := Lib.hid (Sl.below (((Q0.out.alloc _).alloc _).alloc _) hbel) | skip); (first | have W := Lib.hid (Since.below W.out hbel) | have W := Lib.hid (Since.below (W.out.alloc _) hbel) | have W := Lib.hid (Since.below ((W.out.alloc _).alloc _) hbel) | have W := Lib.hid (Since.below (((W.out.alloc _).alloc _).alloc _) hbel) | skip); (first | have G := Lib.hid (GfAt.below G.out hbel) | have G := Lib.hid (GfAt.below (G.out.alloc _) hbel) | have G := Lib.hid (GfAt.below ((G.out.alloc _).alloc _) hbel) | have G := Lib.hid (GfAt.below (((G.out.alloc _).alloc _).alloc _) hbel) | skip); (first | have B5 := Lib.hid (Sl.below B5.out hbel) | have B5 := Lib.hid (Sl.below (B5.out.alloc _) hbel) | have B5 := Lib.hid (Sl.below ((B5.out.alloc _).alloc _) hbel) | have B5 := Lib.hid (Sl.below (((B5.out.alloc _).alloc _).alloc _) hbel) | skip); (first | have B6 := Lib.hid (Sl.below B6.out hbel) | have B6 := Lib.hid (Sl.below (B6.out.alloc _) hbel) | have B6 := Lib.hid (Sl.below ((B6.out.alloc _).alloc _) hbel) | have B6 := Lib.hid (Sl.below (((B6.out.alloc _).alloc _).alloc _) hbel) | skip); (first | have B9 := Lib.hid (Sl.below B9.out hbel) | have B9 := Lib.hid (Sl.below (B9.out.alloc _) hbel) | have B9 := Lib.hid (Sl.below ((B9.out.alloc _).alloc _) hbel) | have B9 := Lib.hid (Sl.below (((B9.out.alloc _).alloc _).alloc _) hbel) | skip); have B9 : Hid (Bs W4 A9 c9 (norm known)) := h9; clear hbel)
    | (refine make_bytes _ rfl _ _ rfl .i64 .i64 (s.length : Int) (s.length : Int) s.length rfl rfl rfl rfl ?b ?_; (case b => omega); intro w5 ho5 hb5; have HO5 := Lib.hid ho5; have HB5 := Lib.hid hb5; clear ho5 hb5))

  have hk9 : ∀ i, e + t ≤ i → i < s.length → (norm (pmul l (keyP s known))).getD i 0 = 0 := fun i h1 h2 => by
    have := LOC.out.mid i h1 h2
    rw [← cf_pmul, ← cf_norm] at this
    exact this
  have MID := Lib.hid hk9
  have LL := Lib.hid LOC.out.len
  obtain ⟨b5, o5, hA5, _, hc5⟩ := Bs.at' B5.out (by rw [LL.out]; omega)
  have y5 := hc5 t (by rw [LL.out]; omega)
  rw [LOC.out.top] at y5
  have Y5 : Hid (∀ w', Below W4.heap.size W4 w' → w'.cell? ⟨b5, o5 + t, none⟩ = some (.int .u8 1)) := fun w' hb => by
    obtain ⟨b6, o6, hA6, _, hc6⟩ := Bs.at' (Sl.below B5.out hb) (by rw [LL.out]; omega)
    rw [hA5] at hA6
    injection hA6 with e1
    injection e1 with e1 e2
    subst e1 e2
    have := hc6 t (by rw [LL.out]; omega)
    rw [LOC.out.top] at this
    exact this
  clear y5 hc5 hk9
  subst hA5
  have PL : Hid (∀ i, i < s.length → ∀ w', Below W4.heap.size W4 w' → ∃ b2 o2, A0 = some ⟨b2, o2, none⟩ ∧ w'.cell? ⟨b2, o2 + i, none⟩ = some (.int .u8 ((s.getD i 0).n : Int))) := fun i hi w' hb => by
    obtain ⟨b2, o2, hA, _, hc⟩ := Bs.at' (P0.out.below hb) (by omega)
    exact ⟨b2, o2, hA, hc i hi⟩
  have TZ := Lib.hid (turN_zero s)
  have TN : Hid (∀ i k, i + k + 1 = s.length → (turN s i).set k (s.getD i 0) = turN s (i + 1)) := fun i k h => turN_set s h
  have TL : Hid (∀ i, (turN s i).length = s.length) := length_turN s
  have TA := Lib.hid (turN_all s)
  have M1 : Hid (∀ (b A5 c5 A6 c6 : _) (w' : World), GfAt w' b → Bs w' A5 c5 l → Bs w' A6 c6 (norm known) → Calls Try.prog 18 #[.pointer (some ⟨b, 0, none⟩), .slice A5 l.length c5, .slice A6 gl c6] w' fun ed w'' => ∃ A' c', ed = .returned (.slice A' (norm (pmul l (norm known))).length c') ∧ Bs w'' A' c' (norm (pmul l (norm known))) ∧ Below w'.heap.size w' w'') := fun b A5 c5 A6 c6 w' hg h h2 => by
    have := poly_mul b A5 c5 l A6 c6 (norm known) w' hg h h2 (by rw [LL.out]; omega) (by rw [HGL.out]; omega)
    rw [HGL.out] at this
    exact this.mono fun ed w'' ⟨A', c', he, hm⟩ => ⟨A', c', he, hm.bs, hm.bel⟩
  have l1 : (norm (pmul l (norm known))).length ≤ 1000 := by
    have q1 := length_norm_le (pmul l (norm known))
    have q2 := length_pmul_le' l (norm known)
    rw [LL.out, HGL.out] at q2
    omega
  have ALL : norm (pmul (norm (pmul l (norm known))) s.reverse) = norm (pmul l (keyP s known)) := norm_congr (by unfold keyP; simp only [cf_pmul, cf_norm]; rw [S.mul_assoc])
  have M2 : Hid (∀ (b A5 c5 A6 c6 : _) (w' : World), GfAt w' b → Bs w' A5 c5 (norm (pmul l (norm known))) → Bs w' A6 c6 s.reverse → Calls Try.prog 18 #[.pointer (some ⟨b, 0, none⟩), .slice A5 (norm (pmul l (norm known))).length c5, .slice A6 s.length c6] w' fun ed w'' => ∃ A' c', ed = .returned (.slice A' (norm (pmul l (keyP s known))).length c') ∧ Bs w'' A' c' (norm (pmul l (keyP s known))) ∧ Below w'.heap.size w' w'') := fun b A5 c5 A6 c6 w' hg h h2 => by
    have := poly_mul b A5 c5 _ A6 c6 s.reverse w' hg h h2 (by omega) (by simp; omega)
    rw [ALL, List.length_reverse] at this
    exact this.mono fun ed w'' ⟨A', c', he, hm⟩ => ⟨A', c', he, hm.bs, hm.bel⟩
  have al_le : (norm (pmul l (keyP s known))).length ≤ 1000 := by
    have q1 := length_norm_le (pmul l (keyP s known))
    have q2 := length_pmul_le' l (keyP s known)
    have q3 := length_keyP s known
    rw [LL.out] at q2
    rw [HGL.out] at q3
    omega
  have BN : Hid (Bs W4 A9 c9 (norm known)) := B9.out
  have SM : Hid (∀ (A5 c5 A6 c6 : _) (w' : World), Bs w' A5 c5 o → Bs w' A6 c6 o → Calls Try.prog 14 #[.slice A5 o.length c5, .slice A6 o.length c6] w' fun ed w'' => ed = .returned (.bool true) ∧ Below w'.heap.size w' w'') := fun A5 c5 A6 c6 w' h h2 => same_true A5 c5 o A6 c6 o w' h h2 rfl
  clear KB KS NM ALL
  generalize l.length = ln at *
  obtain ⟨al, hal⟩ : ∃ al, norm (pmul l (keyP s known)) = al := ⟨_, rfl⟩
  rw [hal] at HO1 MID M2 al_le
  clear hal
  obtain ⟨lg, hlg⟩ : ∃ lg, norm (pmul l (norm known)) = lg := ⟨_, rfl⟩
  rw [hlg] at M1 M2 l1
  clear hlg
  clear LOC
  generalize hm : s.length = m at *
  clear hm
  go_loopw [13] (fun v wr => ∃ i : Nat, i ≤ m ∧ v = .int .i64 i ∧ wr.ownsRow W4.heap.size 5 1 (.slice (some ⟨W4.heap.size, 0, none⟩) m m) m ((turN s i).map bv) ∧ Below W4.heap.size W4 wr) (fun v _ => m - (intOf v).toNat)
  case atStart => exact ⟨0, Nat.zero_le _, rfl, by rw [← TZ.out]; exact HO5.out, HB5.out⟩
  case round =>
    clear HO5 HB5
    obtain ⟨i, hi, rfl, hown, hbel⟩ := hrel
    have HO := Lib.hid hown
    have HB := Lib.hid hbel
    by_cases hlt : i < m
    · obtain ⟨k, hk⟩ : ∃ k, i + k + 1 = m := ⟨m - 1 - i, by omega⟩
      have hsub : (m : Int) - 1 - (i : Int) = (k : Int) := by omega
      have hit : (i : Int) < (m : Int) := by omega
      have hkt : (k : Int) < (m : Int) := by omega
      obtain ⟨b2, o2, hA, y⟩ := PL.out i hlt wr hbel
      subst hA
      have y1 := hown.cellAt k (by omega)
      rw [getElem?_bv (by rw [TL.out]; omega)] at y1
      have z1 := hown.frozenAt k
      have hst := (hown.stored k (bv (s.getD i 0))).1
      rw [map_set, TN.out i k hk] at hst
      have HST := Lib.hid hst
      clear hown hbel hst hk
      generalize s.getD i 0 = a at *
      go_wp2
      go_roundw
      case rel => exact ⟨i + 1, by omega, by go_num, HST.out, HB.out.setCell (Nat.le_refl _) _⟩
      case measure => simp [intOf]; omega
    · obtain rfl : m = i := by omega
      rw [TA.out] at hown
      have T9 := Lib.hid (own_sl hown)
      have hit : ¬ (m : Int) < (m : Int) := by omega
      have G9 := Lib.hid (G.out.below HB.out)
      have L9 := Lib.hid (Sl.below B5.out HB.out)
      have O9 := Lib.hid (Sl.below B6.out HB.out)
      have N9 := Lib.hid (Sl.below BN.out HB.out)
      have et : (ln : Int) - 1 = (t : Int) := by have := LL.out; omega
      have ht1 : (t : Int) < (ln : Int) := by have := LL.out; omega
      have dm : ¬ (m : Int) < 2 * (t : Int) + (gl : Int) - 1 := by omega
      replace W := Lib.hid (W.out.below HB.out)
      clear hown hbel HO PL TZ TN TL TA
      go_wp2_with (first
        | (go_at_call 18; (with_reducible refine (M1.out _ _ _ _ _ _ G9.out L9.out N9.out).mono ?_); rintro ed w7 ⟨A14, c14, rfl, h14, hb14⟩; have H14 := Lib.hid h14; have HB7 := Lib.hid hb14; clear h14 hb14)
        | (go_at_call 18; (with_reducible refine (M2.out _ _ _ _ _ _ (G9.out.below HB7.out) H14.out (Sl.below T9.out HB7.out)).mono ?_); rintro ed w8 ⟨A15, c15, rfl, h15, hb15⟩; have AL := Lib.hid h15; have HB8 := Lib.hid (HB7.out.trans (hb15.mono HB7.out.size)); have HB84 := Lib.hid (HB.out.trans (HB8.out.mono HB.out.size)); have y5 := Y5.out _ HB84.out; replace O9 := Lib.hid (Sl.below O9.out HB8.out); replace W := Lib.hid (W.out.below HB8.out); clear h15 hb15))
      replace B6 := O9
      clear O9 G9 L9 N9 T9 HB7 HB8 H14 M1 M2 y5 Y5 BN B5
      go_loopw [16] (fun v wr => ∃ i : Nat, e + t ≤ i ∧ i ≤ m ∧ v = .int .i64 i ∧ w8 = wr) (fun v _ => m - (intOf v).toNat)
      case atStart => exact ⟨e + t, Nat.le_refl _, by omega, by go_num, rfl⟩
      case round =>
        obtain ⟨i, hi1, hi2, rfl, rfl⟩ := hrel
        by_cases hlt2 : i < m
        · have hit2 : (i : Int) < (m : Int) := by omega
          by_cases hla : i < al.length
          · have hla2 : (i : Int) < (al.length : Int) := by omega
            obtain ⟨b2, o2, hA, _, hc⟩ := Bs.at' AL.out (by omega)
            have y := hc i hla
            rw [MID.out i hi1 hlt2] at y
            have e9 : (((0 : F).n : Int) != 0) = false := rfl
            subst hA
            clear hc
            go_wp2
            go_roundw
            case rel => exact ⟨i + 1, by omega, by omega, by go_num, by first | rfl | trivial⟩
            case measure => simp [intOf]; omega
          have hla2 : ¬ (i : Int) < (al.length : Int) := by omega
          clear MID
          by_cases hgr : m < al.length
          · have hgr2 : (m : Int) < (al.length : Int) := by omega
            have hne : ¬ c15 = m := by have := AL.out.len; omega
            have D9 : Hid (Bs w8 (Option.map (fun x => x.add m) A15) (c15 - m) o) := by have := AL.out.dropA (k := m) (by omega); rw [rowA, if_neg hne, ← HO1.out] at this; exact this
            have hol : al.length - m = o.length := by rw [HO1.out, List.length_drop]
            have hmc : m ≤ c15 := by have := AL.out.len; omega
            have hmc2 : (al.length : Int) ≤ (c15 : Int) := by have := AL.out.len; omega
            have hml : m ≤ al.length := by omega
            generalize o.length = ol at *
            generalize al.length = aln at *
            go_wp2_with (go_at_call 14; (with_reducible refine (SM.out _ _ _ _ _ ?_ ?_).mono ?_); (exact Sl.alloc B6.out _); (exact Sl.alloc D9.out _); rintro ed w9 ⟨rfl, hb9⟩; have HB9 := Lib.hid ((below_alloc w8 _).trans (hb9.mono (by simp))); clear hb9)
            go_ret
            exact ⟨rfl, W.out.below HB9.out⟩
          · have hgr2 : ¬ (m : Int) < (al.length : Int) := by omega
            have ho0 : o = [] := by rw [HO1.out]; exact List.drop_eq_nil_of_le (by omega)
            subst ho0
            have E9 : Hid (∀ (w' : World) (A : Option Addr), Bs w' A 0 []) := fun w' A => ⟨Nat.le_refl _, Nat.zero_le _, .inl rfl⟩
            have SM0 : Hid (∀ (A5 c5 A6 c6 : _) (w' : World), Bs w' A5 c5 [] → Bs w' A6 c6 [] → Calls Try.prog 14 #[.slice A5 0 c5, .slice A6 0 c6] w' fun ed w'' => ed = .returned (.bool true) ∧ Below w'.heap.size w' w'') := SM
            clear SM
            go_wp2_with (go_at_call 14; (with_reducible refine (SM0.out _ _ _ _ _ ?_ ?_).mono ?_); (exact Sl.alloc B6.out _); (exact E9.out _ _); rintro ed w9 ⟨rfl, hb9⟩; have HB9 := Lib.hid ((below_alloc w8 _).trans (hb9.mono (by simp))); clear hb9)
            go_ret
            exact ⟨rfl, W.out.below HB9.out⟩
        have hit2 : ¬ (i : Int) < (m : Int) := by omega
        clear MID
        by_cases hgr : m < al.length
        · have hgr2 : (m : Int) < (al.length : Int) := by omega
          have hne : ¬ c15 = m := by have := AL.out.len; omega
          have D9 : Hid (Bs w8 (Option.map (fun x => x.add m) A15) (c15 - m) o) := by have := AL.out.dropA (k := m) (by omega); rw [rowA, if_neg hne, ← HO1.out] at this; exact this
          have hol : al.length - m = o.length := by rw [HO1.out, List.length_drop]
          have hmc : m ≤ c15 := by have := AL.out.len; omega
          have hmc2 : (al.length : Int) ≤ (c15 : Int) := by have := AL.out.len; omega
          have hml : m ≤ al.length := by omega
          generalize o.length = ol at *
          generalize al.length = aln at *
          go_wp2_with (go_at_call 14; (with_reducible refine (SM.out _ _ _ _ _ ?_ ?_).mono ?_); (exact Sl.alloc B6.out _); (exact Sl.alloc D9.out _); rintro ed w9 ⟨rfl, hb9⟩; have HB9 := Lib.hid ((below_alloc w8 _).trans (hb9.mono (by simp))); clear hb9)
          go_ret
          exact ⟨rfl, W.out.below HB9.out⟩
        · have hgr2 : ¬ (m : Int) < (al.length : Int) := by omega
          have ho0 : o = [] := by rw [HO1.out]; exact List.drop_eq_nil_of_le (by omega)
          subst ho0
          have E9 : Hid (∀ (w' : World) (A : Option Addr), Bs w' A 0 []) := fun w' A => ⟨Nat.le_refl _, Nat.zero_le _, .inl rfl⟩
          have SM0 : Hid (∀ (A5 c5 A6 c6 : _) (w' : World), Bs w' A5 c5 [] → Bs w' A6 c6 [] → Calls Try.prog 14 #[.slice A5 0 c5, .slice A6 0 c6] w' fun ed w'' => ed = .returned (.bool true) ∧ Below w'.heap.size w' w'') := SM
          clear SM
          go_wp2_with (go_at_call 14; (with_reducible refine (SM0.out _ _ _ _ _ ?_ ?_).mono ?_); (exact Sl.alloc B6.out _); (exact E9.out _ _); rintro ed w9 ⟨rfl, hb9⟩; have HB9 := Lib.hid ((below_alloc w8 _).trans (hb9.mono (by simp))); clear hb9)
          go_ret
          exact ⟨rfl, W.out.below HB9.out⟩
set_option maxRecDepth 100000 in
set_option maxHeartbeats 8000000 in
theorem walk_KeyeqFits {w : World} (A0 : Option Addr) (c0 : Nat) (s : List F) (r0 : Bs w A0 c0 s) (A1 : Option Addr) (c1 : Nat) (known : List F) (r1 : Bs w A1 c1 known) :
    Calls Try.prog 5 #[.slice A0 s.length c0, .slice A1 known.length c1] w fun e w' => e = .returned (.bool true) ∧ Below w.heap.size w w' := by
  by_cases h1 : s.length ≤ 40
  case neg =>
    have e1 : (40 : Int) < (s.length : Int) := by omega
    have P0 := Lib.hid r0
    have Q0 := Lib.hid r1
    have W := Lib.hid (Since.refl w)
    clear r0 r1
    go_enter Try.func5, Try.ntmps5
    go_wp2_with (first
      | (go_at_call 10; (with_reducible refine (awake9 _).mono ?_); rintro e W1 ⟨rfl, hb⟩; have hbel : Below _ _ W1 := hb; (first | have P0 := Lib.hid (Sl.below P0.out hbel) | have P0 := Lib.hid (Sl.below (P0.out.alloc _) hbel) | have P0 := Lib.hid (Sl.below ((P0.out.alloc _).alloc _) hbel) | have P0 := Lib.hid (Sl.below (((P0.out.alloc _).alloc _).alloc _) hbel) | skip); (first | have Q0 := Lib.hid (Sl.below Q0.out hbel) | have Q0 := Lib.hid (Sl.below (Q0.out.alloc _) hbel) | have Q0 := Lib.hid (Sl.below ((Q0.out.alloc _).alloc _) hbel) | have Q0 := Lib.hid (Sl.below (((Q0.out.alloc _).alloc _).alloc _) hbel) | skip); (first | have W := Lib.hid (Since.below W.out hbel) | have W := Lib.hid (Since.below (W.out.alloc _) hbel) | have W := Lib.hid (Since.below ((W.out.alloc _).alloc _) hbel) | have W := Lib.hid (Since.below (((W.out.alloc _).alloc _).alloc _) hbel) | skip); (first | have G := Lib.hid (GfAt.below G.out hbel) | have G := Lib.hid (GfAt.below (G.out.alloc _) hbel) | have G := Lib.hid (GfAt.below ((G.out.alloc _).alloc _) hbel) | have G := Lib.hid (GfAt.below (((G.out.alloc _).alloc _).alloc _) hbel) | skip); clear hbel)
      | (go_at_call 11; (with_reducible refine (new_any _).mono ?_); rintro e W2 ⟨rfl, hb, hg⟩; have hbel : Below _ _ W2 := hb; (first | have P0 := Lib.hid (Sl.below P0.out hbel) | have P0 := Lib.hid (Sl.below (P0.out.alloc _) hbel) | have P0 := Lib.hid (Sl.below ((P0.out.alloc _).alloc _) hbel) | have P0 := Lib.hid (Sl.below (((P0.out.alloc _).alloc _).alloc _) hbel) | skip); (first | have Q0 := Lib.hid (Sl.below Q0.out hbel) | have Q0 := Lib.hid (Sl.below (Q0.out.alloc _) hbel) | have Q0 := Lib.hid (Sl.below ((Q0.out.alloc _).alloc _) hbel) | have Q0 := Lib.hid (Sl.below (((Q0.out.alloc _).alloc _).alloc _) hbel) | skip); (first | have W := Lib.hid (Since.below W.out hbel) | have W := Lib.hid (Since.below (W.out.alloc _) hbel) | have W := Lib.hid (Since.below ((W.out.alloc _).alloc _) hbel) | have W := Lib.hid (Since.below (((W.out.alloc _).alloc _).alloc _) hbel) | skip); (first | have G := Lib.hid (GfAt.below G.out hbel) | have G := Lib.hid (GfAt.below (G.out.alloc _) hbel) | have G := Lib.hid (GfAt.below ((G.out.alloc _).alloc _) hbel) | have G := Lib.hid (GfAt.below (((G.out.alloc _).alloc _).alloc _) hbel) | skip); have G : Hid (GfAt W2 _) := hg; clear hbel))
    go_ret
    exact ⟨rfl, W.out⟩
  have e1 : ¬ (40 : Int) < (s.length : Int) := by omega
  by_cases h2 : known.length ≤ 40
  case neg =>
    have e2 : (40 : Int) < (known.length : Int) := by omega
    have P0 := Lib.hid r0
    have Q0 := Lib.hid r1
    have W := Lib.hid (Since.refl w)
    clear r0 r1
    go_enter Try.func5, Try.ntmps5
    go_wp2_with (first
      | (go_at_call 10; (with_reducible refine (awake9 _).mono ?_); rintro e W1 ⟨rfl, hb⟩; have hbel : Below _ _ W1 := hb; (first | have P0 := Lib.hid (Sl.below P0.out hbel) | have P0 := Lib.hid (Sl.below (P0.out.alloc _) hbel) | have P0 := Lib.hid (Sl.below ((P0.out.alloc _).alloc _) hbel) | have P0 := Lib.hid (Sl.below (((P0.out.alloc _).alloc _).alloc _) hbel) | skip); (first | have Q0 := Lib.hid (Sl.below Q0.out hbel) | have Q0 := Lib.hid (Sl.below (Q0.out.alloc _) hbel) | have Q0 := Lib.hid (Sl.below ((Q0.out.alloc _).alloc _) hbel) | have Q0 := Lib.hid (Sl.below (((Q0.out.alloc _).alloc _).alloc _) hbel) | skip); (first | have W := Lib.hid (Since.below W.out hbel) | have W := Lib.hid (Since.below (W.out.alloc _) hbel) | have W := Lib.hid (Since.below ((W.out.alloc _).alloc _) hbel) | have W := Lib.hid (Since.below (((W.out.alloc _).alloc _).alloc _) hbel) | skip); (first | have G := Lib.hid (GfAt.below G.out hbel) | have G := Lib.hid (GfAt.below (G.out.alloc _) hbel) | have G := Lib.hid (GfAt.below ((G.out.alloc _).alloc _) hbel) | have G := Lib.hid (GfAt.below (((G.out.alloc _).alloc _).alloc _) hbel) | skip); clear hbel)
      | (go_at_call 11; (with_reducible refine (new_any _).mono ?_); rintro e W2 ⟨rfl, hb, hg⟩; have hbel : Below _ _ W2 := hb; (first | have P0 := Lib.hid (Sl.below P0.out hbel) | have P0 := Lib.hid (Sl.below (P0.out.alloc _) hbel) | have P0 := Lib.hid (Sl.below ((P0.out.alloc _).alloc _) hbel) | have P0 := Lib.hid (Sl.below (((P0.out.alloc _).alloc _).alloc _) hbel) | skip); (first | have Q0 := Lib.hid (Sl.below Q0.out hbel) | have Q0 := Lib.hid (Sl.below (Q0.out.alloc _) hbel) | have Q0 := Lib.hid (Sl.below ((Q0.out.alloc _).alloc _) hbel) | have Q0 := Lib.hid (Sl.below (((Q0.out.alloc _).alloc _).alloc _) hbel) | skip); (first | have W := Lib.hid (Since.below W.out hbel) | have W := Lib.hid (Since.below (W.out.alloc _) hbel) | have W := Lib.hid (Since.below ((W.out.alloc _).alloc _) hbel) | have W := Lib.hid (Since.below (((W.out.alloc _).alloc _).alloc _) hbel) | skip); (first | have G := Lib.hid (GfAt.below G.out hbel) | have G := Lib.hid (GfAt.below (G.out.alloc _) hbel) | have G := Lib.hid (GfAt.below ((G.out.alloc _).alloc _) hbel) | have G := Lib.hid (GfAt.below (((G.out.alloc _).alloc _).alloc _) hbel) | skip); have G : Hid (GfAt W2 _) := hg; clear hbel))
    go_ret
    exact ⟨rfl, W.out⟩
  have e2 : ¬ (40 : Int) < (known.length : Int) := by omega
  have KS : Hid (∀ (b : Nat) (w : World), GfAt w b → Bs w A0 c0 s → Bs w A1 c1 known → Calls Try.prog 12 #[.pointer (some ⟨b, 0, none⟩), .slice A0 s.length c0, .slice A1 known.length c1] w (KeyR w s known)) := fun b w hg h h2 => key_solve b A0 c0 s A1 c1 known w hg h h2 (by omega) (by omega)
  obtain ⟨gl, hgl⟩ : ∃ gl, (norm known).length = gl := ⟨_, rfl⟩
  have NM : Hid (∀ w', Bs w' A1 c1 known → Calls Try.prog 17 #[.slice A1 known.length c1] w' fun ed w'' => ∃ A' c', ed = .returned (.slice A' gl c') ∧ Bs w'' A' c' (norm known) ∧ Below w'.heap.size w' w'') := fun w' h => by
    have := poly_norm A1 c1 known w' h (by omega)
    rw [hgl] at this
    exact this.mono fun ed w'' ⟨A', c', he, hm⟩ => ⟨A', c', he, hm.bs, hm.bel⟩
  have gl_le : gl ≤ 40 := by have := length_norm_le known; omega
  by_cases ha : KeyCase s known [] [] 1
  · have KA := Lib.hid ha
    have hbad := (ha.one rfl).2.2
    rw [hgl] at hbad
    clear ha
    by_cases hg0 : gl = 0
    · subst hg0
      have d0 : (((0 : Nat) : Int) == 0) = true := rfl
      clear hbad hgl
      have P0 := Lib.hid r0
      have Q0 := Lib.hid r1
      have W := Lib.hid (Since.refl w)
      clear r0 r1
      go_enter Try.func5, Try.ntmps5
      go_wp2_with (first
        | (go_at_call 10; (with_reducible refine (awake9 _).mono ?_); rintro e W1 ⟨rfl, hb⟩; have hbel : Below _ _ W1 := hb; (first | have P0 := Lib.hid (Sl.below P0.out hbel) | have P0 := Lib.hid (Sl.below (P0.out.alloc _) hbel) | have P0 := Lib.hid (Sl.below ((P0.out.alloc _).alloc _) hbel) | have P0 := Lib.hid (Sl.below (((P0.out.alloc _).alloc _).alloc _) hbel) | skip); (first | have Q0 := Lib.hid (Sl.below Q0.out hbel) | have Q0 := Lib.hid (Sl.below (Q0.out.alloc _) hbel) | have Q0 := Lib.hid (Sl.below ((Q0.out.alloc _).alloc _) hbel) | have Q0 := Lib.hid (Sl.below (((Q0.out.alloc _).alloc _).alloc _) hbel) | skip); (first | have W := Lib.hid (Since.below W.out hbel) | have W := Lib.hid (Since.below (W.out.alloc _) hbel) | have W := Lib.hid (Since.below ((W.out.alloc _).alloc _) hbel) | have W := Lib.hid (Since.below (((W.out.alloc _).alloc _).alloc _) hbel) | skip); (first | have G := Lib.hid (GfAt.below G.out hbel) | have G := Lib.hid (GfAt.below (G.out.alloc _) hbel) | have G := Lib.hid (GfAt.below ((G.out.alloc _).alloc _) hbel) | have G := Lib.hid (GfAt.below (((G.out.alloc _).alloc _).alloc _) hbel) | skip); (first | have B9 := Lib.hid (Sl.below B9.out hbel) | have B9 := Lib.hid (Sl.below (B9.out.alloc _) hbel) | have B9 := Lib.hid (Sl.below ((B9.out.alloc _).alloc _) hbel) | have B9 := Lib.hid (Sl.below (((B9.out.alloc _).alloc _).alloc _) hbel) | skip); clear hbel)
        | (go_at_call 11; (with_reducible refine (new_any _).mono ?_); rintro e W2 ⟨rfl, hb, hg⟩; have hbel : Below _ _ W2 := hb; (first | have P0 := Lib.hid (Sl.below P0.out hbel) | have P0 := Lib.hid (Sl.below (P0.out.alloc _) hbel) | have P0 := Lib.hid (Sl.below ((P0.out.alloc _).alloc _) hbel) | have P0 := Lib.hid (Sl.below (((P0.out.alloc _).alloc _).alloc _) hbel) | skip); (first | have Q0 := Lib.hid (Sl.below Q0.out hbel) | have Q0 := Lib.hid (Sl.below (Q0.out.alloc _) hbel) | have Q0 := Lib.hid (Sl.below ((Q0.out.alloc _).alloc _) hbel) | have Q0 := Lib.hid (Sl.below (((Q0.out.alloc _).alloc _).alloc _) hbel) | skip); (first | have W := Lib.hid (Since.below W.out hbel) | have W := Lib.hid (Since.below (W.out.alloc _) hbel) | have W := Lib.hid (Since.below ((W.out.alloc _).alloc _) hbel) | have W := Lib.hid (Since.below (((W.out.alloc _).alloc _).alloc _) hbel) | skip); (first | have G := Lib.hid (GfAt.below G.out hbel) | have G := Lib.hid (GfAt.below (G.out.alloc _) hbel) | have G := Lib.hid (GfAt.below ((G.out.alloc _).alloc _) hbel) | have G := Lib.hid (GfAt.below (((G.out.alloc _).alloc _).alloc _) hbel) | skip); (first | have B9 := Lib.hid (Sl.below B9.out hbel) | have B9 := Lib.hid (Sl.below (B9.out.alloc _) hbel) | have B9 := Lib.hid (Sl.below ((B9.out.alloc _).alloc _) hbel) | have B9 := Lib.hid (Sl.below (((B9.out.alloc _).alloc _).alloc _) hbel) | skip); have G : Hid (GfAt W2 _) := hg; clear hbel)
        | (go_at_call 12; (with_reducible refine (KS.out _ _ ?_ ?_ ?_).mono ?_); (first | exact G.out | exact G.out.alloc _ | exact (G.out.alloc _).alloc _ | exact ((G.out.alloc _).alloc _).alloc _ | exact (((G.out.alloc _).alloc _).alloc _).alloc _); (first | exact P0.out | exact P0.out.alloc _ | exact (P0.out.alloc _).alloc _ | exact ((P0.out.alloc _).alloc _).alloc _ | exact (((P0.out.alloc _).alloc _).alloc _).alloc _); (first | exact Q0.out | exact Q0.out.alloc _ | exact (Q0.out.alloc _).alloc _ | exact ((Q0.out.alloc _).alloc _).alloc _ | exact (((Q0.out.alloc _).alloc _).alloc _).alloc _); rintro e W3 ⟨hb, l', o', er', A11, c11, A12, c12, rfl, h5, h6, hk⟩; have hbel : Below _ _ W3 := hb; (first | have P0 := Lib.hid (Sl.below P0.out hbel) | have P0 := Lib.hid (Sl.below (P0.out.alloc _) hbel) | have P0 := Lib.hid (Sl.below ((P0.out.alloc _).alloc _) hbel) | have P0 := Lib.hid (Sl.below (((P0.out.alloc _).alloc _).alloc _) hbel) | skip); (first | have Q0 := Lib.hid (Sl.below Q0.out hbel) | have Q0 := Lib.hid (Sl.below (Q0.out.alloc _) hbel) | have Q0 := Lib.hid (Sl.below ((Q0.out.alloc _).alloc _) hbel) | have Q0 := Lib.hid (Sl.below (((Q0.out.alloc _).alloc _).alloc _) hbel) | skip); (first | have W := Lib.hid (Since.below W.out hbel) | have W := Lib.hid (Since.below (W.out.alloc _) hbel) | have W := Lib.hid (Since.below ((W.out.alloc _).alloc _) hbel) | have W := Lib.hid (Since.below (((W.out.alloc _).alloc _).alloc _) hbel) | skip); (first | have G := Lib.hid (GfAt.below G.out hbel) | have G := Lib.hid (GfAt.below (G.out.alloc _) hbel) | have G := Lib.hid (GfAt.below ((G.out.alloc _).alloc _) hbel) | have G := Lib.hid (GfAt.below (((G.out.alloc _).alloc _).alloc _) hbel) | skip); (first | have B9 := Lib.hid (Sl.below B9.out hbel) | have B9 := Lib.hid (Sl.below (B9.out.alloc _) hbel) | have B9 := Lib.hid (Sl.below ((B9.out.alloc _).alloc _) hbel) | have B9 := Lib.hid (Sl.below (((B9.out.alloc _).alloc _).alloc _) hbel) | skip); obtain ⟨rfl, rfl, rfl⟩ := hk.eq KA.out; clear hk h5 h6; clear hbel)
        | (go_at_call 17; (with_reducible refine (NM.out _ ?_).mono ?_); (first | exact Q0.out | exact Q0.out.alloc _ | exact (Q0.out.alloc _).alloc _ | exact ((Q0.out.alloc _).alloc _).alloc _ | exact (((Q0.out.alloc _).alloc _).alloc _).alloc _); rintro e W4 ⟨A9, c9, rfl, h9, hb⟩; have hbel : Below _ _ W4 := hb; (first | have P0 := Lib.hid (Sl.below P0.out hbel) | have P0 := Lib.hid (Sl.below (P0.out.alloc _) hbel) | have P0 := Lib.hid (Sl.below ((P0.out.alloc _).alloc _) hbel) | have P0 := Lib.hid (Sl.below (((P0.out.alloc _).alloc _).alloc _) hbel) | skip); (first | have Q0 := Lib.hid (Sl.below Q0.out hbel) | have Q0 := Lib.hid (Sl.below (Q0.out.alloc _) hbel) | have Q0 := Lib.hid (Sl.below ((Q0.out.alloc _).alloc _) hbel) | have Q0 := Lib.hid (Sl.below (((Q0.out.alloc _).alloc _).alloc _) hbel) | skip); (first | have W := Lib.hid (Since.below W.out hbel) | have W := Lib.hid (Since.below (W.out.alloc _) hbel) | have W := Lib.hid (Since.below ((W.out.alloc _).alloc _) hbel) | have W := Lib.hid (Since.below (((W.out.alloc _).alloc _).alloc _) hbel) | skip); (first | have G := Lib.hid (GfAt.below G.out hbel) | have G := Lib.hid (GfAt.below (G.out.alloc _) hbel) | have G := Lib.hid (GfAt.below ((G.out.alloc _).alloc _) hbel) | have G := Lib.hid (GfAt.below (((G.out.alloc _).alloc _).alloc _) hbel) | skip); (first | have B9 := Lib.hid (Sl.below B9.out hbel) | have B9 := Lib.hid (Sl.below (B9.out.alloc _) hbel) | have B9 := Lib.hid (Sl.below ((B9.out.alloc _).alloc _) hbel) | have B9 := Lib.hid (Sl.below (((B9.out.alloc _).alloc _).alloc _) hbel) | skip); have B9 : Hid (Bs W4 A9 c9 (norm known)) := h9; clear hbel))
      go_ret
      exact ⟨rfl, W.out⟩
    · have d0 : ((gl : Int) == 0) = false := by rw [beq_eq_false_iff_ne]; omega
      have d1 : (s.length : Int) < (gl : Int) - 1 := by omega
      clear hbad hgl
      have P0 := Lib.hid r0
      have Q0 := Lib.hid r1
      have W := Lib.hid (Since.refl w)
      clear r0 r1
      go_enter Try.func5, Try.ntmps5
      go_wp2_with (first
        | (go_at_call 10; (with_reducible refine (awake9 _).mono ?_); rintro e W1 ⟨rfl, hb⟩; have hbel : Below _ _ W1 := hb; (first | have P0 := Lib.hid (Sl.below P0.out hbel) | have P0 := Lib.hid (Sl.below (P0.out.alloc _) hbel) | have P0 := Lib.hid (Sl.below ((P0.out.alloc _).alloc _) hbel) | have P0 := Lib.hid (Sl.below (((P0.out.alloc _).alloc _).alloc _) hbel) | skip); (first | have Q0 := Lib.hid (Sl.below Q0.out hbel) | have Q0 := Lib.hid (Sl.below (Q0.out.alloc _) hbel) | have Q0 := Lib.hid (Sl.below ((Q0.out.alloc _).alloc _) hbel) | have Q0 := Lib.hid (Sl.below (((Q0.out.alloc _).alloc _).alloc _) hbel) | skip); (first | have W := Lib.hid (Since.below W.out hbel) | have W := Lib.hid (Since.below (W.out.alloc _) hbel) | have W := Lib.hid (Since.below ((W.out.alloc _).alloc _) hbel) | have W := Lib.hid (Since.below (((W.out.alloc _).alloc _).alloc _) hbel) | skip); (first | have G := Lib.hid (GfAt.below G.out hbel) | have G := Lib.hid (GfAt.below (G.out.alloc _) hbel) | have G := Lib.hid (GfAt.below ((G.out.alloc _).alloc _) hbel) | have G := Lib.hid (GfAt.below (((G.out.alloc _).alloc _).alloc _) hbel) | skip); (first | have B9 := Lib.hid (Sl.below B9.out hbel) | have B9 := Lib.hid (Sl.below (B9.out.alloc _) hbel) | have B9 := Lib.hid (Sl.below ((B9.out.alloc _).alloc _) hbel) | have B9 := Lib.hid (Sl.below (((B9.out.alloc _).alloc _).alloc _) hbel) | skip); clear hbel)
        | (go_at_call 11; (with_reducible refine (new_any _).mono ?_); rintro e W2 ⟨rfl, hb, hg⟩; have hbel : Below _ _ W2 := hb; (first | have P0 := Lib.hid (Sl.below P0.out hbel) | have P0 := Lib.hid (Sl.below (P0.out.alloc _) hbel) | have P0 := Lib.hid (Sl.below ((P0.out.alloc _).alloc _) hbel) | have P0 := Lib.hid (Sl.below (((P0.out.alloc _).alloc _).alloc _) hbel) | skip); (first | have Q0 := Lib.hid (Sl.below Q0.out hbel) | have Q0 := Lib.hid (Sl.below (Q0.out.alloc _) hbel) | have Q0 := Lib.hid (Sl.below ((Q0.out.alloc _).alloc _) hbel) | have Q0 := Lib.hid (Sl.below (((Q0.out.alloc _).alloc _).alloc _) hbel) | skip); (first | have W := Lib.hid (Since.below W.out hbel) | have W := Lib.hid (Since.below (W.out.alloc _) hbel) | have W := Lib.hid (Since.below ((W.out.alloc _).alloc _) hbel) | have W := Lib.hid (Since.below (((W.out.alloc _).alloc _).alloc _) hbel) | skip); (first | have G := Lib.hid (GfAt.below G.out hbel) | have G := Lib.hid (GfAt.below (G.out.alloc _) hbel) | have G := Lib.hid (GfAt.below ((G.out.alloc _).alloc _) hbel) | have G := Lib.hid (GfAt.below (((G.out.alloc _).alloc _).alloc _) hbel) | skip); (first | have B9 := Lib.hid (Sl.below B9.out hbel) | have B9 := Lib.hid (Sl.below (B9.out.alloc _) hbel) | have B9 := Lib.hid (Sl.below ((B9.out.alloc _).alloc _) hbel) | have B9 := Lib.hid (Sl.below (((B9.out.alloc _).alloc _).alloc _) hbel) | skip); have G : Hid (GfAt W2 _) := hg; clear hbel)
        | (go_at_call 12; (with_reducible refine (KS.out _ _ ?_ ?_ ?_).mono ?_); (first | exact G.out | exact G.out.alloc _ | exact (G.out.alloc _).alloc _ | exact ((G.out.alloc _).alloc _).alloc _ | exact (((G.out.alloc _).alloc _).alloc _).alloc _); (first | exact P0.out | exact P0.out.alloc _ | exact (P0.out.alloc _).alloc _ | exact ((P0.out.alloc _).alloc _).alloc _ | exact (((P0.out.alloc _).alloc _).alloc _).alloc _); (first | exact Q0.out | exact Q0.out.alloc _ | exact (Q0.out.alloc _).alloc _ | exact ((Q0.out.alloc _).alloc _).alloc _ | exact (((Q0.out.alloc _).alloc _).alloc _).alloc _); rintro e W3 ⟨hb, l', o', er', A11, c11, A12, c12, rfl, h5, h6, hk⟩; have hbel : Below _ _ W3 := hb; (first | have P0 := Lib.hid (Sl.below P0.out hbel) | have P0 := Lib.hid (Sl.below (P0.out.alloc _) hbel) | have P0 := Lib.hid (Sl.below ((P0.out.alloc _).alloc _) hbel) | have P0 := Lib.hid (Sl.below (((P0.out.alloc _).alloc _).alloc _) hbel) | skip); (first | have Q0 := Lib.hid (Sl.below Q0.out hbel) | have Q0 := Lib.hid (Sl.below (Q0.out.alloc _) hbel) | have Q0 := Lib.hid (Sl.below ((Q0.out.alloc _).alloc _) hbel) | have Q0 := Lib.hid (Sl.below (((Q0.out.alloc _).alloc _).alloc _) hbel) | skip); (first | have W := Lib.hid (Since.below W.out hbel) | have W := Lib.hid (Since.below (W.out.alloc _) hbel) | have W := Lib.hid (Since.below ((W.out.alloc _).alloc _) hbel) | have W := Lib.hid (Since.below (((W.out.alloc _).alloc _).alloc _) hbel) | skip); (first | have G := Lib.hid (GfAt.below G.out hbel) | have G := Lib.hid (GfAt.below (G.out.alloc _) hbel) | have G := Lib.hid (GfAt.below ((G.out.alloc _).alloc _) hbel) | have G := Lib.hid (GfAt.below (((G.out.alloc _).alloc _).alloc _) hbel) | skip); (first | have B9 := Lib.hid (Sl.below B9.out hbel) | have B9 := Lib.hid (Sl.below (B9.out.alloc _) hbel) | have B9 := Lib.hid (Sl.below ((B9.out.alloc _).alloc _) hbel) | have B9 := Lib.hid (Sl.below (((B9.out.alloc _).alloc _).alloc _) hbel) | skip); obtain ⟨rfl, rfl, rfl⟩ := hk.eq KA.out; clear hk h5 h6; clear hbel)
        | (go_at_call 17; (with_reducible refine (NM.out _ ?_).mono ?_); (first | exact Q0.out | exact Q0.out.alloc _ | exact (Q0.out.alloc _).alloc _ | exact ((Q0.out.alloc _).alloc _).alloc _ | exact (((Q0.out.alloc _).alloc _).alloc _).alloc _); rintro e W4 ⟨A9, c9, rfl, h9, hb⟩; have hbel : Below _ _ W4 := hb; (first | have P0 := Lib.hid (Sl.below P0.out hbel) | have P0 := Lib.hid (Sl.below (P0.out.alloc _) hbel) | have P0 := Lib.hid (Sl.below ((P0.out.alloc _).alloc _) hbel) | have P0 := Lib.hid (Sl.below (((P0.out.alloc _).alloc _).alloc _) hbel) | skip); (first | have Q0 := Lib.hid (Sl.below Q0.out hbel) | have Q0 := Lib.hid (Sl.below (Q0.out.alloc _) hbel) | have Q0 := Lib.hid (Sl.below ((Q0.out.alloc _).alloc _) hbel) | have Q0 := Lib.hid (Sl.below (((Q0.out.alloc _).alloc _).alloc _) hbel) | skip); (first | have W := Lib.hid (Since.below W.out hbel) | have W := Lib.hid (Since.below (W.out.alloc _) hbel) | have W := Lib.hid (Since.below ((W.out.alloc _).alloc _) hbel) | have W := Lib.hid (Since.below (((W.out.alloc _).alloc _).alloc _) hbel) | skip); (first | have G := Lib.hid (GfAt.below G.out hbel) | have G := Lib.hid (GfAt.below (G.out.alloc _) hbel) | have G := Lib.hid (GfAt.below ((G.out.alloc _).alloc _) hbel) | have G := Lib.hid (GfAt.below (((G.out.alloc _).alloc _).alloc _) hbel) | skip); (first | have B9 := Lib.hid (Sl.below B9.out hbel) | have B9 := Lib.hid (Sl.below (B9.out.alloc _) hbel) | have B9 := Lib.hid (Sl.below ((B9.out.alloc _).alloc _) hbel) | have B9 := Lib.hid (Sl.below (((B9.out.alloc _).alloc _).alloc _) hbel) | skip); have B9 : Hid (Bs W4 A9 c9 (norm known)) := h9; clear hbel))
      go_ret
      exact ⟨rfl, W.out⟩
  by_cases hb : ∃ l o, KeyCase s known l o 0
  rotate_left
  · have KC3 : Hid (∀ l o er, KeyCase s known l o er → l = [] ∧ o = [] ∧ er = 100) := fun l o er h => by
      rcases h.three with rfl | rfl | ⟨h1, h2, h3⟩
      · obtain ⟨rfl, rfl, _⟩ := h.one rfl
        exact absurd h ha
      · exact absurd ⟨l, o, h⟩ hb
      · exact ⟨h2, h3, h1⟩
    clear ha hb hgl
    have P0 := Lib.hid r0
    have Q0 := Lib.hid r1
    have W := Lib.hid (Since.refl w)
    clear r0 r1
    go_enter Try.func5, Try.ntmps5
    go_wp2_with (first
      | (go_at_call 10; (with_reducible refine (awake9 _).mono ?_); rintro e W1 ⟨rfl, hb⟩; have hbel : Below _ _ W1 := hb; (first | have P0 := Lib.hid (Sl.below P0.out hbel) | have P0 := Lib.hid (Sl.below (P0.out.alloc _) hbel) | have P0 := Lib.hid (Sl.below ((P0.out.alloc _).alloc _) hbel) | have P0 := Lib.hid (Sl.below (((P0.out.alloc _).alloc _).alloc _) hbel) | skip); (first | have Q0 := Lib.hid (Sl.below Q0.out hbel) | have Q0 := Lib.hid (Sl.below (Q0.out.alloc _) hbel) | have Q0 := Lib.hid (Sl.below ((Q0.out.alloc _).alloc _) hbel) | have Q0 := Lib.hid (Sl.below (((Q0.out.alloc _).alloc _).alloc _) hbel) | skip); (first | have W := Lib.hid (Since.below W.out hbel) | have W := Lib.hid (Since.below (W.out.alloc _) hbel) | have W := Lib.hid (Since.below ((W.out.alloc _).alloc _) hbel) | have W := Lib.hid (Since.below (((W.out.alloc _).alloc _).alloc _) hbel) | skip); (first | have G := Lib.hid (GfAt.below G.out hbel) | have G := Lib.hid (GfAt.below (G.out.alloc _) hbel) | have G := Lib.hid (GfAt.below ((G.out.alloc _).alloc _) hbel) | have G := Lib.hid (GfAt.below (((G.out.alloc _).alloc _).alloc _) hbel) | skip); (first | have B9 := Lib.hid (Sl.below B9.out hbel) | have B9 := Lib.hid (Sl.below (B9.out.alloc _) hbel) | have B9 := Lib.hid (Sl.below ((B9.out.alloc _).alloc _) hbel) | have B9 := Lib.hid (Sl.below (((B9.out.alloc _).alloc _).alloc _) hbel) | skip); clear hbel)
      | (go_at_call 11; (with_reducible refine (new_any _).mono ?_); rintro e W2 ⟨rfl, hb, hg⟩; have hbel : Below _ _ W2 := hb; (first | have P0 := Lib.hid (Sl.below P0.out hbel) | have P0 := Lib.hid (Sl.below (P0.out.alloc _) hbel) | have P0 := Lib.hid (Sl.below ((P0.out.alloc _).alloc _) hbel) | have P0 := Lib.hid (Sl.below (((P0.out.alloc _).alloc _).alloc _) hbel) | skip); (first | have Q0 := Lib.hid (Sl.below Q0.out hbel) | have Q0 := Lib.hid (Sl.below (Q0.out.alloc _) hbel) | have Q0 := Lib.hid (Sl.below ((Q0.out.alloc _).alloc _) hbel) | have Q0 := Lib.hid (Sl.below (((Q0.out.alloc _).alloc _).alloc _) hbel) | skip); (first | have W := Lib.hid (Since.below W.out hbel) | have W := Lib.hid (Since.below (W.out.alloc _) hbel) | have W := Lib.hid (Since.below ((W.out.alloc _).alloc _) hbel) | have W := Lib.hid (Since.below (((W.out.alloc _).alloc _).alloc _) hbel) | skip); (first | have G := Lib.hid (GfAt.below G.out hbel) | have G := Lib.hid (GfAt.below (G.out.alloc _) hbel) | have G := Lib.hid (GfAt.below ((G.out.alloc _).alloc _) hbel) | have G := Lib.hid (GfAt.below (((G.out.alloc _).alloc _).alloc _) hbel) | skip); (first | have B9 := Lib.hid (Sl.below B9.out hbel) | have B9 := Lib.hid (Sl.below (B9.out.alloc _) hbel) | have B9 := Lib.hid (Sl.below ((B9.out.alloc _).alloc _) hbel) | have B9 := Lib.hid (Sl.below (((B9.out.alloc _).alloc _).alloc _) hbel) | skip); have G : Hid (GfAt W2 _) := hg; clear hbel)
      | (go_at_call 12; (with_reducible refine (KS.out _ _ ?_ ?_ ?_).mono ?_); (first | exact G.out | exact G.out.alloc _ | exact (G.out.alloc _).alloc _ | exact ((G.out.alloc _).alloc _).alloc _ | exact (((G.out.alloc _).alloc _).alloc _).alloc _); (first | exact P0.out | exact P0.out.alloc _ | exact (P0.out.alloc _).alloc _ | exact ((P0.out.alloc _).alloc _).alloc _ | exact (((P0.out.alloc _).alloc _).alloc _).alloc _); (first | exact Q0.out | exact Q0.out.alloc _ | exact (Q0.out.alloc _).alloc _ | exact ((Q0.out.alloc _).alloc _).alloc _ | exact (((Q0.out.alloc _).alloc _).alloc _).alloc _); rintro e W3 ⟨hb, l', o', er', A11, c11, A12, c12, rfl, h5, h6, hk⟩; have hbel : Below _ _ W3 := hb; (first | have P0 := Lib.hid (Sl.below P0.out hbel) | have P0 := Lib.hid (Sl.below (P0.out.alloc _) hbel) | have P0 := Lib.hid (Sl.below ((P0.out.alloc _).alloc _) hbel) | have P0 := Lib.hid (Sl.below (((P0.out.alloc _).alloc _).alloc _) hbel) | skip); (first | have Q0 := Lib.hid (Sl.below Q0.out hbel) | have Q0 := Lib.hid (Sl.below (Q0.out.alloc _) hbel) | have Q0 := Lib.hid (Sl.below ((Q0.out.alloc _).alloc _) hbel) | have Q0 := Lib.hid (Sl.below (((Q0.out.alloc _).alloc _).alloc _) hbel) | skip); (first | have W := Lib.hid (Since.below W.out hbel) | have W := Lib.hid (Since.below (W.out.alloc _) hbel) | have W := Lib.hid (Since.below ((W.out.alloc _).alloc _) hbel) | have W := Lib.hid (Since.below (((W.out.alloc _).alloc _).alloc _) hbel) | skip); (first | have G := Lib.hid (GfAt.below G.out hbel) | have G := Lib.hid (GfAt.below (G.out.alloc _) hbel) | have G := Lib.hid (GfAt.below ((G.out.alloc _).alloc _) hbel) | have G := Lib.hid (GfAt.below (((G.out.alloc _).alloc _).alloc _) hbel) | skip); (first | have B9 := Lib.hid (Sl.below B9.out hbel) | have B9 := Lib.hid (Sl.below (B9.out.alloc _) hbel) | have B9 := Lib.hid (Sl.below ((B9.out.alloc _).alloc _) hbel) | have B9 := Lib.hid (Sl.below (((B9.out.alloc _).alloc _).alloc _) hbel) | skip); obtain ⟨rfl, rfl, rfl⟩ := KC3.out _ _ _ hk; clear hk h5 h6; clear hbel)
      | (go_at_call 17; (with_reducible refine (NM.out _ ?_).mono ?_); (first | exact Q0.out | exact Q0.out.alloc _ | exact (Q0.out.alloc _).alloc _ | exact ((Q0.out.alloc _).alloc _).alloc _ | exact (((Q0.out.alloc _).alloc _).alloc _).alloc _); rintro e W4 ⟨A9, c9, rfl, h9, hb⟩; have hbel : Below _ _ W4 := hb; (first | have P0 := Lib.hid (Sl.below P0.out hbel) | have P0 := Lib.hid (Sl.below (P0.out.alloc _) hbel) | have P0 := Lib.hid (Sl.below ((P0.out.alloc _).alloc _) hbel) | have P0 := Lib.hid (Sl.below (((P0.out.alloc _).alloc _).alloc _) hbel) | skip); (first | have Q0 := Lib.hid (Sl.below Q0.out hbel) | have Q0 := Lib.hid (Sl.below (Q0.out.alloc _) hbel) | have Q0 := Lib.hid (Sl.below ((Q0.out.alloc _).alloc _) hbel) | have Q0 := Lib.hid (Sl.below (((Q0.out.alloc _).alloc _).alloc _) hbel) | skip); (first | have W := Lib.hid (Since.below W.out hbel) | have W := Lib.hid (Since.below (W.out.alloc _) hbel) | have W := Lib.hid (Since.below ((W.out.alloc _).alloc _) hbel) | have W := Lib.hid (Since.below (((W.out.alloc _).alloc _).alloc _) hbel) | skip); (first | have G := Lib.hid (GfAt.below G.out hbel) | have G := Lib.hid (GfAt.below (G.out.alloc _) hbel) | have G := Lib.hid (GfAt.below ((G.out.alloc _).alloc _) hbel) | have G := Lib.hid (GfAt.below (((G.out.alloc _).alloc _).alloc _) hbel) | skip); (first | have B9 := Lib.hid (Sl.below B9.out hbel) | have B9 := Lib.hid (Sl.below (B9.out.alloc _) hbel) | have B9 := Lib.hid (Sl.below ((B9.out.alloc _).alloc _) hbel) | have B9 := Lib.hid (Sl.below (((B9.out.alloc _).alloc _).alloc _) hbel) | skip); have B9 : Hid (Bs W4 A9 c9 (norm known)) := h9; clear hbel))
    go_ret
    exact ⟨rfl, W.out⟩
  obtain ⟨l, o, hlo⟩ := hb
  exact fits_main s known l o h1 h2 hlo r0 r1
end Go.Proofs.Ytmcamamfpefffaa
