/- The document's Solve, walked. -/
import Derived.Test.YtmcamamfpefffaaK4
import Derived.Test.YtmcamamfpefffaaKcase
namespace Go.Proofs.Ytmcamamfpefffaa
open Go.RowKit
set_option linter.unusedVariables false
set_option linter.unusedSimpArgs false
def KeyR (w : World) (s known : List F) (ed : Ending) (w' : World) : Prop :=
  Below w.heap.size w w' ∧ ∃ (l o : List F) (er : Int) (A1 : Option Addr) (c1 : Nat) (A2 : Option Addr) (c2 : Nat), ed = .returned (.tuple #[.slice A1 l.length c1, .slice A2 o.length c2, .int .i64 er]) ∧ Bs w' A1 c1 l ∧ Bs w' A2 c2 o ∧ KeyCase s known l o er
theorem KeyR.bad {w w' : World} {s known : List F} {ed : Ending} (hb : Below w.heap.size w w') (h : (norm known).length = 0 ∨ s.length + 1 < (norm known).length) (he : ed = .returned (.tuple #[.slice none 0 0, .slice none 0 0, .int .i64 1])) : KeyR w s known ed w' :=
  ⟨hb, [], [], 1, none, 0, none, 0, he, Bs.nil _, Bs.nil _, .inl ⟨h, rfl, rfl, rfl⟩⟩
theorem KeyR.many {w w' : World} {s known : List F} {ed : Ending} {e : Nat} (hb : Below w.heap.size w w') (h : (norm known).length = e + 1) (h2 : e ≤ s.length) (hk : KeyMany (keyP s known) s.length e) (he : ed = .returned (.tuple #[.slice none 0 0, .slice none 0 0, .int .i64 100])) : KeyR w s known ed w' :=
  ⟨hb, [], [], 100, none, 0, none, 0, he, Bs.nil _, Bs.nil _, .inr ⟨e, h, h2, .inr ⟨rfl, rfl, rfl, hk⟩⟩⟩
theorem LocatedR.yes {w w' : World} {p : List F} {m e t : Nat} {ed : Ending} (h : LocatedR w p m e t ed w') (hu : Uq (cf p) m e t) : Below w.heap.size w w' ∧ ∃ (A : Option Addr) (c : Nat) (l : List F), ed = .returned (.tuple #[.slice A (t + 1 : Nat) c, .bool true]) ∧ Loc (cf p) m e t l ∧ (∀ l', Loc (cf p) m e t l' → l' = l) ∧ Bs w' A c l := by
  obtain ⟨h1, ⟨l, A, c, h2⟩ | ⟨A, n, c, h2, h3⟩⟩ := h
  · exact ⟨h1, A, c, l, h2⟩
  · exact absurd hu h3
theorem LocatedR.no {w w' : World} {p : List F} {m e t : Nat} {ed : Ending} (h : LocatedR w p m e t ed w') (hu : ¬ Uq (cf p) m e t) : Below w.heap.size w w' ∧ ∃ (A : Option Addr) (n c : Nat), ed = .returned (.tuple #[.slice A n c, .bool false]) := by
  obtain ⟨h1, ⟨l, A, c, h2, h3, h4, _⟩ | ⟨A, n, c, h2, h3⟩⟩ := h
  · exact absurd ⟨l, h3, h4⟩ hu
  · exact ⟨h1, A, n, c, h2⟩
set_option maxRecDepth 1000000 in
set_option maxHeartbeats 4000000 in
theorem ref09_solve (A : Option Addr) (c : Nat) (s : List F) (A2 : Option Addr) (c2 : Nat) (known : List F) (w : World) (ha : Bs w A c s) (ha2 : Bs w A2 c2 known) (hs : s.length ≤ 500) (hk : known.length ≤ 100000) :
    Calls Try.prog 13 #[.slice A s.length c, .slice A2 known.length c2] w (KeyR w s known) := by
  have NM : Hid (Calls Try.prog 32 #[.slice A2 known.length c2] w fun ed w' => ∃ A' c', ed = .returned (.slice A' (norm known).length c') ∧ Made w w' A' c' (norm known)) := ref_norm A2 c2 known w ha2 (by omega)
  have gl_le := length_norm_le known
  by_cases hbad : (norm known).length = 0 ∨ s.length + 1 < (norm known).length
  · have BAD : Hid (∀ ed w', Below w.heap.size w w' → ed = .returned (.tuple #[.slice none 0 0, .slice none 0 0, .int .i64 1]) → KeyR w s known ed w') := fun ed w' hb he => KeyR.bad hb hbad he
    unfold KeyR at BAD ⊢
    generalize (norm known).length = gl at *
    generalize norm known = g at *
    generalize s.length = m at *
    generalize known.length = kl at *
    clear ha ha2
    rcases hbad with rfl | hbad
    · have e0 : ((0 : Nat) : Int) - 1 = -1 := rfl
      go_enter Try.func13, Try.ntmps13
      go_wp2_with (go_at_call 32; (with_reducible refine NM.out.mono ?_); rintro ed w1 ⟨A3, c3, rfl, hm⟩; have HM := Lib.hid hm.bel; clear hm)
      go_ret3
      exact BAD.out _ _ HM.out rfl
    · obtain ⟨e, rfl⟩ : ∃ e, gl = e + 1 := ⟨gl - 1, by omega⟩
      have e0 : ((e + 1 : Nat) : Int) - 1 = (e : Int) := by omega
      have e1 : ¬ (e : Int) < 0 := by omega
      have e2 : (m : Int) < (e : Int) := by omega
      have e3 : decide (m < e) = true := decide_eq_true (by omega)
      go_enter Try.func13, Try.ntmps13
      go_wp2_with (go_at_call 32; (with_reducible refine NM.out.mono ?_); rintro ed w1 ⟨A3, c3, rfl, hm⟩; have HM := Lib.hid hm.bel; clear hm)
      go_ret3
      exact BAD.out _ _ HM.out rfl
  · have HS := Lib.hid ha
    obtain ⟨e, he⟩ : ∃ e, (norm known).length = e + 1 := ⟨(norm known).length - 1, by omega⟩
    have hem : e ≤ s.length := by omega
    have MANY : Hid (∀ ed w', Below w.heap.size w w' → KeyMany (keyP s known) s.length e → ed = .returned (.tuple #[.slice none 0 0, .slice none 0 0, .int .i64 100]) → KeyR w s known ed w') := fun ed w' hb hk hed => KeyR.many hb he hem hk hed
    have OK : Hid (∀ (l o : List F) (A1 : Option Addr) (c1 ol : Nat) (A2 : Option Addr) (c2 t : Nat) (w' : World), Below w.heap.size w w' → l.length = t + 1 → o.length = ol → Bs w' A1 c1 l → Bs w' A2 c2 o → KeyOk (keyP s known) s.length e l o → KeyR w s known (.returned (.tuple #[.slice A1 (t + 1 : Nat) c1, .slice A2 ol c2, .int .i64 0])) w') := fun l o A1 c1 ol A2 c2 t w' hb h1 h2 h3 h4 h5 => ⟨hb, l, o, 0, A1, c1, A2, c2, by rw [h1, h2], h3, h4, .inr ⟨e, he, hem, .inl ⟨rfl, h5⟩⟩⟩
    have pl_le := length_keyP s known
    have TU : Hid (∀ w', Below w.heap.size w w' → Calls Try.prog 34 #[.slice A s.length c] w' fun ed w'' => ∃ A' c', ed = .returned (.slice A' (norm s.reverse).length c') ∧ Bs w'' A' c' (norm s.reverse) ∧ Below w'.heap.size w' w'') := fun w' hb => ref09_turned A c s w' (HS.out.below hb) (by omega)
    have PM : Hid (∀ A3 c3 A4 c4 w', Bs w' A3 c3 (norm known) → Bs w' A4 c4 (norm s.reverse) → Calls Try.prog 33 #[.slice A3 (e + 1 : Nat) c3, .slice A4 (norm s.reverse).length c4] w' fun ed w'' => ∃ A' c', ed = .returned (.slice A' (keyP s known).length c') ∧ Bs w'' A' c' (keyP s known) ∧ Below w'.heap.size w' w'') := fun A3 c3 A4 c4 w' h1 h2 => by
      have := ref_pmul A3 c3 (norm known) A4 c4 (norm s.reverse) w' h1 h2 (by omega) (by have := length_norm_le s.reverse; simp at this; omega)
      rw [keyP_norm, he] at this
      exact this.mono fun ed w'' ⟨A', c', h, hm⟩ => ⟨A', c', h, hm.bs, hm.bel⟩
    have LC : Hid (∀ A5 c5 t w', 2 * t + e ≤ s.length → Bs w' A5 c5 (keyP s known) → Calls Try.prog 35 #[.slice A5 (keyP s known).length c5, .int .i64 s.length, .int .i64 e, .int .i64 t] w' (LocatedR w' (keyP s known) s.length e t)) := fun A5 c5 t w' h1 h2 => ref09_located A5 c5 (keyP s known) s.length e t w' h2 (by omega) h1
    have LM : Hid (∀ (t : Nat) (l : List F) A3 c3 A4 c4 w', t ≤ 1000 → l.length = t + 1 → Bs w' A3 c3 l → Bs w' A4 c4 (keyP s known) → Calls Try.prog 33 #[.slice A3 (t + 1 : Nat) c3, .slice A4 (keyP s known).length c4] w' fun ed w'' => ∃ A' c', ed = .returned (.slice A' (norm (pmul l (keyP s known))).length c') ∧ Bs w'' A' c' (norm (pmul l (keyP s known))) ∧ Below w'.heap.size w' w'') := fun t l A3 c3 A4 c4 w' ht hl h1 h2 => by
      have := ref_pmul A3 c3 l A4 c4 (keyP s known) w' h1 h2 (by omega) (by omega)
      rw [hl] at this
      exact this.mono fun ed w'' ⟨A', c', h, hm⟩ => ⟨A', c', h, hm.bs, hm.bel⟩
    have AL : Hid (∀ (t : Nat) (l : List F), t ≤ 1000 → l.length = t + 1 → (norm (pmul l (keyP s known))).length ≤ 200000) := fun t l ht hl => by
      have h1 := length_norm_le (pmul l (keyP s known))
      have h2 := length_pmul_le' l (keyP s known)
      omega
    rw [he] at NM gl_le
    unfold KeyR at MANY OK ⊢
    have HE := Lib.hid he
    clear ha ha2 HS hbad he pl_le
    generalize (norm s.reverse).length = sl at *
    generalize norm s.reverse = sr at *
    generalize norm known = g at *
    generalize keyP s known = p at *
    generalize hpl : p.length = pl at *
    clear hpl
    generalize s.length = m at *
    generalize known.length = kl at *
    have e0 : ((e + 1 : Nat) : Int) - 1 = (e : Int) := by omega
    have e1 : ¬ (e : Int) < 0 := by omega
    have e2 : ¬ (m : Int) < (e : Int) := by omega
    have e3 : decide (m < e) = false := decide_eq_false (by omega)
    go_enter Try.func13, Try.ntmps13
    go_wp2_with (first
      | (go_at_call 32; (with_reducible refine NM.out.mono ?_); rintro ed w1 ⟨A3, c3, rfl, hm⟩; have HM1 := Lib.hid hm.bel; have HB1 := Lib.hid hm.bs; clear hm)
      | (go_at_call 34; (with_reducible refine (TU.out _ HM1.out).mono ?_); rintro ed w2 ⟨A4, c4, rfl, hb4, hbel⟩; have HB4 := Lib.hid hb4; have HB2 := Lib.hid (HB1.out.below hbel); have HM2 := Lib.hid (HM1.out.trans (hbel.mono HM1.out.size)); clear hb4 hbel)
      | (go_at_call 33; (with_reducible refine (PM.out _ _ _ _ _ HB2.out HB4.out).mono ?_); rintro ed w3 ⟨A5, c5, rfl, hb5, hbel⟩; have HB5 := Lib.hid hb5; have HM3 := Lib.hid (HM2.out.trans (hbel.mono HM2.out.size)); clear hb5 hbel))
    go_loopw [11] (fun v wr => ∃ t : Nat, t ≤ m + 1 ∧ v = .int .i64 t ∧ (∀ t', t' < t → 2 * t' + e ≤ m → ¬ Uq (cf p) m e t') ∧ Below w3.heap.size w3 wr) (fun v _ => m + 1 - (intOf v).toNat)
    case atStart => exact ⟨0, Nat.zero_le _, rfl, fun t' h => absurd h (Nat.not_lt_zero _), Below.refl _ _⟩
    case round =>
      obtain ⟨t, ht, rfl, hno, hbel⟩ := hrel
      have NO := Lib.hid hno
      have HB := Lib.hid hbel
      clear hno hbel
      by_cases hlt : 2 * t + e ≤ m
      · have hlt2 : 2 * (t : Int) + (e : Int) ≤ (m : Int) := by omega
        have HW : Hid (Below w.heap.size w wr) := HM3.out.trans (HB.out.mono HM3.out.size)
        have HP := Lib.hid (HB5.out.below HB.out)
        have LCt := Lib.hid (LC.out A5 c5 t wr hlt HP.out)
        by_cases hu : Uq (cf p) m e t
        · have LCY : Hid (Calls Try.prog 35 #[.slice A5 pl c5, .int .i64 m, .int .i64 e, .int .i64 t] wr fun ed w' => Below wr.heap.size wr w' ∧ ∃ (A : Option Addr) (c : Nat) (l : List F), ed = .returned (.tuple #[.slice A (t + 1 : Nat) c, .bool true]) ∧ Loc (cf p) m e t l ∧ (∀ l', Loc (cf p) m e t l' → l' = l) ∧ Bs w' A c l) := LCt.out.mono fun _ _ h => h.yes hu
          clear LCt hu
          go_wp2_with (first
            | (go_at_call 35; (with_reducible refine LCY.out.mono ?_); rintro ed w4 ⟨hb4, A6, c6, l, rfl, hloc, huni, hbl⟩; have HW4 := Lib.hid (HW.out.trans (hb4.mono HW.out.size)); have HP4 := Lib.hid (HP.out.below hb4); have HL4 := Lib.hid hbl; have LOC := Lib.hid hloc; have UNI := Lib.hid huni; clear hb4 hloc huni hbl)
            | (go_at_call 33; (with_reducible refine (LM.out t l _ _ _ _ _ (by omega) LOC.out.len HL4.out HP4.out).mono ?_); rintro ed w5 ⟨A7, c7, rfl, hb7, hbel⟩; have HA7 := Lib.hid hb7; have HL5 := Lib.hid (HL4.out.below hbel); have HW5 := Lib.hid (HW4.out.trans (hbel.mono HW4.out.size)); have hal := AL.out t l (by omega) LOC.out.len; clear hb7 hbel))
          have KO : Hid (∀ o, o = (norm (pmul l p)).drop m → KeyOk p m e l o) := fun o ho => ⟨t, hlt, fun t' h => NO.out t' h (by omega), LOC.out, UNI.out, ho⟩
          have LL := Lib.hid LOC.out.len
          clear LOC UNI NO
          generalize hal2 : norm (pmul l p) = al at *
          clear hal2
          have HLA : Hid (al.length = al.length) := rfl
          obtain ⟨k, hk⟩ : ∃ k, k = al.length - m := ⟨_, rfl⟩
          have UA : Hid (upN al m k = al.drop m) := by show _ = _; rw [hk]; exact upN_all al m
          have RD : Hid (∀ j w', j < k → Below w5.heap.size w5 w' → ∃ b2 o2, A7 = some ⟨b2, o2, none⟩ ∧ w'.cell? ⟨b2, o2 + (m + j), none⟩ = some (.int .u8 ((al.getD (m + j) 0).n : Int))) := fun j w' hj hb => by
            obtain ⟨b2, o2, hA, _, hc⟩ := Bs.at' (HA7.out.below hb) (by omega)
            exact ⟨b2, o2, hA, hc (m + j) (by omega)⟩
          have hmk : ∀ j, m + j < al.length ↔ j < k := fun j => by omega
          have HMK := Lib.hid hmk
          have hk2 : k ≤ 200000 := by omega
          clear hmk hk
          generalize al.length = all at *
          go_loopw [15, 16] (fun v x wi => ∃ (j : Nat) (A8 : Option Addr) (c8 : Nat), j ≤ k ∧ x = .int .i64 ((m + j : Nat) : Int) ∧ v = .slice A8 j c8 ∧ wi.ownsRow w5.heap.size 5 1 (.slice A8 j c8) j ((upN al m j).map bv) ∧ Below w5.heap.size w5 wi) (fun _ x _ => all - (intOf x).toNat)
          case atStart => exact ⟨0, none, 0, Nat.zero_le _, rfl, rfl, World.ownsRow_nil _ _ _ _, Below.refl _ _⟩
          case round =>
            rename World => wi
            obtain ⟨j, A8, c8, hj, rfl, rfl, hown, hbel⟩ := hrel
            have HO := Lib.hid hown
            have HBI := Lib.hid hbel
            have hszi := hbel.size
            clear hown hbel
            by_cases hlj : j < k
            · obtain ⟨b2, o2, hA, y⟩ := RD.out j wi hlj HBI.out
              subst hA
              have hq := (HMK.out j).2 hlj
              have US := Lib.hid (upN_succ al m j)
              obtain ⟨q, hq0⟩ : ∃ q, q = m + j := ⟨_, rfl⟩
              rw [← hq0] at US y hq ⊢
              have HQ := Lib.hid hq0
              clear hq0
              have hq2 : (q : Int) < (all : Int) := by omega
              generalize al.getD q 0 = a at *
              go_wp2_with (at_builtin; refine app_bytes _ rfl _ _ rfl w5.heap.size A8 c8 j (upN al m j) rfl (HO.out.alloc _) _ _ 1 [a] rfl (lit_bs rfl rfl rfl (by decide)) rfl (by omega) (by simp; omega) ?_; intro A9 c9 w9 hown9 hb9; have HO9 := Lib.hid hown9; have HB9 : Hid (Below w5.heap.size w5 w9) := (HBI.out.alloc HBI.out.size _).trans hb9; clear hown9 hb9)
              go_roundw
              case rel => exact ⟨j + 1, A9, c9, by omega, by have := HQ.out; go_num, rfl, by rw [US.out]; exact HO9.out, HB9.out⟩
              case measure => simp [intOf]; omega
            · obtain rfl : k = j := by omega
              have hq : ¬ m + k < all := fun h => absurd ((HMK.out k).1 h) (by omega)
              have hq2 : ¬ ((m + k : Nat) : Int) < (all : Int) := by omega
              go_wp2
              go_ret3
              exact OK.out l (upN al m k) A6 c6 k A8 c8 t _ (HW5.out.trans (HBI.out.mono HW5.out.size)) LL.out (length_upN _ _ _) (HL5.out.below HBI.out) (own_sl HO.out) (KO.out _ UA.out)
        · have LCN : Hid (Calls Try.prog 35 #[.slice A5 pl c5, .int .i64 m, .int .i64 e, .int .i64 t] wr fun ed w' => Below wr.heap.size wr w' ∧ ∃ (A : Option Addr) (n c : Nat), ed = .returned (.tuple #[.slice A n c, .bool false])) := LCt.out.mono fun _ _ h => h.no hu
          have NO2 : Hid (∀ t', t' < t + 1 → 2 * t' + e ≤ m → ¬ Uq (cf p) m e t') := fun t' h h2 => by
            by_cases e9 : t' = t
            · subst e9; exact hu
            · exact NO.out t' (by omega) h2
          clear LCt hu
          go_wp2_with (go_at_call 35; (with_reducible refine LCN.out.mono ?_); rintro ed w4 ⟨hb4, A6, n6, c6, rfl⟩; have HB6 := Lib.hid (HB.out.trans (hb4.mono HB.out.size)); clear hb4)
          go_roundw
          case rel => exact ⟨t + 1, by omega, by go_num, NO2.out, HB6.out⟩
          case measure => simp [intOf]; omega
      · have hlt2 : ¬ 2 * (t : Int) + (e : Int) ≤ (m : Int) := by omega
        have KM : Hid (KeyMany p m e) := fun t' h => NO.out t' (by omega) h
        go_wp2
        go_ret3
        exact MANY.out _ _ (HM3.out.trans (HB.out.mono HM3.out.size)) KM.out rfl
end Go.Proofs.Ytmcamamfpefffaa
