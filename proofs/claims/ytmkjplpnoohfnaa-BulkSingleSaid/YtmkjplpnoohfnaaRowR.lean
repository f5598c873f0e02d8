/- bulk.Update, where shards or numbers do not fit. -/
import Derived.Test.YtmkjplpnoohfnaaRowQ
namespace Go.Proofs.Ytmkjplpnoohfnaa
open Go.RowKit
set_option linter.unusedVariables false
set_option linter.unusedSimpArgs false
set_option maxRecDepth 1000000 in
set_option maxHeartbeats 4000000 in
theorem bulk_update_no (b k m : Nat) (j : Int) (A1 : Option Addr) (n1 c1 : Nat) (l1 : List F) (A2 : Option Addr) (n2 c2 : Nat) (l2 : List F) (A : Option Addr) (n c : Nat) (vs : List Value) (ls : List (List F)) (w : World) (hkm : okkm k m) (hji : i64ok j) (hg : GfAt w b) (h1 : Bs w A1 c1 l1) (h2 : Bs w A2 c2 l2) (ha : Sl w A c vs) (hb : Bss w vs ls) (hn : ls.length = n) (hn9 : n ≤ 900) (hn1 : l1.length = n1) (hn2 : l2.length = n2) (hk : ¬ (Alk (l1 :: l2 :: ls) ((m : Int) + 2) ∧ 0 ≤ j ∧ j < k)) :
    Calls Try.prog 76 #[fp b, .int .i64 k, .int .i64 m, .int .i64 j, .slice A1 n1 c1, .slice A2 n2 c2, .slice A n c] w fun e w' => e = .returned (.tuple #[.slice none 0 0, .int .i64 60]) ∧ Below w.heap.size w w' := by
  obtain ⟨hk1, hm0, hkm256⟩ := id hkm
  have hkb : k + m ≤ 256 := by omega
  have BS2 : ∀ w', Below w.heap.size w w' → Bss w' ([.slice A1 n1 c1, .slice A2 n2 c2] ++ vs) (l1 :: l2 :: ls) := fun w' hw => ((hb.below hw).cons (h2.below hw) hn2).cons (h1.below hw) hn1
  have OL := Lib.hid (own_lit w [.slice A1 n1 c1, .slice A2 n2 c2] 2 rfl (by decide))
  have HA := Lib.hid ha
  have HB := Lib.hid hb
  have HVN : Hid (vs.length = n) := hb.1.trans hn
  by_cases hal : Alk (l1 :: l2 :: ls) ((m : Int) + 2)
  · have CK : Hid (∀ w' A' c', Below w.heap.size w w' → Sl w' A' c' ([.slice A1 n1 c1, .slice A2 n2 c2] ++ vs) → Calls Try.prog 109 #[fp b, .int .i64 k, .int .i64 m, .int .i64 ((m : Int) + 2), .slice A' (2 + n) c'] w' fun e w'' => ∃ A' c', e = .returned (.tuple #[.agg #[.int .i64 (m : Int), .int .i64 (k : Int), .slice A' (m * k) c'], .int .i64 0]) ∧ Bs w'' A' c' (matL m k (parF k)) ∧ Below w'.heap.size w' w'') := fun w' A' c' hw hs =>
      bulk_checked_yes b k m _ A' (2 + n) c' _ (l1 :: l2 :: ls) w' hkm (hg.below hw) hs (BS2 w' hw) (by simp only [List.length_cons]; omega) (by omega) hal
    have hj : j < 0 ∨ (k : Int) ≤ j := by
      rcases Int.lt_or_le j 0 with h | h
      · exact .inl h
      · rcases Int.lt_or_le j k with h' | h'
        · exact absurd ⟨hal, h, h'⟩ hk
        · exact .inr h'
    clear ha hb hn hk hkm hg h1 h2 hm0 hkm256 BS2 hal hn1 hn2
    unfold fp at CK ⊢
    obtain ⟨mk, hmk⟩ : ∃ mk, m * k = mk := ⟨_, rfl⟩
    rw [hmk] at CK
    clear hmk
    by_cases hj0 : j < 0
    · have d0 : decide (j < 0) = true := decide_eq_true hj0
      clear hj
      go_enter Try.func76, Try.ntmps76
      go_wp2_with (first
        | (at_builtin; refine app_spines _ rfl _ _ rfl w.heap.size (some ⟨w.heap.size, 0, none⟩) 2 2 [.slice A1 n1 c1, .slice A2 n2 c2] rfl OL.out A c n vs rfl (HA.out.alloc _) HVN.out HB.out.one (by omega) (by simp) ?_; intro Aa ca wa hoa hga; have SA := Lib.hid (own_sl hoa); have BA := Lib.hid (below_lit hga); clear hoa hga)
        | (go_at_call 109; (with_reducible refine (CK.out _ _ _ BA.out SA.out).mono ?_); rintro e w1 ⟨Ap, cp, rfl, _, hb1⟩; have BW : Hid (Below w.heap.size w (w1.alloc (.cells #[.int .i64 (m : Int), .int .i64 (k : Int), .slice Ap mk cp] 30))) := (BA.out.trans (hb1.mono BA.out.size)).alloc (BA.out.trans (hb1.mono BA.out.size)).size _; clear hb1))
      go_ret2
      exact ⟨rfl, BW.out⟩
    · have hjk : (k : Int) ≤ j := by omega
      have d0 : decide (j < 0) = false := decide_eq_false hj0
      have d1 : decide ((k : Int) ≤ j) = true := decide_eq_true hjk
      clear hj
      go_enter Try.func76, Try.ntmps76
      go_wp2_with (first
        | (at_builtin; refine app_spines _ rfl _ _ rfl w.heap.size (some ⟨w.heap.size, 0, none⟩) 2 2 [.slice A1 n1 c1, .slice A2 n2 c2] rfl OL.out A c n vs rfl (HA.out.alloc _) HVN.out HB.out.one (by omega) (by simp) ?_; intro Aa ca wa hoa hga; have SA := Lib.hid (own_sl hoa); have BA := Lib.hid (below_lit hga); clear hoa hga)
        | (go_at_call 109; (with_reducible refine (CK.out _ _ _ BA.out SA.out).mono ?_); rintro e w1 ⟨Ap, cp, rfl, _, hb1⟩; have BW : Hid (Below w.heap.size w (w1.alloc (.cells #[.int .i64 (m : Int), .int .i64 (k : Int), .slice Ap mk cp] 30))) := (BA.out.trans (hb1.mono BA.out.size)).alloc (BA.out.trans (hb1.mono BA.out.size)).size _; clear hb1))
      go_ret2
      exact ⟨rfl, BW.out⟩
  · have CK : Hid (∀ w' A' c', Below w.heap.size w w' → Sl w' A' c' ([.slice A1 n1 c1, .slice A2 n2 c2] ++ vs) → Calls Try.prog 109 #[fp b, .int .i64 k, .int .i64 m, .int .i64 ((m : Int) + 2), .slice A' (2 + n) c'] w' fun e w'' => ∃ A' c', e = .returned (.tuple #[.agg #[.int .i64 (m : Int), .int .i64 (k : Int), .slice A' (m * k) c'], .int .i64 60]) ∧ Below w'.heap.size w' w'') := fun w' A' c' hw hs =>
      bulk_checked_no b k m _ A' (2 + n) c' _ (l1 :: l2 :: ls) w' hkm (hg.below hw) hs (BS2 w' hw) (by simp only [List.length_cons]; omega) (by omega) hal
    clear ha hb hn hk hkm hg h1 h2 hm0 hkm256 BS2 hal hn1 hn2
    unfold fp at CK ⊢
    obtain ⟨mk, hmk⟩ : ∃ mk, m * k = mk := ⟨_, rfl⟩
    rw [hmk] at CK
    clear hmk
    go_enter Try.func76, Try.ntmps76
    go_wp2_with (first
      | (at_builtin; refine app_spines _ rfl _ _ rfl w.heap.size (some ⟨w.heap.size, 0, none⟩) 2 2 [.slice A1 n1 c1, .slice A2 n2 c2] rfl OL.out A c n vs rfl (HA.out.alloc _) HVN.out HB.out.one (by omega) (by simp) ?_; intro Aa ca wa hoa hga; have SA := Lib.hid (own_sl hoa); have BA := Lib.hid (below_lit hga); clear hoa hga)
      | (go_at_call 109; (with_reducible refine (CK.out _ _ _ BA.out SA.out).mono ?_); rintro e w1 ⟨Ap, cp, rfl, hb1⟩; have BW : Hid (Below w.heap.size w (w1.alloc (.cells #[.int .i64 (m : Int), .int .i64 (k : Int), .slice Ap mk cp] 30))) := (BA.out.trans (hb1.mono BA.out.size)).alloc (BA.out.trans (hb1.mono BA.out.size)).size _; clear hb1))
    go_ret2
    exact ⟨rfl, BW.out⟩
set_option maxRecDepth 1000000 in
theorem bulk_update_bad (b : Nat) (k m j : Int) (A1 : Option Addr) (n1 c1 : Nat) (l1 : List F) (A2 : Option Addr) (n2 c2 : Nat) (l2 : List F) (A : Option Addr) (n c : Nat) (vs : List Value) (ls : List (List F)) (w : World) (hk : i64ok k) (hm : i64ok m) (hkm : ¬ okkm k m) (ha : Sl w A c vs) (hb : Bss w vs ls) (hn : ls.length = n) (hn9 : n ≤ 900) :
    Calls Try.prog 76 #[fp b, .int .i64 k, .int .i64 m, .int .i64 j, .slice A1 n1 c1, .slice A2 n2 c2, .slice A n c] w fun e w' => e = .returned (.tuple #[.slice none 0 0, .int .i64 50]) ∧ Below w.heap.size w w' := by
  have CK : Hid (∀ N A' n' c' w', Calls Try.prog 109 #[fp b, .int .i64 k, .int .i64 m, .int .i64 N, .slice A' n' c'] w' fun e w'' => e = .returned (.tuple #[noMat, .int .i64 50]) ∧ Below w'.heap.size w' w'') := fun N A' n' c' w' => bulk_checked_bad b k m N A' n' c' w' hk hm hkm
  have OL := Lib.hid (own_lit w [.slice A1 n1 c1, .slice A2 n2 c2] 2 rfl (by decide))
  have HA := Lib.hid ha
  have HB := Lib.hid hb
  have HVN : Hid (vs.length = n) := hb.1.trans hn
  clear hk hm hkm ha hb hn
  unfold fp noMat at CK
  unfold fp
  go_enter Try.func76, Try.ntmps76
  go_wp2_with (first
    | (at_builtin; refine app_spines _ rfl _ _ rfl w.heap.size (some ⟨w.heap.size, 0, none⟩) 2 2 [.slice A1 n1 c1, .slice A2 n2 c2] rfl OL.out A c n vs rfl (HA.out.alloc _) HVN.out HB.out.one (by omega) (by simp) ?_; intro Aa ca wa hoa hga; have BA := Lib.hid (below_lit hga); clear hoa hga)
    | (go_at_call 109; (with_reducible refine (CK.out _ _ _ _ _).mono ?_); rintro e w1 ⟨rfl, hb1⟩; have BW := Lib.hid (BA.out.trans (hb1.mono BA.out.size)); clear hb1))
  go_ret2
  exact ⟨rfl, BW.out.alloc BW.out.size _⟩
end Go.Proofs.Ytmkjplpnoohfnaa
