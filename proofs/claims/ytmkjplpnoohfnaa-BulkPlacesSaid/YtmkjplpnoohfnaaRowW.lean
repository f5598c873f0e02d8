/- aumbryref06.Update, where shards or numbers do not fit. -/
import Derived.Test.YtmkjplpnoohfnaaRowV
namespace Go.Proofs.Ytmkjplpnoohfnaa
open Go.RowKit
set_option linter.unusedVariables false
set_option linter.unusedSimpArgs false
set_option maxRecDepth 1000000 in
set_option maxHeartbeats 4000000 in
theorem ref06_update_no (k m : Nat) (j : Int) (A1 : Option Addr) (n1 c1 : Nat) (l1 : List F) (A2 : Option Addr) (n2 c2 : Nat) (l2 : List F) (A : Option Addr) (n c : Nat) (vs : List Value) (ls : List (List F)) (w : World) (hkm : okkm k m) (h1 : Bs w A1 c1 l1) (h2 : Bs w A2 c2 l2) (ha : Sl w A c vs) (hb : Bss w vs ls) (hn : ls.length = n) (hn9 : n ≤ 900) (hn1 : l1.length = n1) (hn2 : l2.length = n2) (hk : ¬ (Alk (l1 :: l2 :: ls) ((m : Int) + 2) ∧ 0 ≤ j ∧ j < k)) :
    Calls Try.prog 77 #[.int .i64 k, .int .i64 m, .int .i64 j, .slice A1 n1 c1, .slice A2 n2 c2, .slice A n c] w fun e w' => e = .returned (.tuple #[.slice none 0 0, .int .i64 60]) ∧ Below w.heap.size w w' := by
  obtain ⟨hk1, hm0, hkm256⟩ := id hkm
  have hkb : k + m ≤ 256 := by omega
  have PA := Lib.hid (ref05_Parity k m hkm w)
  have HA := Lib.hid ha
  have HB := Lib.hid hb
  have HVN : Hid (vs.length = n) := hb.1.trans hn
  by_cases hal : Alk (l1 :: l2 :: ls) ((m : Int) + 2)
  · have AL : Hid (∀ w' A' c', Below w.heap.size w w' → Sl w' A' c' (vs ++ [.slice A1 n1 c1, .slice A2 n2 c2]) → Calls Try.prog 112 #[.slice A' (n + 2) c', .int .i64 ((m : Int) + 2)] w' fun e w'' => e = .returned (.bool true) ∧ Below w'.heap.size w' w'') := fun w' A' c' hw hs =>
      ref06_alike_r A' (n + 2) c' _ (ls ++ [l1, l2]) _ true w' hs ((hb.below hw).append (((Bss.nil w').cons (h2.below hw) hn2).cons (h1.below hw) hn1)) (by simp only [List.length_append, List.length_cons, List.length_nil]; omega) (by omega) ⟨fun _ => alk_turn.2 hal, fun _ => rfl⟩
    have hj : j < 0 ∨ (k : Int) ≤ j := by
      rcases Int.lt_or_le j 0 with h | h
      · exact .inl h
      · rcases Int.lt_or_le j k with h' | h'
        · exact absurd ⟨hal, h, h'⟩ hk
        · exact .inr h'
    clear ha hb hn hk hkm h1 h2 hm0 hkm256 hal hn1 hn2
    generalize matL m k (parF k) = lp at *
    obtain ⟨mk, hmk⟩ : ∃ mk, m * k = mk := ⟨_, rfl⟩
    rw [hmk] at PA
    clear hmk
    by_cases hj0 : j < 0
    · have d0 : decide (j < 0) = true := decide_eq_true hj0
      clear hj
      go_enter Try.func77, Try.ntmps77
      go_wp2_with (first
        | (go_at_call 42; (with_reducible refine PA.out.mono ?_); rintro e w1 ⟨Ap, cp, rfl, ho1, hb1⟩; have BW : Hid (Below w.heap.size w (w1.alloc (.cells #[.int .i64 (m : Int), .int .i64 (k : Int), .slice Ap mk cp] 30))) := hb1.alloc hb1.size _; have OL0 : Hid (((w1.alloc (.cells #[.int .i64 (m : Int), .int .i64 (k : Int), .slice Ap mk cp] 30)).alloc (.cells #[] 28)).ownsRow (w1.heap.size + 1) 28 1 (.slice (some ⟨w1.heap.size + 1, 0, none⟩) 0 0) 0 []) := (by have := own_lit (w1.alloc (.cells #[.int .i64 (m : Int), .int .i64 (k : Int), .slice Ap mk cp] 30)) [] 0 rfl (by decide); rwa [size_alloc'] at this); clear ho1 hb1)
        | (at_builtin; refine app_spines _ rfl _ _ rfl (w1.heap.size + 1) (some ⟨w1.heap.size + 1, 0, none⟩) 0 0 [] rfl OL0.out A c n vs rfl ((HA.out.below BW.out).alloc _) HVN.out HB.out.one (by omega) (by simp) ?_; intro Aa ca wa hoa hga; rw [Nat.zero_add, List.nil_append] at hoa; have OA := Lib.hid hoa; have BA := Lib.hid (below_lit' hga (size_alloc' _ _).symm); have hbas : w1.heap.size + 1 ≤ wa.heap.size := (by have := BA.out.size; rwa [size_alloc'] at this); clear hoa hga)
        | (at_builtin; refine app_spines _ rfl _ _ rfl (w1.heap.size + 1) Aa ca n vs rfl (own_below OA.out (below_alloc _ _)) _ 2 2 [.slice A1 n1 c1, .slice A2 n2 c2] rfl (lit2 _ _ _) rfl two_one (by omega) ?hb ?_; (case hb => simp; omega); intro Ab cb wb hob hgb; have SB := Lib.hid (own_sl hob); have BB : Hid (Below (w1.alloc (.cells #[.int .i64 (m : Int), .int .i64 (k : Int), .slice Ap mk cp] 30)).heap.size (w1.alloc (.cells #[.int .i64 (m : Int), .int .i64 (k : Int), .slice Ap mk cp] 30)) wb) := (by show Below _ _ _; rw [size_alloc']; exact own_grow (by have := BA.out.trans ((below_alloc wa (.cells #[.slice A1 n1 c1, .slice A2 n2 c2] 28)).mono BA.out.size); rwa [size_alloc'] at this) (own_below OA.out (below_alloc _ _)) hgb (by simp; omega)); clear hob hgb)
        | (go_at_call 112; (with_reducible refine (AL.out _ _ _ ?_ SB.out).mono ?_); (exact BW.out.trans (BB.out.mono BW.out.size)); rintro e w2 ⟨rfl, hb2⟩; have B2 := Lib.hid (BB.out.trans (hb2.mono BB.out.size)); clear hb2))
      go_ret2
      exact ⟨rfl, BW.out.trans (B2.out.mono BW.out.size)⟩
    · have hjk : (k : Int) ≤ j := by omega
      have d0 : decide (j < 0) = false := decide_eq_false hj0
      have d1 : decide ((k : Int) ≤ j) = true := decide_eq_true hjk
      clear hj
      go_enter Try.func77, Try.ntmps77
      go_wp2_with (first
        | (go_at_call 42; (with_reducible refine PA.out.mono ?_); rintro e w1 ⟨Ap, cp, rfl, ho1, hb1⟩; have BW : Hid (Below w.heap.size w (w1.alloc (.cells #[.int .i64 (m : Int), .int .i64 (k : Int), .slice Ap mk cp] 30))) := hb1.alloc hb1.size _; have OL0 : Hid (((w1.alloc (.cells #[.int .i64 (m : Int), .int .i64 (k : Int), .slice Ap mk cp] 30)).alloc (.cells #[] 28)).ownsRow (w1.heap.size + 1) 28 1 (.slice (some ⟨w1.heap.size + 1, 0, none⟩) 0 0) 0 []) := (by have := own_lit (w1.alloc (.cells #[.int .i64 (m : Int), .int .i64 (k : Int), .slice Ap mk cp] 30)) [] 0 rfl (by decide); rwa [size_alloc'] at this); clear ho1 hb1)
        | (at_builtin; refine app_spines _ rfl _ _ rfl (w1.heap.size + 1) (some ⟨w1.heap.size + 1, 0, none⟩) 0 0 [] rfl OL0.out A c n vs rfl ((HA.out.below BW.out).alloc _) HVN.out HB.out.one (by omega) (by simp) ?_; intro Aa ca wa hoa hga; rw [Nat.zero_add, List.nil_append] at hoa; have OA := Lib.hid hoa; have BA := Lib.hid (below_lit' hga (size_alloc' _ _).symm); have hbas : w1.heap.size + 1 ≤ wa.heap.size := (by have := BA.out.size; rwa [size_alloc'] at this); clear hoa hga)
        | (at_builtin; refine app_spines _ rfl _ _ rfl (w1.heap.size + 1) Aa ca n vs rfl (own_below OA.out (below_alloc _ _)) _ 2 2 [.slice A1 n1 c1, .slice A2 n2 c2] rfl (lit2 _ _ _) rfl two_one (by omega) ?hb ?_; (case hb => simp; omega); intro Ab cb wb hob hgb; have SB := Lib.hid (own_sl hob); have BB : Hid (Below (w1.alloc (.cells #[.int .i64 (m : Int), .int .i64 (k : Int), .slice Ap mk cp] 30)).heap.size (w1.alloc (.cells #[.int .i64 (m : Int), .int .i64 (k : Int), .slice Ap mk cp] 30)) wb) := (by show Below _ _ _; rw [size_alloc']; exact own_grow (by have := BA.out.trans ((below_alloc wa (.cells #[.slice A1 n1 c1, .slice A2 n2 c2] 28)).mono BA.out.size); rwa [size_alloc'] at this) (own_below OA.out (below_alloc _ _)) hgb (by simp; omega)); clear hob hgb)
        | (go_at_call 112; (with_reducible refine (AL.out _ _ _ ?_ SB.out).mono ?_); (exact BW.out.trans (BB.out.mono BW.out.size)); rintro e w2 ⟨rfl, hb2⟩; have B2 := Lib.hid (BB.out.trans (hb2.mono BB.out.size)); clear hb2))
      go_ret2
      exact ⟨rfl, BW.out.trans (B2.out.mono BW.out.size)⟩
  · have AL : Hid (∀ w' A' c', Below w.heap.size w w' → Sl w' A' c' (vs ++ [.slice A1 n1 c1, .slice A2 n2 c2]) → Calls Try.prog 112 #[.slice A' (n + 2) c', .int .i64 ((m : Int) + 2)] w' fun e w'' => e = .returned (.bool false) ∧ Below w'.heap.size w' w'') := fun w' A' c' hw hs =>
      ref06_alike_r A' (n + 2) c' _ (ls ++ [l1, l2]) _ false w' hs ((hb.below hw).append (((Bss.nil w').cons (h2.below hw) hn2).cons (h1.below hw) hn1)) (by simp only [List.length_append, List.length_cons, List.length_nil]; omega) (by omega) ⟨(fun h => by cases h), fun h => absurd (alk_turn.1 h) hal⟩
    clear ha hb hn hk hkm h1 h2 hm0 hkm256 hal hn1 hn2
    generalize matL m k (parF k) = lp at *
    obtain ⟨mk, hmk⟩ : ∃ mk, m * k = mk := ⟨_, rfl⟩
    rw [hmk] at PA
    clear hmk
    go_enter Try.func77, Try.ntmps77
    go_wp2_with (first
      | (go_at_call 42; (with_reducible refine PA.out.mono ?_); rintro e w1 ⟨Ap, cp, rfl, ho1, hb1⟩; have BW : Hid (Below w.heap.size w (w1.alloc (.cells #[.int .i64 (m : Int), .int .i64 (k : Int), .slice Ap mk cp] 30))) := hb1.alloc hb1.size _; have OL0 : Hid (((w1.alloc (.cells #[.int .i64 (m : Int), .int .i64 (k : Int), .slice Ap mk cp] 30)).alloc (.cells #[] 28)).ownsRow (w1.heap.size + 1) 28 1 (.slice (some ⟨w1.heap.size + 1, 0, none⟩) 0 0) 0 []) := (by have := own_lit (w1.alloc (.cells #[.int .i64 (m : Int), .int .i64 (k : Int), .slice Ap mk cp] 30)) [] 0 rfl (by decide); rwa [size_alloc'] at this); clear ho1 hb1)
      | (at_builtin; refine app_spines _ rfl _ _ rfl (w1.heap.size + 1) (some ⟨w1.heap.size + 1, 0, none⟩) 0 0 [] rfl OL0.out A c n vs rfl ((HA.out.below BW.out).alloc _) HVN.out HB.out.one (by omega) (by simp) ?_; intro Aa ca wa hoa hga; rw [Nat.zero_add, List.nil_append] at hoa; have OA := Lib.hid hoa; have BA := Lib.hid (below_lit' hga (size_alloc' _ _).symm); have hbas : w1.heap.size + 1 ≤ wa.heap.size := (by have := BA.out.size; rwa [size_alloc'] at this); clear hoa hga)
      | (at_builtin; refine app_spines _ rfl _ _ rfl (w1.heap.size + 1) Aa ca n vs rfl (own_below OA.out (below_alloc _ _)) _ 2 2 [.slice A1 n1 c1, .slice A2 n2 c2] rfl (lit2 _ _ _) rfl two_one (by omega) ?hb ?_; (case hb => simp; omega); intro Ab cb wb hob hgb; have SB := Lib.hid (own_sl hob); have BB : Hid (Below (w1.alloc (.cells #[.int .i64 (m : Int), .int .i64 (k : Int), .slice Ap mk cp] 30)).heap.size (w1.alloc (.cells #[.int .i64 (m : Int), .int .i64 (k : Int), .slice Ap mk cp] 30)) wb) := (by show Below _ _ _; rw [size_alloc']; exact own_grow (by have := BA.out.trans ((below_alloc wa (.cells #[.slice A1 n1 c1, .slice A2 n2 c2] 28)).mono BA.out.size); rwa [size_alloc'] at this) (own_below OA.out (below_alloc _ _)) hgb (by simp; omega)); clear hob hgb)
      | (go_at_call 112; (with_reducible refine (AL.out _ _ _ ?_ SB.out).mono ?_); (exact BW.out.trans (BB.out.mono BW.out.size)); rintro e w2 ⟨rfl, hb2⟩; have B2 := Lib.hid (BB.out.trans (hb2.mono BB.out.size)); clear hb2))
    go_ret2
    exact ⟨rfl, BW.out.trans (B2.out.mono BW.out.size)⟩
set_option maxRecDepth 1000000 in
theorem ref06_update_bad (k m j : Int) (A1 : Option Addr) (n1 c1 : Nat) (A2 : Option Addr) (n2 c2 : Nat) (A : Option Addr) (n c : Nat) (w : World) (hk : i64ok k) (hm : i64ok m) (hkm : ¬ okkm k m) :
    Calls Try.prog 77 #[.int .i64 k, .int .i64 m, .int .i64 j, .slice A1 n1 c1, .slice A2 n2 c2, .slice A n c] w fun e w' => e = .returned (.tuple #[.slice none 0 0, .int .i64 50]) ∧ Below w.heap.size w w' := by
  have PA := Lib.hid (ref05_bad_Parity k m hk hm hkm w)
  clear hkm hk hm
  unfold noMat at PA
  go_enter Try.func77, Try.ntmps77
  go_wp2_with (go_at_call 42; (with_reducible refine PA.out.mono ?_); rintro e w1 ⟨rfl, hb1⟩; have BW := Lib.hid hb1; clear hb1)
  go_ret2
  exact ⟨rfl, BW.out.alloc BW.out.size _⟩
end Go.Proofs.Ytmkjplpnoohfnaa
