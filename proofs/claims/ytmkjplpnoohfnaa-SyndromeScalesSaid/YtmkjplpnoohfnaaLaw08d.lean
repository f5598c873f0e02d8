/- SyndromeScales, walked. -/
import Derived.Test.YtmkjplpnoohfnaaLaw08c
namespace Go.Proofs.Ytmkjplpnoohfnaa
open Go.RowKit
set_option linter.unusedVariables false
set_option linter.unusedSimpArgs false
set_option maxRecDepth 1000000 in
set_option maxHeartbeats 4000000 in
theorem walk_SyndromeScales {w : World} (k : Int) (hk : -9223372036854775808 ≤ k ∧ k ≤ 9223372036854775807) (m : Int) (hm : -9223372036854775808 ≤ m ∧ m ≤ 9223372036854775807) (A : Option Addr) (c : Nat) (l : List F) (ha : Bs w A c l) (x : F) :
    Calls Try.prog 9 #[.int .i64 k, .int .i64 m, .slice A l.length c, .int .u8 x.n] w fun e w' => e = .returned (.bool true) ∧ Below w.heap.size w w' := by
  by_cases hfew : okkm k m ∧ ¬ k + m ≤ 30
  · have FW : Hid (∀ w, Calls Try.prog 49 #[.int .i64 k, .int .i64 m] w fun e w' => e = .returned (.bool false) ∧ w = w') := fun w => few8_big k m hfew.1 hfew.2 w
    clear hfew
    have W := Lib.hid (Since.refl w)
    have K := Lib.hid (Sl.kn ha)
    go_enter Try.func9, Try.ntmps9
    go_wp2_with (first
      | (go_at_call 48; (with_reducible refine (awake8 _).mono ?_); rintro e w1 ⟨rfl, hbel⟩; (first | have K := Lib.hid (K.out.below hbel) | have K := Lib.hid ((K.out.alloc _).below hbel) | have K := Lib.hid (((K.out.alloc _).alloc _).below hbel) | have K := Lib.hid ((K.out.drewN _).below hbel) | have K := Lib.hid (((K.out.drewN _).alloc _).below hbel) | have K := Lib.hid (((K.out.alloc _).drewN _).below hbel) | have K := Lib.hid ((((K.out.alloc _).alloc _).drewN _).below hbel) | have K := Lib.hid ((((K.out.alloc _).alloc _).alloc _).below hbel) | have K := Lib.hid ((((K.out.drewN _).alloc _).alloc _).below hbel)); (first | have W := Lib.hid (W.out.below hbel) | have W := Lib.hid ((W.out.alloc _).below hbel) | have W := Lib.hid (((W.out.alloc _).alloc _).below hbel) | have W := Lib.hid ((W.out.drewN _).below hbel) | have W := Lib.hid (((W.out.drewN _).alloc _).below hbel) | have W := Lib.hid (((W.out.alloc _).drewN _).below hbel) | have W := Lib.hid ((((W.out.alloc _).alloc _).drewN _).below hbel) | have W := Lib.hid ((((W.out.alloc _).alloc _).alloc _).below hbel) | have W := Lib.hid ((((W.out.drewN _).alloc _).alloc _).below hbel)); clear hbel)
      | (go_at_call 37; (with_reducible refine (new_any _).mono ?_); rintro e w2 ⟨rfl, hbel, hg⟩; (first | have K := Lib.hid (K.out.below hbel) | have K := Lib.hid ((K.out.alloc _).below hbel) | have K := Lib.hid (((K.out.alloc _).alloc _).below hbel) | have K := Lib.hid ((K.out.drewN _).below hbel) | have K := Lib.hid (((K.out.drewN _).alloc _).below hbel) | have K := Lib.hid (((K.out.alloc _).drewN _).below hbel) | have K := Lib.hid ((((K.out.alloc _).alloc _).drewN _).below hbel) | have K := Lib.hid ((((K.out.alloc _).alloc _).alloc _).below hbel) | have K := Lib.hid ((((K.out.drewN _).alloc _).alloc _).below hbel)); (first | have W := Lib.hid (W.out.below hbel) | have W := Lib.hid ((W.out.alloc _).below hbel) | have W := Lib.hid (((W.out.alloc _).alloc _).below hbel) | have W := Lib.hid ((W.out.drewN _).below hbel) | have W := Lib.hid (((W.out.drewN _).alloc _).below hbel) | have W := Lib.hid (((W.out.alloc _).drewN _).below hbel) | have W := Lib.hid ((((W.out.alloc _).alloc _).drewN _).below hbel) | have W := Lib.hid ((((W.out.alloc _).alloc _).alloc _).below hbel) | have W := Lib.hid ((((W.out.drewN _).alloc _).alloc _).below hbel)); clear hbel; have K := Lib.hid (K.out.withF hg); clear hg)
      | (go_at_call 49; (with_reducible refine (FW.out _).mono ?_); rintro e wx ⟨rfl, rfl⟩))
    all_goals (go_ret; exact ⟨rfl, W.out⟩)
  · have FW : Hid (∀ w, Calls Try.prog 49 #[.int .i64 k, .int .i64 m] w fun e w' => e = .returned (.bool true) ∧ w = w') := fun w => by
      by_cases h1 : okkm k m
      · exact few8_ok k m h1 (Decidable.not_not.1 fun h2 => hfew ⟨h1, h2⟩) w
      · exact few8_bad k m hk hm h1 w
    have hmx1 : l.length ≤ 9223372036854775807 := by have := ha.len; have := ha.mx; unfold maxLen at this; omega
    by_cases hl3 : l.length ≤ 300
    · by_cases hng : okkm k m ∧ (l.length : Int) = k + m
      · have h := hng.1
        have hnk := hng.2
        have h3 : k + m ≤ 30 := Decidable.not_not.1 fun h2 => hfew ⟨h, h2⟩
        clear hfew
        obtain ⟨n, hn0⟩ : ∃ n, l.length = n := ⟨_, rfl⟩
        have NL : Hid (l.length = n) := hn0
        obtain ⟨k, rfl⟩ := Int.eq_ofNat_of_zero_le (by have := h.1; omega : 0 ≤ k)
        obtain ⟨m, rfl⟩ := Int.eq_ofNat_of_zero_le (by have := h.2.1; omega : 0 ≤ m)
        have hkb := h.2.2
        have h30 : k + m ≤ 30 := by omega
        have hn : n = k + m := by omega
        have OA : Hid (∀ (b : Nat) (A1 : Option Addr) (c1 : Nat) (w : World), GfAt w b → Bs w A1 c1 l → Calls Try.prog 52 #[fp b, .int .i64 k, .int .i64 m, .slice A1 n c1] w fun e w' => ∃ A' c', e = .returned (.tuple #[.slice A' m c', .int .i64 0]) ∧ Bs w' A' c' (synL k m l) ∧ Below w.heap.size w w') := fun b A1 c1 w hg h1 => by
            have hh := syn_of b k m A1 c1 l h (by rw [hn0]; exact hn) w hg h1
            rw [← hn] at hh
            refine (hh).mono ?_
            rintro e w' ⟨A', c', he, ho, hb⟩
            exact ⟨A', c', he, own_sl ho, hb⟩
        have OC : Hid (∀ (b : Nat) (A1 : Option Addr) (c1 : Nat) (w : World), GfAt w b → Bs w A1 c1 (tab n fun i => l.getD i 0 * x) → Calls Try.prog 52 #[fp b, .int .i64 k, .int .i64 m, .slice A1 n c1] w fun e w' => ∃ A' c', e = .returned (.tuple #[.slice A' m c', .int .i64 0]) ∧ Bs w' A' c' (synL k m (tab n fun i => l.getD i 0 * x)) ∧ Below w.heap.size w w') := fun b A1 c1 w hg h1 => by
            have hh := syn_of b k m A1 c1 (tab n fun i => l.getD i 0 * x) h (by rw [length_tab]; exact hn) w hg h1
            rw [← hn] at hh
            refine (hh).mono ?_
            rintro e w' ⟨A', c', he, ho, hb⟩
            exact ⟨A', c', he, own_sl ho, hb⟩
        have E1 : Hid (∀ t, t < m → (synL k m (tab n fun i => l.getD i 0 * x)).getD t 0 = (synL k m l).getD t 0 * x) := fun t ht => synL_mul k m n l x hn t ht
        have LS : Hid (∀ q, (synL k m q).length = m) := fun q => length_tab _ _
        have hnb : n ≤ 256 := by omega
        have d0 : ((m : Int) == (m : Int)) = true := by simp
        have d1 : ((m : Int) != (m : Int)) = false := by simp
        rw [hn0]
        clear hn0 hn h hng h3 hnk hl3
        have W := Lib.hid (Since.refl w)
        have K := Lib.hid (Sl.kn ha)
        go_enter Try.func9, Try.ntmps9
        go_wp2_with (first
          | (go_at_call 48; (with_reducible refine (awake8 _).mono ?_); rintro e w1 ⟨rfl, hbel⟩; (first | have K := Lib.hid (K.out.below hbel) | have K := Lib.hid ((K.out.alloc _).below hbel) | have K := Lib.hid (((K.out.alloc _).alloc _).below hbel) | have K := Lib.hid ((K.out.drewN _).below hbel) | have K := Lib.hid (((K.out.drewN _).alloc _).below hbel) | have K := Lib.hid (((K.out.alloc _).drewN _).below hbel) | have K := Lib.hid ((((K.out.alloc _).alloc _).drewN _).below hbel) | have K := Lib.hid ((((K.out.alloc _).alloc _).alloc _).below hbel) | have K := Lib.hid ((((K.out.drewN _).alloc _).alloc _).below hbel)); (first | have W := Lib.hid (W.out.below hbel) | have W := Lib.hid ((W.out.alloc _).below hbel) | have W := Lib.hid (((W.out.alloc _).alloc _).below hbel) | have W := Lib.hid ((W.out.drewN _).below hbel) | have W := Lib.hid (((W.out.drewN _).alloc _).below hbel) | have W := Lib.hid (((W.out.alloc _).drewN _).below hbel) | have W := Lib.hid ((((W.out.alloc _).alloc _).drewN _).below hbel) | have W := Lib.hid ((((W.out.alloc _).alloc _).alloc _).below hbel) | have W := Lib.hid ((((W.out.drewN _).alloc _).alloc _).below hbel)); clear hbel)
          | (go_at_call 37; (with_reducible refine (new_any _).mono ?_); rintro e w2 ⟨rfl, hbel, hg⟩; (first | have K := Lib.hid (K.out.below hbel) | have K := Lib.hid ((K.out.alloc _).below hbel) | have K := Lib.hid (((K.out.alloc _).alloc _).below hbel) | have K := Lib.hid ((K.out.drewN _).below hbel) | have K := Lib.hid (((K.out.drewN _).alloc _).below hbel) | have K := Lib.hid (((K.out.alloc _).drewN _).below hbel) | have K := Lib.hid ((((K.out.alloc _).alloc _).drewN _).below hbel) | have K := Lib.hid ((((K.out.alloc _).alloc _).alloc _).below hbel) | have K := Lib.hid ((((K.out.drewN _).alloc _).alloc _).below hbel)); (first | have W := Lib.hid (W.out.below hbel) | have W := Lib.hid ((W.out.alloc _).below hbel) | have W := Lib.hid (((W.out.alloc _).alloc _).below hbel) | have W := Lib.hid ((W.out.drewN _).below hbel) | have W := Lib.hid (((W.out.drewN _).alloc _).below hbel) | have W := Lib.hid (((W.out.alloc _).drewN _).below hbel) | have W := Lib.hid ((((W.out.alloc _).alloc _).drewN _).below hbel) | have W := Lib.hid ((((W.out.alloc _).alloc _).alloc _).below hbel) | have W := Lib.hid ((((W.out.drewN _).alloc _).alloc _).below hbel)); clear hbel; have K := Lib.hid (K.out.withF hg); clear hg)
          | (go_at_call 49; (with_reducible refine (FW.out _).mono ?_); rintro e wx ⟨rfl, rfl⟩))
        go_loopw [11, 12] (fun v q wr => ∃ (i : Nat) (A' : Option Addr) (c' : Nat), i ≤ n ∧ q = .int .i64 i ∧ v = .slice A' i c' ∧ wr.ownsRow w2.heap.size 5 1 (.slice A' i c') i ((tab i fun i => l.getD i 0 * x).map bv) ∧ Below w2.heap.size w2 wr) (fun _ q _ => n - (intOf q).toNat)
        case atStart => exact ⟨0, none, 0, Nat.zero_le _, rfl, rfl, World.ownsRow_nil _ _ _ _, Below.refl _ _⟩
        case round =>
          obtain ⟨i, A5, c5, hi, rfl, rfl, ho, hb⟩ := hrel
          have HO := Lib.hid ho
          have HB := Lib.hid hb
          have hsz := hb.size
          have K1 := Lib.hid (K.out.below hb)
          clear ho hb
          by_cases hlt : i < n
          · obtain ⟨b1, o1, h1, _, hc1⟩ := Bs.at' (K1.out.sat (.head _)) (by rw [NL.out]; omega)
            subst h1
            have y1 := hc1 i (by rw [NL.out]; exact hlt)
            have HT : Hid (tab (i + 1) (fun i => l.getD i 0 * x) = tab i (fun i => l.getD i 0 * x) ++ [l.getD i 0 * x]) := tab_succ' _ _
            clear hc1
            generalize l.getD i 0 = p at *
            go_wp2_with (first
              | (go_at_call 55; (with_reducible refine (gf_mul _ _ _ _ ?_).mono ?_); (first | exact K1.out.gf); rintro e w5 ⟨rfl, nd, rfl⟩; have HO5 := Lib.hid (own_drewN HO.out nd); have HB5 := Lib.hid (below_drewN HB.out nd))
              | (at_builtin; refine app_bytes _ rfl _ _ rfl w2.heap.size A5 c5 (i) (tab i fun i => l.getD i 0 * x) rfl (HO5.out.alloc _) _ _ 1 [p * x] rfl (lit_bs rfl rfl rfl (by decide)) rfl (by omega) (by simp; omega) ?_; intro A6 c6 w6 hown6 hb6; have HO6 := Lib.hid hown6; have HB6 : Hid (Below w2.heap.size w2 w6) := (HB5.out.alloc HB5.out.size _).trans hb6; clear hown6 hb6))
            go_roundw
            case rel => exact ⟨i + 1, A6, c6, by omega, by go_num, rfl, by rw [HT.out]; exact HO6.out, HB6.out⟩
            case measure => simp [intOf]; omega
          · have hie : i = n := by omega
            subst hie
            have HSUM := Lib.hid (own_sl HO.out)
            have K := Lib.hid (K1.out.sl HSUM.out)
            have W := Lib.hid (Since.below W.out HB.out)
            clear HO HB
            go_wp2_with (first
              | (go_at_call 52; (with_reducible refine (OA.out _ _ _ _ ?_ ?_).mono ?_); (first | exact K.out.gf | exact (K.out.alloc _).gf | exact (K.out.drewN _).gf | exact ((K.out.alloc _).alloc _).gf | exact ((K.out.alloc _).drewN _).gf | exact (((K.out.alloc _).alloc _).alloc _).gf); (first | exact K.out.sat (.tail _ (.head _)) | exact (K.out.alloc _).sat (.tail _ (.head _)) | exact ((K.out.alloc _).alloc _).sat (.tail _ (.head _)) | exact (((K.out.alloc _).alloc _).alloc _).sat (.tail _ (.head _)) | exact (K.out.drewN _).sat (.tail _ (.head _)) | exact ((K.out.drewN _).alloc _).sat (.tail _ (.head _)) | exact ((K.out.alloc _).drewN _).sat (.tail _ (.head _))); rintro e w11 ⟨Ax, cx, rfl, hbs, hbel⟩; (first | have K := Lib.hid (K.out.below hbel) | have K := Lib.hid ((K.out.alloc _).below hbel) | have K := Lib.hid (((K.out.alloc _).alloc _).below hbel) | have K := Lib.hid ((K.out.drewN _).below hbel) | have K := Lib.hid (((K.out.drewN _).alloc _).below hbel) | have K := Lib.hid (((K.out.alloc _).drewN _).below hbel) | have K := Lib.hid ((((K.out.alloc _).alloc _).drewN _).below hbel) | have K := Lib.hid ((((K.out.alloc _).alloc _).alloc _).below hbel) | have K := Lib.hid ((((K.out.drewN _).alloc _).alloc _).below hbel)); (first | have W := Lib.hid (W.out.below hbel) | have W := Lib.hid ((W.out.alloc _).below hbel) | have W := Lib.hid (((W.out.alloc _).alloc _).below hbel) | have W := Lib.hid ((W.out.drewN _).below hbel) | have W := Lib.hid (((W.out.drewN _).alloc _).below hbel) | have W := Lib.hid (((W.out.alloc _).drewN _).below hbel) | have W := Lib.hid ((((W.out.alloc _).alloc _).drewN _).below hbel) | have W := Lib.hid ((((W.out.alloc _).alloc _).alloc _).below hbel) | have W := Lib.hid ((((W.out.drewN _).alloc _).alloc _).below hbel)); have K := Lib.hid (K.out.sl hbs); clear hbel)
              | (go_at_call 52; (with_reducible refine (OC.out _ _ _ _ ?_ ?_).mono ?_); (first | exact K.out.gf | exact (K.out.alloc _).gf | exact (K.out.drewN _).gf | exact ((K.out.alloc _).alloc _).gf | exact ((K.out.alloc _).drewN _).gf | exact (((K.out.alloc _).alloc _).alloc _).gf); (first | exact K.out.sat (.tail _ (.head _)) | exact (K.out.alloc _).sat (.tail _ (.head _)) | exact ((K.out.alloc _).alloc _).sat (.tail _ (.head _)) | exact (((K.out.alloc _).alloc _).alloc _).sat (.tail _ (.head _)) | exact (K.out.drewN _).sat (.tail _ (.head _)) | exact ((K.out.drewN _).alloc _).sat (.tail _ (.head _)) | exact ((K.out.alloc _).drewN _).sat (.tail _ (.head _))); rintro e w12 ⟨Az, cz, rfl, hbs, hbel⟩; (first | have K := Lib.hid (K.out.below hbel) | have K := Lib.hid ((K.out.alloc _).below hbel) | have K := Lib.hid (((K.out.alloc _).alloc _).below hbel) | have K := Lib.hid ((K.out.drewN _).below hbel) | have K := Lib.hid (((K.out.drewN _).alloc _).below hbel) | have K := Lib.hid (((K.out.alloc _).drewN _).below hbel) | have K := Lib.hid ((((K.out.alloc _).alloc _).drewN _).below hbel) | have K := Lib.hid ((((K.out.alloc _).alloc _).alloc _).below hbel) | have K := Lib.hid ((((K.out.drewN _).alloc _).alloc _).below hbel)); (first | have W := Lib.hid (W.out.below hbel) | have W := Lib.hid ((W.out.alloc _).below hbel) | have W := Lib.hid (((W.out.alloc _).alloc _).below hbel) | have W := Lib.hid ((W.out.drewN _).below hbel) | have W := Lib.hid (((W.out.drewN _).alloc _).below hbel) | have W := Lib.hid (((W.out.alloc _).drewN _).below hbel) | have W := Lib.hid ((((W.out.alloc _).alloc _).drewN _).below hbel) | have W := Lib.hid ((((W.out.alloc _).alloc _).alloc _).below hbel) | have W := Lib.hid ((((W.out.drewN _).alloc _).alloc _).below hbel)); have K := Lib.hid (K.out.sl hbs); clear hbel))
            go_loopw [17] (fun v wr => ∃ t : Nat, t ≤ m ∧ v = .int .i64 t ∧ Since w12 wr) (fun v _ => m - (intOf v).toNat)
            case atStart => exact ⟨0, Nat.zero_le _, rfl, Since.refl _⟩
            case round =>
              obtain ⟨t, ht, rfl, hs⟩ := hrel
              have K3 := Lib.hid (K.out.below hs)
              have S1 := Lib.hid hs
              clear hs
              by_cases hlt : t < m
              · obtain ⟨b1, o1, h1, _, hc1⟩ := Bs.at' (K3.out.sat (.tail _ (.head _))) (by rw [LS.out]; omega); subst h1; have y1 := hc1 (t) (by rw [LS.out]; omega); clear hc1; skip; obtain ⟨b2, o2, h2, _, hc2⟩ := Bs.at' (K3.out.sat (.head _)) (by rw [LS.out]; omega); subst h2; have y2 := hc2 (t) (by rw [LS.out]; omega); clear hc2; skip
                have e1 := E1.out t hlt
                rw [e1] at y2
                have G3 := Lib.hid K3.out.gf
                clear e1
                generalize (synL k m l).getD t 0 = p at *
                have hx : (((p * x).n : Int) != ((p * x).n : Int)) = false := by simp
                go_wp2
                go_quiet ((go_at_call 55; exact Calls.quiet_of (gf_mul _ _ _ _ (G3.out.drewN' _))))
                go_wp2
                go_roundw
                case rel => exact ⟨t + 1, by omega, by go_num, S1.out.drewN _⟩
                case measure => simp [intOf]; omega
              · go_wp2
                go_ret
                exact ⟨rfl, W.out.below S1.out⟩
      · clear hfew
        obtain ⟨n, hn0⟩ : ∃ n, l.length = n := ⟨_, rfl⟩
        have NL : Hid (l.length = n) := hn0
        obtain ⟨E, hE, hof⟩ := of_else k m hk hm n (by rw [← hn0]; exact Nat.le_trans ha.len ha.mx) (by rw [← hn0]; exact hng)
        have OA := Lib.hid hof
        have hnb : n ≤ 300 := by omega
        have E0 : (E == 0) = false := by rcases hE with rfl | rfl <;> rfl
        have E1 : (E != 0) = true := by rcases hE with rfl | rfl <;> rfl
        have E2 : (E == E) = true := by simp
        have E3 : (E != E) = false := by simp
        rw [hn0]
        clear hn0 hng hE hof hl3
        have W := Lib.hid (Since.refl w)
        have K := Lib.hid (Sl.kn ha)
        go_enter Try.func9, Try.ntmps9
        go_wp2_with (first
          | (go_at_call 48; (with_reducible refine (awake8 _).mono ?_); rintro e w1 ⟨rfl, hbel⟩; (first | have K := Lib.hid (K.out.below hbel) | have K := Lib.hid ((K.out.alloc _).below hbel) | have K := Lib.hid (((K.out.alloc _).alloc _).below hbel) | have K := Lib.hid ((K.out.drewN _).below hbel) | have K := Lib.hid (((K.out.drewN _).alloc _).below hbel) | have K := Lib.hid (((K.out.alloc _).drewN _).below hbel) | have K := Lib.hid ((((K.out.alloc _).alloc _).drewN _).below hbel) | have K := Lib.hid ((((K.out.alloc _).alloc _).alloc _).below hbel) | have K := Lib.hid ((((K.out.drewN _).alloc _).alloc _).below hbel)); (first | have W := Lib.hid (W.out.below hbel) | have W := Lib.hid ((W.out.alloc _).below hbel) | have W := Lib.hid (((W.out.alloc _).alloc _).below hbel) | have W := Lib.hid ((W.out.drewN _).below hbel) | have W := Lib.hid (((W.out.drewN _).alloc _).below hbel) | have W := Lib.hid (((W.out.alloc _).drewN _).below hbel) | have W := Lib.hid ((((W.out.alloc _).alloc _).drewN _).below hbel) | have W := Lib.hid ((((W.out.alloc _).alloc _).alloc _).below hbel) | have W := Lib.hid ((((W.out.drewN _).alloc _).alloc _).below hbel)); clear hbel)
          | (go_at_call 37; (with_reducible refine (new_any _).mono ?_); rintro e w2 ⟨rfl, hbel, hg⟩; (first | have K := Lib.hid (K.out.below hbel) | have K := Lib.hid ((K.out.alloc _).below hbel) | have K := Lib.hid (((K.out.alloc _).alloc _).below hbel) | have K := Lib.hid ((K.out.drewN _).below hbel) | have K := Lib.hid (((K.out.drewN _).alloc _).below hbel) | have K := Lib.hid (((K.out.alloc _).drewN _).below hbel) | have K := Lib.hid ((((K.out.alloc _).alloc _).drewN _).below hbel) | have K := Lib.hid ((((K.out.alloc _).alloc _).alloc _).below hbel) | have K := Lib.hid ((((K.out.drewN _).alloc _).alloc _).below hbel)); (first | have W := Lib.hid (W.out.below hbel) | have W := Lib.hid ((W.out.alloc _).below hbel) | have W := Lib.hid (((W.out.alloc _).alloc _).below hbel) | have W := Lib.hid ((W.out.drewN _).below hbel) | have W := Lib.hid (((W.out.drewN _).alloc _).below hbel) | have W := Lib.hid (((W.out.alloc _).drewN _).below hbel) | have W := Lib.hid ((((W.out.alloc _).alloc _).drewN _).below hbel) | have W := Lib.hid ((((W.out.alloc _).alloc _).alloc _).below hbel) | have W := Lib.hid ((((W.out.drewN _).alloc _).alloc _).below hbel)); clear hbel; have K := Lib.hid (K.out.withF hg); clear hg)
          | (go_at_call 49; (with_reducible refine (FW.out _).mono ?_); rintro e wx ⟨rfl, rfl⟩))
        go_loopw [11, 12] (fun v q wr => ∃ (i : Nat) (A' : Option Addr) (c' : Nat), i ≤ n ∧ q = .int .i64 i ∧ v = .slice A' i c' ∧ wr.ownsRow w2.heap.size 5 1 (.slice A' i c') i ((tab i fun i => l.getD i 0 * x).map bv) ∧ Below w2.heap.size w2 wr) (fun _ q _ => n - (intOf q).toNat)
        case atStart => exact ⟨0, none, 0, Nat.zero_le _, rfl, rfl, World.ownsRow_nil _ _ _ _, Below.refl _ _⟩
        case round =>
          obtain ⟨i, A5, c5, hi, rfl, rfl, ho, hb⟩ := hrel
          have HO := Lib.hid ho
          have HB := Lib.hid hb
          have hsz := hb.size
          have K1 := Lib.hid (K.out.below hb)
          clear ho hb
          by_cases hlt : i < n
          · obtain ⟨b1, o1, h1, _, hc1⟩ := Bs.at' (K1.out.sat (.head _)) (by rw [NL.out]; omega)
            subst h1
            have y1 := hc1 i (by rw [NL.out]; exact hlt)
            have HT : Hid (tab (i + 1) (fun i => l.getD i 0 * x) = tab i (fun i => l.getD i 0 * x) ++ [l.getD i 0 * x]) := tab_succ' _ _
            clear hc1
            generalize l.getD i 0 = p at *
            go_wp2_with (first
              | (go_at_call 55; (with_reducible refine (gf_mul _ _ _ _ ?_).mono ?_); (first | exact K1.out.gf); rintro e w5 ⟨rfl, nd, rfl⟩; have HO5 := Lib.hid (own_drewN HO.out nd); have HB5 := Lib.hid (below_drewN HB.out nd))
              | (at_builtin; refine app_bytes _ rfl _ _ rfl w2.heap.size A5 c5 (i) (tab i fun i => l.getD i 0 * x) rfl (HO5.out.alloc _) _ _ 1 [p * x] rfl (lit_bs rfl rfl rfl (by decide)) rfl (by omega) (by simp; omega) ?_; intro A6 c6 w6 hown6 hb6; have HO6 := Lib.hid hown6; have HB6 : Hid (Below w2.heap.size w2 w6) := (HB5.out.alloc HB5.out.size _).trans hb6; clear hown6 hb6))
            go_roundw
            case rel => exact ⟨i + 1, A6, c6, by omega, by go_num, rfl, by rw [HT.out]; exact HO6.out, HB6.out⟩
            case measure => simp [intOf]; omega
          · have hie : i = n := by omega
            subst hie
            have HSUM := Lib.hid (own_sl HO.out)
            have K := Lib.hid (K1.out.sl HSUM.out)
            have W := Lib.hid (Since.below W.out HB.out)
            clear HO HB
            go_wp2_with (first
              | (go_at_call 52; (with_reducible refine (OA.out _ _ _ _ ?_).mono ?_); (first | exact K.out.gf | exact (K.out.alloc _).gf | exact (K.out.drewN _).gf | exact ((K.out.alloc _).alloc _).gf | exact ((K.out.alloc _).drewN _).gf | exact (((K.out.alloc _).alloc _).alloc _).gf); rintro e w11 ⟨rfl, hbel⟩; (first | have K := Lib.hid (K.out.below hbel) | have K := Lib.hid ((K.out.alloc _).below hbel) | have K := Lib.hid (((K.out.alloc _).alloc _).below hbel) | have K := Lib.hid ((K.out.drewN _).below hbel) | have K := Lib.hid (((K.out.drewN _).alloc _).below hbel) | have K := Lib.hid (((K.out.alloc _).drewN _).below hbel) | have K := Lib.hid ((((K.out.alloc _).alloc _).drewN _).below hbel) | have K := Lib.hid ((((K.out.alloc _).alloc _).alloc _).below hbel) | have K := Lib.hid ((((K.out.drewN _).alloc _).alloc _).below hbel)); (first | have W := Lib.hid (W.out.below hbel) | have W := Lib.hid ((W.out.alloc _).below hbel) | have W := Lib.hid (((W.out.alloc _).alloc _).below hbel) | have W := Lib.hid ((W.out.drewN _).below hbel) | have W := Lib.hid (((W.out.drewN _).alloc _).below hbel) | have W := Lib.hid (((W.out.alloc _).drewN _).below hbel) | have W := Lib.hid ((((W.out.alloc _).alloc _).drewN _).below hbel) | have W := Lib.hid ((((W.out.alloc _).alloc _).alloc _).below hbel) | have W := Lib.hid ((((W.out.drewN _).alloc _).alloc _).below hbel)); clear hbel))
            go_loopw [17] (fun v wr => v = .int .i64 0 ∧ Since w wr) (fun _ _ => 0)
            case atStart => exact ⟨rfl, W.out⟩
            case round =>
              obtain ⟨rfl, hs⟩ := hrel
              have W3 := Lib.hid hs
              clear hs
              go_wp2
              go_ret
              exact ⟨rfl, W3.out⟩
    · have d0 : decide (300 < l.length) = true := decide_eq_true (by omega)
      have d1 : (300 : Int) < (l.length : Int) := by omega
      clear hl3 hfew
      have W := Lib.hid (Since.refl w)
      have K := Lib.hid (Sl.kn ha)
      go_enter Try.func9, Try.ntmps9
      go_wp2_with (first
        | (go_at_call 48; (with_reducible refine (awake8 _).mono ?_); rintro e w1 ⟨rfl, hbel⟩; (first | have K := Lib.hid (K.out.below hbel) | have K := Lib.hid ((K.out.alloc _).below hbel) | have K := Lib.hid (((K.out.alloc _).alloc _).below hbel) | have K := Lib.hid ((K.out.drewN _).below hbel) | have K := Lib.hid (((K.out.drewN _).alloc _).below hbel) | have K := Lib.hid (((K.out.alloc _).drewN _).below hbel) | have K := Lib.hid ((((K.out.alloc _).alloc _).drewN _).below hbel) | have K := Lib.hid ((((K.out.alloc _).alloc _).alloc _).below hbel) | have K := Lib.hid ((((K.out.drewN _).alloc _).alloc _).below hbel)); (first | have W := Lib.hid (W.out.below hbel) | have W := Lib.hid ((W.out.alloc _).below hbel) | have W := Lib.hid (((W.out.alloc _).alloc _).below hbel) | have W := Lib.hid ((W.out.drewN _).below hbel) | have W := Lib.hid (((W.out.drewN _).alloc _).below hbel) | have W := Lib.hid (((W.out.alloc _).drewN _).below hbel) | have W := Lib.hid ((((W.out.alloc _).alloc _).drewN _).below hbel) | have W := Lib.hid ((((W.out.alloc _).alloc _).alloc _).below hbel) | have W := Lib.hid ((((W.out.drewN _).alloc _).alloc _).below hbel)); clear hbel)
        | (go_at_call 37; (with_reducible refine (new_any _).mono ?_); rintro e w2 ⟨rfl, hbel, hg⟩; (first | have K := Lib.hid (K.out.below hbel) | have K := Lib.hid ((K.out.alloc _).below hbel) | have K := Lib.hid (((K.out.alloc _).alloc _).below hbel) | have K := Lib.hid ((K.out.drewN _).below hbel) | have K := Lib.hid (((K.out.drewN _).alloc _).below hbel) | have K := Lib.hid (((K.out.alloc _).drewN _).below hbel) | have K := Lib.hid ((((K.out.alloc _).alloc _).drewN _).below hbel) | have K := Lib.hid ((((K.out.alloc _).alloc _).alloc _).below hbel) | have K := Lib.hid ((((K.out.drewN _).alloc _).alloc _).below hbel)); (first | have W := Lib.hid (W.out.below hbel) | have W := Lib.hid ((W.out.alloc _).below hbel) | have W := Lib.hid (((W.out.alloc _).alloc _).below hbel) | have W := Lib.hid ((W.out.drewN _).below hbel) | have W := Lib.hid (((W.out.drewN _).alloc _).below hbel) | have W := Lib.hid (((W.out.alloc _).drewN _).below hbel) | have W := Lib.hid ((((W.out.alloc _).alloc _).drewN _).below hbel) | have W := Lib.hid ((((W.out.alloc _).alloc _).alloc _).below hbel) | have W := Lib.hid ((((W.out.drewN _).alloc _).alloc _).below hbel)); clear hbel; have K := Lib.hid (K.out.withF hg); clear hg)
        | (go_at_call 49; (with_reducible refine (FW.out _).mono ?_); rintro e wx ⟨rfl, rfl⟩))
      all_goals (go_ret; exact ⟨rfl, W.out⟩)
end Go.Proofs.Ytmkjplpnoohfnaa
