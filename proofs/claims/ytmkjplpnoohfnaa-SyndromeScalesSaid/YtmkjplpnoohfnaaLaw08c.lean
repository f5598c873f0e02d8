/- SyndromeLinear, SyndromeScales, walked. -/
import Derived.Test.YtmkjplpnoohfnaaLaw08b
namespace Go.Proofs.Ytmkjplpnoohfnaa
open Go.RowKit
set_option linter.unusedVariables false
set_option linter.unusedSimpArgs false
theorem synL_add (k m n : Nat) (a b : List F) (h : n = k + m) (t : Nat) (ht : t < m) : (synL k m (tab n fun i => a.getD i 0 + b.getD i 0)).getD t 0 = (synL k m a).getD t 0 + (synL k m b).getD t 0 := by
  subst h
  unfold synL
  rw [getD_tab _ ht, getD_tab _ ht, getD_tab _ ht, ← syn_add]
  exact syn_congr (fun i hi => getD_tab _ hi) t
theorem synL_mul (k m n : Nat) (a : List F) (x : F) (h : n = k + m) (t : Nat) (ht : t < m) : (synL k m (tab n fun i => a.getD i 0 * x)).getD t 0 = (synL k m a).getD t 0 * x := by
  subst h
  unfold synL
  rw [getD_tab _ ht, getD_tab _ ht, ← syn_mul]
  exact syn_congr (fun i hi => getD_tab _ hi) t
/-- what Of answers where it does not answer syndromes -/
theorem of_else (k m : Int) (hk : i64ok' k) (hm : i64ok' m) (n : Nat) (hn : n ≤ maxLen) (h : ¬ (okkm k m ∧ (n : Int) = k + m)) : ∃ E : Int, (E = 50 ∨ E = 60) ∧ ∀ (b : Nat) (A : Option Addr) (c : Nat) (w : World), GfAt w b → Calls Try.prog 52 #[fp b, .int .i64 k, .int .i64 m, .slice A n c] w fun e w' => e = .returned (.tuple #[.slice none 0 0, .int .i64 E]) ∧ Below w.heap.size w w' := by
  by_cases h1 : okkm k m
  · obtain ⟨k, rfl⟩ := Int.eq_ofNat_of_zero_le (by have := h1.1; omega : 0 ≤ k)
    obtain ⟨m, rfl⟩ := Int.eq_ofNat_of_zero_le (by have := h1.2.1; omega : 0 ≤ m)
    exact ⟨60, .inr rfl, fun b A c w hg => syn_of_len b k m A n c h1 hn (fun e => h ⟨h1, by omega⟩) w hg⟩
  · exact ⟨50, .inl rfl, fun b A c w hg => syn_of_bad b k m A n c hk hm h1 w⟩
set_option maxRecDepth 1000000 in
set_option maxHeartbeats 4000000 in
theorem walk_SyndromeLinear {w : World} (k : Int) (hk : -9223372036854775808 ≤ k ∧ k ≤ 9223372036854775807) (m : Int) (hm : -9223372036854775808 ≤ m ∧ m ≤ 9223372036854775807) (A : Option Addr) (c : Nat) (l : List F) (ha : Bs w A c l) (hy : l.length * 1 ≤ 140737488351232) (A2 : Option Addr) (c2 : Nat) (l2 : List F) (ha2 : Bs w A2 c2 l2) (hy2 : l2.length * 1 ≤ 140737488351232) :
    Calls Try.prog 7 #[.int .i64 k, .int .i64 m, .slice A l.length c, .slice A2 l2.length c2] w fun e w' => e = .returned (.bool true) ∧ Below w.heap.size w w' := by
  by_cases hfew : okkm k m ∧ ¬ k + m ≤ 30
  · have FW : Hid (∀ w, Calls Try.prog 49 #[.int .i64 k, .int .i64 m] w fun e w' => e = .returned (.bool false) ∧ w = w') := fun w => few8_big k m hfew.1 hfew.2 w
    clear hfew
    have W := Lib.hid (Since.refl w)
    have K := Lib.hid ((Sl.kn ha).sl ha2)
    go_enter Try.func7, Try.ntmps7
    go_wp2_with (first
      | (go_at_call 48; (with_reducible refine (awake8 _).mono ?_); rintro e w1 ⟨rfl, hbel⟩; (first | have K := Lib.hid (K.out.below hbel) | have K := Lib.hid ((K.out.alloc _).below hbel) | have K := Lib.hid (((K.out.alloc _).alloc _).below hbel) | have K := Lib.hid ((K.out.drewN _).below hbel) | have K := Lib.hid (((K.out.drewN _).alloc _).below hbel) | have K := Lib.hid (((K.out.alloc _).drewN _).below hbel) | have K := Lib.hid ((((K.out.alloc _).alloc _).drewN _).below hbel) | have K := Lib.hid ((((K.out.alloc _).alloc _).alloc _).below hbel) | have K := Lib.hid ((((K.out.drewN _).alloc _).alloc _).below hbel)); (first | have W := Lib.hid (W.out.below hbel) | have W := Lib.hid ((W.out.alloc _).below hbel) | have W := Lib.hid (((W.out.alloc _).alloc _).below hbel) | have W := Lib.hid ((W.out.drewN _).below hbel) | have W := Lib.hid (((W.out.drewN _).alloc _).below hbel) | have W := Lib.hid (((W.out.alloc _).drewN _).below hbel) | have W := Lib.hid ((((W.out.alloc _).alloc _).drewN _).below hbel) | have W := Lib.hid ((((W.out.alloc _).alloc _).alloc _).below hbel) | have W := Lib.hid ((((W.out.drewN _).alloc _).alloc _).below hbel)); clear hbel)
      | (go_at_call 37; (with_reducible refine (new_any _).mono ?_); rintro e w2 ⟨rfl, hbel, hg⟩; (first | have K := Lib.hid (K.out.below hbel) | have K := Lib.hid ((K.out.alloc _).below hbel) | have K := Lib.hid (((K.out.alloc _).alloc _).below hbel) | have K := Lib.hid ((K.out.drewN _).below hbel) | have K := Lib.hid (((K.out.drewN _).alloc _).below hbel) | have K := Lib.hid (((K.out.alloc _).drewN _).below hbel) | have K := Lib.hid ((((K.out.alloc _).alloc _).drewN _).below hbel) | have K := Lib.hid ((((K.out.alloc _).alloc _).alloc _).below hbel) | have K := Lib.hid ((((K.out.drewN _).alloc _).alloc _).below hbel)); (first | have W := Lib.hid (W.out.below hbel) | have W := Lib.hid ((W.out.alloc _).below hbel) | have W := Lib.hid (((W.out.alloc _).alloc _).below hbel) | have W := Lib.hid ((W.out.drewN _).below hbel) | have W := Lib.hid (((W.out.drewN _).alloc _).below hbel) | have W := Lib.hid (((W.out.alloc _).drewN _).below hbel) | have W := Lib.hid ((((W.out.alloc _).alloc _).drewN _).below hbel) | have W := Lib.hid ((((W.out.alloc _).alloc _).alloc _).below hbel) | have W := Lib.hid ((((W.out.drewN _).alloc _).alloc _).below hbel)); clear hbel; have K := Lib.hid (K.out.withF hg); clear hg)
      | (go_at_call 49; (with_reducible refine (FW.out _).mono ?_); rintro e wx ⟨rfl, rfl⟩))
    all_goals (go_ret; exact ⟨rfl, W.out⟩)
  · have FW : Hid (∀ w, Calls Try.prog 49 #[.int .i64 k, .int .i64 m] w fun e w' => e = .returned (.bool true) ∧ w = w') := fun w => by
      by_cases h1 : okkm k m
      · exact few8_ok k m h1 (Decidable.not_not.1 fun h2 => hfew ⟨h1, h2⟩) w
      · exact few8_bad k m hk hm h1 w
    have hmx1 : l.length ≤ 9223372036854775807 := by have := ha.len; have := ha.mx; unfold maxLen at this; omega
    have hmx2 : l2.length ≤ 9223372036854775807 := by have := ha2.len; have := ha2.mx; unfold maxLen at this; omega
    by_cases hll : l.length = l2.length
    · by_cases hng : okkm k m ∧ (l.length : Int) = k + m
      · have h := hng.1
        have hnk := hng.2
        have h3 : k + m ≤ 30 := Decidable.not_not.1 fun h2 => hfew ⟨h, h2⟩
        clear hfew
        obtain ⟨n, hn0⟩ : ∃ n, l.length = n := ⟨_, rfl⟩
        have NL : Hid (l.length = n) := hn0
        have NL2 : Hid (l2.length = n) := by show _ = _; rw [← hn0]; exact hll.symm
        obtain ⟨k, rfl⟩ := Int.eq_ofNat_of_zero_le (by have := h.1; omega : 0 ≤ k)
        obtain ⟨m, rfl⟩ := Int.eq_ofNat_of_zero_le (by have := h.2.1; omega : 0 ≤ m)
        have hkb := h.2.2
        have h30 : k + m ≤ 30 := by omega
        have hn : n = k + m := by omega
        have OA : Hid (∀ (b : Nat) (A1 : Option Addr) (c1 : Nat) (w : World), GfAt w b → Bs w A1 c1 l → Calls Try.prog 52 #[fp b, .int .i64 k, .int .i64 m, .slice A1 n c1] w fun e w' => ∃ A' c', e = .returned (.tuple #[.slice A' m c', .int .i64 0]) ∧ Bs w' A' c' (synL k m l) ∧ Below w.heap.size w w') := fun b A1 c1 w hg h1 => by
            have hh := syn_of b k m A1 c1 l h (by rw [hn0]; exact hn) w hg h1
            rw [← hn] at hh
            refine (hh).mono ?_
            rintro e w' ⟨A', c', he, ho, hb⟩
            exact ⟨A', c', he, own_sl ho, hb⟩
        have OB : Hid (∀ (b : Nat) (A1 : Option Addr) (c1 : Nat) (w : World), GfAt w b → Bs w A1 c1 l2 → Calls Try.prog 52 #[fp b, .int .i64 k, .int .i64 m, .slice A1 n c1] w fun e w' => ∃ A' c', e = .returned (.tuple #[.slice A' m c', .int .i64 0]) ∧ Bs w' A' c' (synL k m l2) ∧ Below w.heap.size w w') := fun b A1 c1 w hg h1 => by
            have hh := syn_of b k m A1 c1 l2 h (by rw [NL2.out]; exact hn) w hg h1
            rw [← hn] at hh
            refine (hh).mono ?_
            rintro e w' ⟨A', c', he, ho, hb⟩
            exact ⟨A', c', he, own_sl ho, hb⟩
        have OC : Hid (∀ (b : Nat) (A1 : Option Addr) (c1 : Nat) (w : World), GfAt w b → Bs w A1 c1 (tab n fun i => l.getD i 0 + l2.getD i 0) → Calls Try.prog 52 #[fp b, .int .i64 k, .int .i64 m, .slice A1 n c1] w fun e w' => ∃ A' c', e = .returned (.tuple #[.slice A' m c', .int .i64 0]) ∧ Bs w' A' c' (synL k m (tab n fun i => l.getD i 0 + l2.getD i 0)) ∧ Below w.heap.size w w') := fun b A1 c1 w hg h1 => by
            have hh := syn_of b k m A1 c1 (tab n fun i => l.getD i 0 + l2.getD i 0) h (by rw [length_tab]; exact hn) w hg h1
            rw [← hn] at hh
            refine (hh).mono ?_
            rintro e w' ⟨A', c', he, ho, hb⟩
            exact ⟨A', c', he, own_sl ho, hb⟩
        have E1 : Hid (∀ t, t < m → (synL k m (tab n fun i => l.getD i 0 + l2.getD i 0)).getD t 0 = (synL k m l).getD t 0 + (synL k m l2).getD t 0) := fun t ht => synL_add k m n l l2 hn t ht
        have LS : Hid (∀ q, (synL k m q).length = m) := fun q => length_tab _ _
        have hnb : n ≤ 256 := by omega
        rw [hn0]
        rw [show l2.length = n from NL2.out]
        have d0 : ((n : Int) == (n : Int)) = true := by simp
        have d1 : ((n : Int) != (n : Int)) = false := by simp
        clear hll hn0 hn h hng h3
        have W := Lib.hid (Since.refl w)
        have K := Lib.hid ((Sl.kn ha).sl ha2)
        go_enter Try.func7, Try.ntmps7
        go_wp2_with (first
          | (go_at_call 48; (with_reducible refine (awake8 _).mono ?_); rintro e w1 ⟨rfl, hbel⟩; (first | have K := Lib.hid (K.out.below hbel) | have K := Lib.hid ((K.out.alloc _).below hbel) | have K := Lib.hid (((K.out.alloc _).alloc _).below hbel) | have K := Lib.hid ((K.out.drewN _).below hbel) | have K := Lib.hid (((K.out.drewN _).alloc _).below hbel) | have K := Lib.hid (((K.out.alloc _).drewN _).below hbel) | have K := Lib.hid ((((K.out.alloc _).alloc _).drewN _).below hbel) | have K := Lib.hid ((((K.out.alloc _).alloc _).alloc _).below hbel) | have K := Lib.hid ((((K.out.drewN _).alloc _).alloc _).below hbel)); (first | have W := Lib.hid (W.out.below hbel) | have W := Lib.hid ((W.out.alloc _).below hbel) | have W := Lib.hid (((W.out.alloc _).alloc _).below hbel) | have W := Lib.hid ((W.out.drewN _).below hbel) | have W := Lib.hid (((W.out.drewN _).alloc _).below hbel) | have W := Lib.hid (((W.out.alloc _).drewN _).below hbel) | have W := Lib.hid ((((W.out.alloc _).alloc _).drewN _).below hbel) | have W := Lib.hid ((((W.out.alloc _).alloc _).alloc _).below hbel) | have W := Lib.hid ((((W.out.drewN _).alloc _).alloc _).below hbel)); clear hbel)
          | (go_at_call 37; (with_reducible refine (new_any _).mono ?_); rintro e w2 ⟨rfl, hbel, hg⟩; (first | have K := Lib.hid (K.out.below hbel) | have K := Lib.hid ((K.out.alloc _).below hbel) | have K := Lib.hid (((K.out.alloc _).alloc _).below hbel) | have K := Lib.hid ((K.out.drewN _).below hbel) | have K := Lib.hid (((K.out.drewN _).alloc _).below hbel) | have K := Lib.hid (((K.out.alloc _).drewN _).below hbel) | have K := Lib.hid ((((K.out.alloc _).alloc _).drewN _).below hbel) | have K := Lib.hid ((((K.out.alloc _).alloc _).alloc _).below hbel) | have K := Lib.hid ((((K.out.drewN _).alloc _).alloc _).below hbel)); (first | have W := Lib.hid (W.out.below hbel) | have W := Lib.hid ((W.out.alloc _).below hbel) | have W := Lib.hid (((W.out.alloc _).alloc _).below hbel) | have W := Lib.hid ((W.out.drewN _).below hbel) | have W := Lib.hid (((W.out.drewN _).alloc _).below hbel) | have W := Lib.hid (((W.out.alloc _).drewN _).below hbel) | have W := Lib.hid ((((W.out.alloc _).alloc _).drewN _).below hbel) | have W := Lib.hid ((((W.out.alloc _).alloc _).alloc _).below hbel) | have W := Lib.hid ((((W.out.drewN _).alloc _).alloc _).below hbel)); clear hbel; have K := Lib.hid (K.out.withF hg); clear hg)
          | (go_at_call 49; (with_reducible refine (FW.out _).mono ?_); rintro e wx ⟨rfl, rfl⟩)
          | (go_at_call 52; (with_reducible refine (OA.out _ _ _ _ ?_ ?_).mono ?_); (first | exact K.out.gf | exact (K.out.alloc _).gf | exact (K.out.drewN _).gf | exact ((K.out.alloc _).alloc _).gf | exact ((K.out.alloc _).drewN _).gf | exact (((K.out.alloc _).alloc _).alloc _).gf); (first | exact K.out.sat (.tail _ (.head _)) | exact (K.out.alloc _).sat (.tail _ (.head _)) | exact ((K.out.alloc _).alloc _).sat (.tail _ (.head _)) | exact (((K.out.alloc _).alloc _).alloc _).sat (.tail _ (.head _)) | exact (K.out.drewN _).sat (.tail _ (.head _)) | exact ((K.out.drewN _).alloc _).sat (.tail _ (.head _)) | exact ((K.out.alloc _).drewN _).sat (.tail _ (.head _))); rintro e w3 ⟨Ax, cx, rfl, hbs, hbel⟩; (first | have K := Lib.hid (K.out.below hbel) | have K := Lib.hid ((K.out.alloc _).below hbel) | have K := Lib.hid (((K.out.alloc _).alloc _).below hbel) | have K := Lib.hid ((K.out.drewN _).below hbel) | have K := Lib.hid (((K.out.drewN _).alloc _).below hbel) | have K := Lib.hid (((K.out.alloc _).drewN _).below hbel) | have K := Lib.hid ((((K.out.alloc _).alloc _).drewN _).below hbel) | have K := Lib.hid ((((K.out.alloc _).alloc _).alloc _).below hbel) | have K := Lib.hid ((((K.out.drewN _).alloc _).alloc _).below hbel)); (first | have W := Lib.hid (W.out.below hbel) | have W := Lib.hid ((W.out.alloc _).below hbel) | have W := Lib.hid (((W.out.alloc _).alloc _).below hbel) | have W := Lib.hid ((W.out.drewN _).below hbel) | have W := Lib.hid (((W.out.drewN _).alloc _).below hbel) | have W := Lib.hid (((W.out.alloc _).drewN _).below hbel) | have W := Lib.hid ((((W.out.alloc _).alloc _).drewN _).below hbel) | have W := Lib.hid ((((W.out.alloc _).alloc _).alloc _).below hbel) | have W := Lib.hid ((((W.out.drewN _).alloc _).alloc _).below hbel)); have K := Lib.hid (K.out.sl hbs); clear hbel)
          | (go_at_call 52; (with_reducible refine (OB.out _ _ _ _ ?_ ?_).mono ?_); (first | exact K.out.gf | exact (K.out.alloc _).gf | exact (K.out.drewN _).gf | exact ((K.out.alloc _).alloc _).gf | exact ((K.out.alloc _).drewN _).gf | exact (((K.out.alloc _).alloc _).alloc _).gf); (first | exact K.out.sat (.tail _ (.head _)) | exact (K.out.alloc _).sat (.tail _ (.head _)) | exact ((K.out.alloc _).alloc _).sat (.tail _ (.head _)) | exact (((K.out.alloc _).alloc _).alloc _).sat (.tail _ (.head _)) | exact (K.out.drewN _).sat (.tail _ (.head _)) | exact ((K.out.drewN _).alloc _).sat (.tail _ (.head _)) | exact ((K.out.alloc _).drewN _).sat (.tail _ (.head _))); rintro e w4 ⟨Ay, cy, rfl, hbs, hbel⟩; (first | have K := Lib.hid (K.out.below hbel) | have K := Lib.hid ((K.out.alloc _).below hbel) | have K := Lib.hid (((K.out.alloc _).alloc _).below hbel) | have K := Lib.hid ((K.out.drewN _).below hbel) | have K := Lib.hid (((K.out.drewN _).alloc _).below hbel) | have K := Lib.hid (((K.out.alloc _).drewN _).below hbel) | have K := Lib.hid ((((K.out.alloc _).alloc _).drewN _).below hbel) | have K := Lib.hid ((((K.out.alloc _).alloc _).alloc _).below hbel) | have K := Lib.hid ((((K.out.drewN _).alloc _).alloc _).below hbel)); (first | have W := Lib.hid (W.out.below hbel) | have W := Lib.hid ((W.out.alloc _).below hbel) | have W := Lib.hid (((W.out.alloc _).alloc _).below hbel) | have W := Lib.hid ((W.out.drewN _).below hbel) | have W := Lib.hid (((W.out.drewN _).alloc _).below hbel) | have W := Lib.hid (((W.out.alloc _).drewN _).below hbel) | have W := Lib.hid ((((W.out.alloc _).alloc _).drewN _).below hbel) | have W := Lib.hid ((((W.out.alloc _).alloc _).alloc _).below hbel) | have W := Lib.hid ((((W.out.drewN _).alloc _).alloc _).below hbel)); have K := Lib.hid (K.out.sl hbs); clear hbel))
        go_loopw [15, 16] (fun v x wr => ∃ (i : Nat) (A' : Option Addr) (c' : Nat), i ≤ n ∧ x = .int .i64 i ∧ v = .slice A' i c' ∧ wr.ownsRow w4.heap.size 5 1 (.slice A' i c') i ((tab i fun i => l.getD i 0 + l2.getD i 0).map bv) ∧ Below w4.heap.size w4 wr) (fun _ x _ => n - (intOf x).toNat)
        case atStart => exact ⟨0, none, 0, Nat.zero_le _, rfl, rfl, World.ownsRow_nil _ _ _ _, Below.refl _ _⟩
        case round =>
          obtain ⟨i, A5, c5, hi, rfl, rfl, ho, hb⟩ := hrel
          have HO := Lib.hid ho
          have HB := Lib.hid hb
          have hsz := hb.size
          have K1 := Lib.hid (K.out.below hb)
          clear ho hb
          by_cases hlt : i < n
          · obtain ⟨b1, o1, h1, _, hc1⟩ := Bs.at' (K1.out.sat (.tail _ (.tail _ (.tail _ (.head _))))) (by rw [NL.out]; omega)
            obtain ⟨b2, o2, h2, _, hc2⟩ := Bs.at' (K1.out.sat (.tail _ (.tail _ (.head _)))) (by rw [NL2.out]; omega)
            subst h1
            subst h2
            have y1 := hc1 i (by rw [NL.out]; exact hlt)
            have y2 := hc2 i (by rw [NL2.out]; exact hlt)
            have HT : Hid (tab (i + 1) (fun i => l.getD i 0 + l2.getD i 0) = tab i (fun i => l.getD i 0 + l2.getD i 0) ++ [l.getD i 0 + l2.getD i 0]) := tab_succ' _ _
            clear hc1 hc2
            generalize l.getD i 0 = x at *
            generalize l2.getD i 0 = y at *
            have hxor := xor_n x y
            go_wp2
            go_region_law (refine step_app_bytes rfl _ _ rfl w4.heap.size A5 c5 i (tab i fun i => l.getD i 0 + l2.getD i 0) rfl (own_below HO.out ⟨rfl, rfl, rfl, by simp, fun k hk => heap_alloc_old _ _ hk⟩) _ _ 1 [x + y] rfl ?litbs rfl (by omega) (by simp; omega) ?_; (case litbs => first | exact lit_bs rfl rfl rfl (by decide) | exact lit_drew (x + y) rfl); intro A6 c6 w6 hown6 hgr6; have HB6 : Hid (Below w4.heap.size w4 w6) := own_grow' hgr6 HB.out HO.out ⟨rfl, rfl, rfl, by simp, fun k hk => heap_alloc_old _ _ hk⟩ hsz; have HO6 := Lib.hid hown6; clear hown6 hgr6)
            all_goals
              go_wp2
              go_roundw
              case rel => exact ⟨i + 1, A6, c6, by omega, by go_num, rfl, by rw [HT.out]; exact HO6.out, HB6.out⟩
              case measure => simp [intOf]; omega
          · have hie : i = n := by omega
            subst hie
            have HSUM := Lib.hid (own_sl HO.out)
            have K := Lib.hid (K1.out.sl HSUM.out)
            have W := Lib.hid (Since.below W.out HB.out)
            clear HO HB
            go_wp2_with (first
              | (go_at_call 52; (with_reducible refine (OC.out _ _ _ _ ?_ ?_).mono ?_); (first | exact K.out.gf | exact (K.out.alloc _).gf | exact (K.out.drewN _).gf | exact ((K.out.alloc _).alloc _).gf | exact ((K.out.alloc _).drewN _).gf | exact (((K.out.alloc _).alloc _).alloc _).gf); (first | exact K.out.sat (.head _) | exact (K.out.alloc _).sat (.head _) | exact ((K.out.alloc _).alloc _).sat (.head _) | exact (((K.out.alloc _).alloc _).alloc _).sat (.head _) | exact (K.out.drewN _).sat (.head _) | exact ((K.out.drewN _).alloc _).sat (.head _) | exact ((K.out.alloc _).drewN _).sat (.head _)); rintro e w11 ⟨Az, cz, rfl, hbs, hbel⟩; (first | have K := Lib.hid (K.out.below hbel) | have K := Lib.hid ((K.out.alloc _).below hbel) | have K := Lib.hid (((K.out.alloc _).alloc _).below hbel) | have K := Lib.hid ((K.out.drewN _).below hbel) | have K := Lib.hid (((K.out.drewN _).alloc _).below hbel) | have K := Lib.hid (((K.out.alloc _).drewN _).below hbel) | have K := Lib.hid ((((K.out.alloc _).alloc _).drewN _).below hbel) | have K := Lib.hid ((((K.out.alloc _).alloc _).alloc _).below hbel) | have K := Lib.hid ((((K.out.drewN _).alloc _).alloc _).below hbel)); (first | have W := Lib.hid (W.out.below hbel) | have W := Lib.hid ((W.out.alloc _).below hbel) | have W := Lib.hid (((W.out.alloc _).alloc _).below hbel) | have W := Lib.hid ((W.out.drewN _).below hbel) | have W := Lib.hid (((W.out.drewN _).alloc _).below hbel) | have W := Lib.hid (((W.out.alloc _).drewN _).below hbel) | have W := Lib.hid ((((W.out.alloc _).alloc _).drewN _).below hbel) | have W := Lib.hid ((((W.out.alloc _).alloc _).alloc _).below hbel) | have W := Lib.hid ((((W.out.drewN _).alloc _).alloc _).below hbel)); have K := Lib.hid (K.out.sl hbs); clear hbel))
            go_loopw [19] (fun v wr => ∃ t : Nat, t ≤ m ∧ v = .int .i64 t ∧ Since w11 wr) (fun v _ => m - (intOf v).toNat)
            case atStart => exact ⟨0, Nat.zero_le _, rfl, Since.refl _⟩
            case round =>
              obtain ⟨t, ht, rfl, hs⟩ := hrel
              have K3 := Lib.hid (K.out.below hs)
              have S1 := Lib.hid hs
              clear hs
              by_cases hlt : t < m
              · obtain ⟨b1, o1, h1, _, hc1⟩ := Bs.at' (K3.out.sat (.tail _ (.tail _ (.tail _ (.head _))))) (by rw [LS.out]; omega); subst h1; have y1 := hc1 (t) (by rw [LS.out]; omega); clear hc1; skip; obtain ⟨b2, o2, h2, _, hc2⟩ := Bs.at' (K3.out.sat (.tail _ (.tail _ (.head _)))) (by rw [LS.out]; omega); subst h2; have y2 := hc2 (t) (by rw [LS.out]; omega); clear hc2; skip; obtain ⟨b3, o3, h3, _, hc3⟩ := Bs.at' (K3.out.sat (.head _)) (by rw [LS.out]; omega); subst h3; have y3 := hc3 (t) (by rw [LS.out]; omega); clear hc3; skip
                have e1 := E1.out t hlt
                rw [e1] at y3
                clear e1
                generalize (synL k m l).getD t 0 = p at *
                generalize (synL k m l2).getD t 0 = q at *
                have hxor := xor_n p q
                have hx : (((p + q).n : Int) != ((p + q).n : Int)) = false := by simp
                go_wp2
                go_quiet (fail)
                go_wp2
                go_roundw
                case rel => exact ⟨t + 1, by omega, by go_num, S1.out.drewN _⟩
                case measure => simp [intOf]; omega
              · go_wp2
                go_ret
                exact ⟨rfl, W.out.below S1.out⟩
      · clear hfew
        obtain ⟨n, hn0⟩ : ∃ n, l.length = n := ⟨_, rfl⟩
        have NL : Hid (l.length = n) := hn0
        have NL2 : Hid (l2.length = n) := by show _ = _; rw [← hn0]; exact hll.symm
        obtain ⟨E, hE, hof⟩ := of_else k m hk hm n (by rw [← hn0]; exact Nat.le_trans ha.len ha.mx) (by rw [← hn0]; exact hng)
        have OA := Lib.hid hof
        have hnb : n ≤ 140737488351232 := by omega
        have E0 : (E == 0) = false := by rcases hE with rfl | rfl <;> rfl
        have E1 : (E != 0) = true := by rcases hE with rfl | rfl <;> rfl
        have E2 : (E == E) = true := by simp
        rw [hn0]
        rw [show l2.length = n from NL2.out]
        have d0 : ((n : Int) == (n : Int)) = true := by simp
        have d1 : ((n : Int) != (n : Int)) = false := by simp
        clear hll hn0 hng hE hof
        have W := Lib.hid (Since.refl w)
        have K := Lib.hid ((Sl.kn ha).sl ha2)
        go_enter Try.func7, Try.ntmps7
        go_wp2_with (first
          | (go_at_call 48; (with_reducible refine (awake8 _).mono ?_); rintro e w1 ⟨rfl, hbel⟩; (first | have K := Lib.hid (K.out.below hbel) | have K := Lib.hid ((K.out.alloc _).below hbel) | have K := Lib.hid (((K.out.alloc _).alloc _).below hbel) | have K := Lib.hid ((K.out.drewN _).below hbel) | have K := Lib.hid (((K.out.drewN _).alloc _).below hbel) | have K := Lib.hid (((K.out.alloc _).drewN _).below hbel) | have K := Lib.hid ((((K.out.alloc _).alloc _).drewN _).below hbel) | have K := Lib.hid ((((K.out.alloc _).alloc _).alloc _).below hbel) | have K := Lib.hid ((((K.out.drewN _).alloc _).alloc _).below hbel)); (first | have W := Lib.hid (W.out.below hbel) | have W := Lib.hid ((W.out.alloc _).below hbel) | have W := Lib.hid (((W.out.alloc _).alloc _).below hbel) | have W := Lib.hid ((W.out.drewN _).below hbel) | have W := Lib.hid (((W.out.drewN _).alloc _).below hbel) | have W := Lib.hid (((W.out.alloc _).drewN _).below hbel) | have W := Lib.hid ((((W.out.alloc _).alloc _).drewN _).below hbel) | have W := Lib.hid ((((W.out.alloc _).alloc _).alloc _).below hbel) | have W := Lib.hid ((((W.out.drewN _).alloc _).alloc _).below hbel)); clear hbel)
          | (go_at_call 37; (with_reducible refine (new_any _).mono ?_); rintro e w2 ⟨rfl, hbel, hg⟩; (first | have K := Lib.hid (K.out.below hbel) | have K := Lib.hid ((K.out.alloc _).below hbel) | have K := Lib.hid (((K.out.alloc _).alloc _).below hbel) | have K := Lib.hid ((K.out.drewN _).below hbel) | have K := Lib.hid (((K.out.drewN _).alloc _).below hbel) | have K := Lib.hid (((K.out.alloc _).drewN _).below hbel) | have K := Lib.hid ((((K.out.alloc _).alloc _).drewN _).below hbel) | have K := Lib.hid ((((K.out.alloc _).alloc _).alloc _).below hbel) | have K := Lib.hid ((((K.out.drewN _).alloc _).alloc _).below hbel)); (first | have W := Lib.hid (W.out.below hbel) | have W := Lib.hid ((W.out.alloc _).below hbel) | have W := Lib.hid (((W.out.alloc _).alloc _).below hbel) | have W := Lib.hid ((W.out.drewN _).below hbel) | have W := Lib.hid (((W.out.drewN _).alloc _).below hbel) | have W := Lib.hid (((W.out.alloc _).drewN _).below hbel) | have W := Lib.hid ((((W.out.alloc _).alloc _).drewN _).below hbel) | have W := Lib.hid ((((W.out.alloc _).alloc _).alloc _).below hbel) | have W := Lib.hid ((((W.out.drewN _).alloc _).alloc _).below hbel)); clear hbel; have K := Lib.hid (K.out.withF hg); clear hg)
          | (go_at_call 49; (with_reducible refine (FW.out _).mono ?_); rintro e wx ⟨rfl, rfl⟩)
          | (go_at_call 52; (with_reducible refine (OA.out _ _ _ _ ?_).mono ?_); (first | exact K.out.gf | exact (K.out.alloc _).gf | exact (K.out.drewN _).gf | exact ((K.out.alloc _).alloc _).gf | exact ((K.out.alloc _).drewN _).gf | exact (((K.out.alloc _).alloc _).alloc _).gf); rintro e w3 ⟨rfl, hbel⟩; (first | have K := Lib.hid (K.out.below hbel) | have K := Lib.hid ((K.out.alloc _).below hbel) | have K := Lib.hid (((K.out.alloc _).alloc _).below hbel) | have K := Lib.hid ((K.out.drewN _).below hbel) | have K := Lib.hid (((K.out.drewN _).alloc _).below hbel) | have K := Lib.hid (((K.out.alloc _).drewN _).below hbel) | have K := Lib.hid ((((K.out.alloc _).alloc _).drewN _).below hbel) | have K := Lib.hid ((((K.out.alloc _).alloc _).alloc _).below hbel) | have K := Lib.hid ((((K.out.drewN _).alloc _).alloc _).below hbel)); (first | have W := Lib.hid (W.out.below hbel) | have W := Lib.hid ((W.out.alloc _).below hbel) | have W := Lib.hid (((W.out.alloc _).alloc _).below hbel) | have W := Lib.hid ((W.out.drewN _).below hbel) | have W := Lib.hid (((W.out.drewN _).alloc _).below hbel) | have W := Lib.hid (((W.out.alloc _).drewN _).below hbel) | have W := Lib.hid ((((W.out.alloc _).alloc _).drewN _).below hbel) | have W := Lib.hid ((((W.out.alloc _).alloc _).alloc _).below hbel) | have W := Lib.hid ((((W.out.drewN _).alloc _).alloc _).below hbel)); clear hbel))
        go_loopw [15, 16] (fun v x wr => ∃ (i : Nat) (A' : Option Addr) (c' : Nat), i ≤ n ∧ x = .int .i64 i ∧ v = .slice A' i c' ∧ wr.ownsRow w3.heap.size 5 1 (.slice A' i c') i ((tab i fun i => l.getD i 0 + l2.getD i 0).map bv) ∧ Below w3.heap.size w3 wr) (fun _ x _ => n - (intOf x).toNat)
        case atStart => exact ⟨0, none, 0, Nat.zero_le _, rfl, rfl, World.ownsRow_nil _ _ _ _, Below.refl _ _⟩
        case round =>
          obtain ⟨i, A5, c5, hi, rfl, rfl, ho, hb⟩ := hrel
          have HO := Lib.hid ho
          have HB := Lib.hid hb
          have hsz := hb.size
          have K1 := Lib.hid (K.out.below hb)
          clear ho hb
          by_cases hlt : i < n
          · obtain ⟨b1, o1, h1, _, hc1⟩ := Bs.at' (K1.out.sat (.tail _ (.head _))) (by rw [NL.out]; omega)
            obtain ⟨b2, o2, h2, _, hc2⟩ := Bs.at' (K1.out.sat (.head _)) (by rw [NL2.out]; omega)
            subst h1
            subst h2
            have y1 := hc1 i (by rw [NL.out]; exact hlt)
            have y2 := hc2 i (by rw [NL2.out]; exact hlt)
            have HT : Hid (tab (i + 1) (fun i => l.getD i 0 + l2.getD i 0) = tab i (fun i => l.getD i 0 + l2.getD i 0) ++ [l.getD i 0 + l2.getD i 0]) := tab_succ' _ _
            clear hc1 hc2
            generalize l.getD i 0 = x at *
            generalize l2.getD i 0 = y at *
            have hxor := xor_n x y
            go_wp2
            go_region_law (refine step_app_bytes rfl _ _ rfl w3.heap.size A5 c5 i (tab i fun i => l.getD i 0 + l2.getD i 0) rfl (own_below HO.out ⟨rfl, rfl, rfl, by simp, fun k hk => heap_alloc_old _ _ hk⟩) _ _ 1 [x + y] rfl ?litbs rfl (by omega) (by simp; omega) ?_; (case litbs => first | exact lit_bs rfl rfl rfl (by decide) | exact lit_drew (x + y) rfl); intro A6 c6 w6 hown6 hgr6; have HB6 : Hid (Below w3.heap.size w3 w6) := own_grow' hgr6 HB.out HO.out ⟨rfl, rfl, rfl, by simp, fun k hk => heap_alloc_old _ _ hk⟩ hsz; have HO6 := Lib.hid hown6; clear hown6 hgr6)
            all_goals
              go_wp2
              go_roundw
              case rel => exact ⟨i + 1, A6, c6, by omega, by go_num, rfl, by rw [HT.out]; exact HO6.out, HB6.out⟩
              case measure => simp [intOf]; omega
          · have hie : i = n := by omega
            subst hie
            have HSUM := Lib.hid (own_sl HO.out)
            have K := Lib.hid (K1.out.sl HSUM.out)
            have W := Lib.hid (Since.below W.out HB.out)
            clear HO HB
            go_wp2_with (first
              | (go_at_call 52; (with_reducible refine (OA.out _ _ _ _ ?_).mono ?_); (first | exact K.out.gf | exact (K.out.alloc _).gf | exact (K.out.drewN _).gf | exact ((K.out.alloc _).alloc _).gf | exact ((K.out.alloc _).drewN _).gf | exact (((K.out.alloc _).alloc _).alloc _).gf); rintro e w11 ⟨rfl, hbel⟩; (first | have K := Lib.hid (K.out.below hbel) | have K := Lib.hid ((K.out.alloc _).below hbel) | have K := Lib.hid (((K.out.alloc _).alloc _).below hbel) | have K := Lib.hid ((K.out.drewN _).below hbel) | have K := Lib.hid (((K.out.drewN _).alloc _).below hbel) | have K := Lib.hid (((K.out.alloc _).drewN _).below hbel) | have K := Lib.hid ((((K.out.alloc _).alloc _).drewN _).below hbel) | have K := Lib.hid ((((K.out.alloc _).alloc _).alloc _).below hbel) | have K := Lib.hid ((((K.out.drewN _).alloc _).alloc _).below hbel)); (first | have W := Lib.hid (W.out.below hbel) | have W := Lib.hid ((W.out.alloc _).below hbel) | have W := Lib.hid (((W.out.alloc _).alloc _).below hbel) | have W := Lib.hid ((W.out.drewN _).below hbel) | have W := Lib.hid (((W.out.drewN _).alloc _).below hbel) | have W := Lib.hid (((W.out.alloc _).drewN _).below hbel) | have W := Lib.hid ((((W.out.alloc _).alloc _).drewN _).below hbel) | have W := Lib.hid ((((W.out.alloc _).alloc _).alloc _).below hbel) | have W := Lib.hid ((((W.out.drewN _).alloc _).alloc _).below hbel)); clear hbel))
            go_ret
            exact ⟨rfl, W.out⟩
    · have d0 : ((l.length : Int) == (l2.length : Int)) = false := by rw [beq_eq_false_iff_ne]; omega
      have d1 : ((l.length : Int) != (l2.length : Int)) = true := by rw [bne_iff_ne]; omega
      have d2 : (l.length == l2.length) = false := by rw [beq_eq_false_iff_ne]; omega
      have d3 : (l.length != l2.length) = true := by rw [bne_iff_ne]; omega
      clear hll hfew
      have W := Lib.hid (Since.refl w)
      have K := Lib.hid ((Sl.kn ha).sl ha2)
      go_enter Try.func7, Try.ntmps7
      go_wp2_with (first
        | (go_at_call 48; (with_reducible refine (awake8 _).mono ?_); rintro e w1 ⟨rfl, hbel⟩; (first | have K := Lib.hid (K.out.below hbel) | have K := Lib.hid ((K.out.alloc _).below hbel) | have K := Lib.hid (((K.out.alloc _).alloc _).below hbel) | have K := Lib.hid ((K.out.drewN _).below hbel) | have K := Lib.hid (((K.out.drewN _).alloc _).below hbel) | have K := Lib.hid (((K.out.alloc _).drewN _).below hbel) | have K := Lib.hid ((((K.out.alloc _).alloc _).drewN _).below hbel) | have K := Lib.hid ((((K.out.alloc _).alloc _).alloc _).below hbel) | have K := Lib.hid ((((K.out.drewN _).alloc _).alloc _).below hbel)); (first | have W := Lib.hid (W.out.below hbel) | have W := Lib.hid ((W.out.alloc _).below hbel) | have W := Lib.hid (((W.out.alloc _).alloc _).below hbel) | have W := Lib.hid ((W.out.drewN _).below hbel) | have W := Lib.hid (((W.out.drewN _).alloc _).below hbel) | have W := Lib.hid (((W.out.alloc _).drewN _).below hbel) | have W := Lib.hid ((((W.out.alloc _).alloc _).drewN _).below hbel) | have W := Lib.hid ((((W.out.alloc _).alloc _).alloc _).below hbel) | have W := Lib.hid ((((W.out.drewN _).alloc _).alloc _).below hbel)); clear hbel)
        | (go_at_call 37; (with_reducible refine (new_any _).mono ?_); rintro e w2 ⟨rfl, hbel, hg⟩; (first | have K := Lib.hid (K.out.below hbel) | have K := Lib.hid ((K.out.alloc _).below hbel) | have K := Lib.hid (((K.out.alloc _).alloc _).below hbel) | have K := Lib.hid ((K.out.drewN _).below hbel) | have K := Lib.hid (((K.out.drewN _).alloc _).below hbel) | have K := Lib.hid (((K.out.alloc _).drewN _).below hbel) | have K := Lib.hid ((((K.out.alloc _).alloc _).drewN _).below hbel) | have K := Lib.hid ((((K.out.alloc _).alloc _).alloc _).below hbel) | have K := Lib.hid ((((K.out.drewN _).alloc _).alloc _).below hbel)); (first | have W := Lib.hid (W.out.below hbel) | have W := Lib.hid ((W.out.alloc _).below hbel) | have W := Lib.hid (((W.out.alloc _).alloc _).below hbel) | have W := Lib.hid ((W.out.drewN _).below hbel) | have W := Lib.hid (((W.out.drewN _).alloc _).below hbel) | have W := Lib.hid (((W.out.alloc _).drewN _).below hbel) | have W := Lib.hid ((((W.out.alloc _).alloc _).drewN _).below hbel) | have W := Lib.hid ((((W.out.alloc _).alloc _).alloc _).below hbel) | have W := Lib.hid ((((W.out.drewN _).alloc _).alloc _).below hbel)); clear hbel; have K := Lib.hid (K.out.withF hg); clear hg)
        | (go_at_call 49; (with_reducible refine (FW.out _).mono ?_); rintro e wx ⟨rfl, rfl⟩))
      all_goals (go_ret; exact ⟨rfl, W.out⟩)
end Go.Proofs.Ytmkjplpnoohfnaa
