/- Layer 9: both locators, and the document's Turned and taken, walked. -/
import Derived.Test.YtmcamamfpefffaaRow9
import Derived.Test.YtmcamamfpefffaaKloc
namespace Go.Proofs.Ytmcamamfpefffaa
open Go.RowKit
set_option linter.unusedVariables false
set_option linter.unusedSimpArgs false
set_option maxRecDepth 100000 in
set_option maxHeartbeats 1000000 in
theorem key_locator (b : Nat) (A : Option Addr) (c : Nat) (pts : List F) (w : World) (hg : GfAt w b) (ha : Bs w A c pts) (hn : pts.length ≤ 1000) :
    Calls Try.prog 15 #[fp b, .slice A pts.length c] w fun e w' => ∃ A' c', e = .returned (.slice A' (pts.length + 1) c') ∧ Bs w' A' c' (locN pts pts.length) ∧ Below w.heap.size w w' := by
  have HA := Lib.hid ha
  have HG := Lib.hid hg
  have MU : Hid (∀ (i : Nat) (A5 : Option Addr) (c5 : Nat) (A6 : Option Addr) (w' : World), i < pts.length → GfAt w' b → Bs w' A5 c5 (locN pts i) → Bs w' A6 2 [pts.getD i 0, 1] → Calls Try.prog 18 #[fp b, .slice A5 (i + 1 : Nat) c5, .slice A6 2 2] w' fun e w'' => ∃ A' c', e = .returned (.slice A' (i + 1 + 1 : Nat) c') ∧ Bs w'' A' c' (locN pts (i + 1)) ∧ Below w'.heap.size w' w'') := fun i A5 c5 A6 w' hi h1 h2 h3 => by
    have := poly_mul b A5 c5 (locN pts i) A6 2 [pts.getD i 0, 1] w' h1 h2 h3 (by rw [length_locN]; omega) (by simp)
    rw [length_locN] at this
    refine this.mono ?_
    rintro e w'' ⟨A', c', he, hm⟩
    refine ⟨A', c', ?_, hm.bs, hm.bel⟩
    rw [he]
    have : (norm (pmul (locN pts i) [pts.getD i 0, 1])).length = i + 1 + 1 := length_locN pts (i + 1)
    rw [this]
  have L1 : Hid (Bs (w.alloc (.cells #[.int .u8 1] 5)) (some ⟨w.heap.size, 0, none⟩) 1 (locN pts 0)) := lit_bs rfl rfl rfl (by decide)
  have PL : Hid (∀ i, i < pts.length → ∀ w', Below w.heap.size w w' → ∃ b2 o2, A = some ⟨b2, o2, none⟩ ∧ w'.cell? ⟨b2, o2 + i, none⟩ = some (.int .u8 ((pts.getD i 0).n : Int))) := fun i hi w' hb => by
    obtain ⟨b2, o2, hA, _, hc⟩ := Bs.at' (HA.out.below hb) (by omega)
    exact ⟨b2, o2, hA, hc i hi⟩
  clear ha hg HA
  generalize hm : pts.length = n at *
  clear hm
  unfold fp at MU ⊢
  go_enter Try.func15, Try.ntmps15
  go_wp2
  go_loopw [5, 13] (fun v x wr => ∃ (i : Nat) (A5 : Option Addr) (c5 : Nat), i ≤ n ∧ x = .int .i64 i ∧ v = .slice A5 (i + 1 : Nat) c5 ∧ Bs wr A5 c5 (locN pts i) ∧ Below w.heap.size w wr) (fun _ x _ => n - (intOf x).toNat)
  case atStart => exact ⟨0, _, _, Nat.zero_le _, rfl, rfl, L1.out, below_alloc _ _⟩
  case round =>
    clear L1
    obtain ⟨i, A5, c5, hi, rfl, rfl, hbs, hbel⟩ := hrel
    have HB := Lib.hid hbs
    have HW := Lib.hid hbel
    clear hbs hbel
    by_cases hlt : i < n
    · have hit : (i : Int) < (n : Int) := by omega
      obtain ⟨b2, o2, hA, y⟩ := PL.out i hlt wr HW.out
      subst hA
      have LT : Hid (∀ w', w' = wr → Bs (w'.alloc (.cells #[.int .u8 ((pts.getD i 0).n : Int), .int .u8 1] 5)) (some ⟨wr.heap.size, 0, none⟩) 2 [pts.getD i 0, 1]) := fun w' e => by subst e; exact lit_bs rfl rfl rfl (by decide)
      have MUi : Hid (∀ A6 w', GfAt w' b → Bs w' A5 c5 (locN pts i) → Bs w' A6 2 [pts.getD i 0, 1] → Calls Try.prog 18 #[.pointer (some ⟨b, 0, none⟩), .slice A5 (i + 1 : Nat) c5, .slice A6 2 2] w' fun e w'' => ∃ A' c', e = .returned (.slice A' (i + 1 + 1 : Nat) c') ∧ Bs w'' A' c' (locN pts (i + 1)) ∧ Below w'.heap.size w' w'') := fun A6 w' h1 h2 h3 => MU.out i A5 c5 A6 w' hlt h1 h2 h3
      have G1 : Hid (GfAt wr b) := HG.out.below HW.out
      generalize pts.getD i 0 = a at *
      go_wp2_with (go_at_call 18; (with_reducible refine (MUi.out _ _ ?_ ?_ ?_).mono ?_); (exact G1.out.alloc _); (exact HB.out.alloc _); (exact LT.out _ rfl); rintro e w3 ⟨A7, c7, rfl, hb7, hbel7⟩; have HB7 := Lib.hid hb7; have HW7 : Hid (Below w.heap.size w w3) := HW.out.trans (((below_alloc wr _).trans (hbel7.mono (by simp))).mono HW.out.size); clear hb7 hbel7)
      go_roundw
      case rel => exact ⟨i + 1, A7, c7, by omega, by go_num, rfl, HB7.out, HW7.out⟩
      case measure => simp [intOf]; omega
    · obtain rfl : n = i := by omega
      have hit : ¬ (n : Int) < (n : Int) := by omega
      go_wp2
      go_ret
      exact ⟨A5, c5, rfl, HB.out, HW.out⟩
theorem key_locator_nil (A : Option Addr) (n c : Nat) (w : World) :
    Calls Try.prog 15 #[.pointer none, .slice A n c] w fun e w' => e = .returned (.slice none 0 0) ∧ w = w' := by
  go_enter Try.func15, Try.ntmps15
  go_wp2
  go_ret
  exact ⟨rfl, rfl⟩
set_option maxRecDepth 100000 in
set_option maxHeartbeats 1000000 in
theorem ref09_locator (A : Option Addr) (c : Nat) (pts : List F) (w : World) (ha : Bs w A c pts) (hn : pts.length ≤ 1000) :
    Calls Try.prog 16 #[.slice A pts.length c] w fun e w' => ∃ A' c', e = .returned (.slice A' (pts.length + 1) c') ∧ Bs w' A' c' (locN pts pts.length) ∧ Below w.heap.size w w' := by
  have HA := Lib.hid ha
  have MU : Hid (∀ (i : Nat) (A5 : Option Addr) (c5 : Nat) (A6 : Option Addr) (w' : World), i < pts.length → Bs w' A5 c5 (locN pts i) → Bs w' A6 2 [pts.getD i 0, 1] → Calls Try.prog 33 #[.slice A5 (i + 1 : Nat) c5, .slice A6 2 2] w' fun e w'' => ∃ A' c', e = .returned (.slice A' (i + 1 + 1 : Nat) c') ∧ Bs w'' A' c' (locN pts (i + 1)) ∧ Below w'.heap.size w' w'') := fun i A5 c5 A6 w' hi h2 h3 => by
    have := ref_pmul A5 c5 (locN pts i) A6 2 [pts.getD i 0, 1] w' h2 h3 (by rw [length_locN]; omega) (by simp)
    rw [length_locN] at this
    refine this.mono ?_
    rintro e w'' ⟨A', c', he, hm⟩
    refine ⟨A', c', ?_, hm.bs, hm.bel⟩
    rw [he]
    have : (norm (pmul (locN pts i) [pts.getD i 0, 1])).length = i + 1 + 1 := length_locN pts (i + 1)
    rw [this]
  have L1 : Hid (Bs (w.alloc (.cells #[.int .u8 1] 5)) (some ⟨w.heap.size, 0, none⟩) 1 (locN pts 0)) := lit_bs rfl rfl rfl (by decide)
  have PL : Hid (∀ i, i < pts.length → ∀ w', Below w.heap.size w w' → ∃ b2 o2, A = some ⟨b2, o2, none⟩ ∧ w'.cell? ⟨b2, o2 + i, none⟩ = some (.int .u8 ((pts.getD i 0).n : Int))) := fun i hi w' hb => by
    obtain ⟨b2, o2, hA, _, hc⟩ := Bs.at' (HA.out.below hb) (by omega)
    exact ⟨b2, o2, hA, hc i hi⟩
  clear ha HA
  generalize hm : pts.length = n at *
  clear hm
  go_enter Try.func16, Try.ntmps16
  go_wp2
  go_loopw [3, 4] (fun v x wr => ∃ (i : Nat) (A5 : Option Addr) (c5 : Nat), i ≤ n ∧ x = .int .i64 i ∧ v = .slice A5 (i + 1 : Nat) c5 ∧ Bs wr A5 c5 (locN pts i) ∧ Below w.heap.size w wr) (fun _ x _ => n - (intOf x).toNat)
  case atStart => exact ⟨0, _, _, Nat.zero_le _, rfl, rfl, L1.out, below_alloc _ _⟩
  case round =>
    clear L1
    obtain ⟨i, A5, c5, hi, rfl, rfl, hbs, hbel⟩ := hrel
    have HB := Lib.hid hbs
    have HW := Lib.hid hbel
    clear hbs hbel
    by_cases hlt : i < n
    · have hit : (i : Int) < (n : Int) := by omega
      obtain ⟨b2, o2, hA, y⟩ := PL.out i hlt wr HW.out
      subst hA
      have LT : Hid (∀ w', w' = wr → Bs (w'.alloc (.cells #[.int .u8 ((pts.getD i 0).n : Int), .int .u8 1] 5)) (some ⟨wr.heap.size, 0, none⟩) 2 [pts.getD i 0, 1]) := fun w' e => by subst e; exact lit_bs rfl rfl rfl (by decide)
      have MUi : Hid (∀ A6 w', Bs w' A5 c5 (locN pts i) → Bs w' A6 2 [pts.getD i 0, 1] → Calls Try.prog 33 #[.slice A5 (i + 1 : Nat) c5, .slice A6 2 2] w' fun e w'' => ∃ A' c', e = .returned (.slice A' (i + 1 + 1 : Nat) c') ∧ Bs w'' A' c' (locN pts (i + 1)) ∧ Below w'.heap.size w' w'') := fun A6 w' h2 h3 => MU.out i A5 c5 A6 w' hlt h2 h3
      generalize pts.getD i 0 = a at *
      go_wp2_with (go_at_call 33; (with_reducible refine (MUi.out _ _ ?_ ?_).mono ?_); (exact HB.out.alloc _); (exact LT.out _ rfl); rintro e w3 ⟨A7, c7, rfl, hb7, hbel7⟩; have HB7 := Lib.hid hb7; have HW7 : Hid (Below w.heap.size w w3) := HW.out.trans (((below_alloc wr _).trans (hbel7.mono (by simp))).mono HW.out.size); clear hb7 hbel7)
      go_roundw
      case rel => exact ⟨i + 1, A7, c7, by omega, by go_num, rfl, HB7.out, HW7.out⟩
      case measure => simp [intOf]; omega
    · obtain rfl : n = i := by omega
      have hit : ¬ (n : Int) < (n : Int) := by omega
      go_wp2
      go_ret
      exact ⟨A5, c5, rfl, HB.out, HW.out⟩
set_option maxRecDepth 100000 in
set_option maxHeartbeats 1000000 in
theorem ref09_turned (A : Option Addr) (c : Nat) (s : List F) (w : World) (ha : Bs w A c s) (hn : s.length ≤ 100000) :
    Calls Try.prog 34 #[.slice A s.length c] w fun e w' => ∃ A' c', e = .returned (.slice A' (norm s.reverse).length c') ∧ Bs w' A' c' (norm s.reverse) ∧ Below w.heap.size w w' := by
  have HA := Lib.hid ha
  have NM : Hid (∀ (A5 : Option Addr) (c5 : Nat) (w' : World), Bs w' A5 c5 (revN s s.length) → Calls Try.prog 32 #[.slice A5 s.length c5] w' fun e w'' => ∃ A' c', e = .returned (.slice A' (norm s.reverse).length c') ∧ Bs w'' A' c' (norm s.reverse) ∧ Below w'.heap.size w' w'') := fun A5 c5 w' h => by
    have := ref_norm A5 c5 (revN s s.length) w' h (by rw [length_revN]; omega)
    rw [length_revN, revN_reverse] at this
    exact this.mono fun e w'' ⟨A', c', he, hm⟩ => ⟨A', c', he, hm.bs, hm.bel⟩
  have PL : Hid (∀ i, i < s.length → ∀ w', Below w.heap.size w w' → ∃ b2 o2, A = some ⟨b2, o2, none⟩ ∧ w'.cell? ⟨b2, o2 + i, none⟩ = some (.int .u8 ((s.getD i 0).n : Int))) := fun i hi w' hb => by
    obtain ⟨b2, o2, hA, _, hc⟩ := Bs.at' (HA.out.below hb) (by omega)
    exact ⟨b2, o2, hA, hc i hi⟩
  have RS : Hid (∀ i, revN s (i + 1) = revN s i ++ [s.getD (s.length - 1 - i) 0]) := fun i => revN_succ s i
  have R0 : Hid (revN s 0 = []) := rfl
  clear ha HA
  obtain ⟨ml, hml⟩ : ∃ ml, ml = (norm s.reverse).length := ⟨_, rfl⟩
  rw [← hml] at NM ⊢
  generalize norm s.reverse = res at *
  clear hml
  generalize hm : s.length = n at *
  clear hm
  go_enter Try.func34, Try.ntmps34
  go_wp2
  go_loopw [3, 4] (fun v x wr => ∃ (i : Nat) (A5 : Option Addr) (c5 : Nat), i ≤ n ∧ x = .int .i64 ((n : Int) - 1 - (i : Int)) ∧ v = .slice A5 i c5 ∧ wr.ownsRow w.heap.size 5 1 (.slice A5 i c5) i ((revN s i).map bv) ∧ Below w.heap.size w wr) (fun _ x _ => (intOf x + 1).toNat)
  case atStart => exact ⟨0, none, 0, Nat.zero_le _, by go_num, rfl, World.ownsRow_nil _ _ _ _, Below.refl _ _⟩
  case round =>
    obtain ⟨i, A5, c5, hi, rfl, rfl, hown, hbel⟩ := hrel
    have HO := Lib.hid hown
    have HB := Lib.hid hbel
    clear hown hbel
    by_cases hlt : i < n
    · obtain ⟨k, hk⟩ : ∃ k, k = n - 1 - i := ⟨_, rfl⟩
      have hkk : (n : Int) - 1 - (i : Int) = (k : Int) := by omega
      rw [hkk]
      obtain ⟨b2, o2, hA, y⟩ := PL.out k (by omega) wr HB.out
      subst hA
      have RSi := Lib.hid (RS.out i)
      rw [← hk] at RSi
      have hk0 : (0 : Int) ≤ (k : Int) := by omega
      have hkn : (k : Int) < (n : Int) := by omega
      have HK := Lib.hid hkk
      clear hkk hk
      generalize s.getD k 0 = a at *
      go_wp2_with (at_builtin; refine app_bytes _ rfl _ _ rfl w.heap.size A5 c5 i (revN s i) rfl (HO.out.alloc _) _ _ 1 [a] rfl (lit_bs rfl rfl rfl (by decide)) rfl (by omega) (by have := HB.out.size; simp; omega) ?_; intro A3 c3 w3 hown3 hb3; have HO3 := Lib.hid hown3; have HB3 : Hid (Below w.heap.size w w3) := (HB.out.alloc HB.out.size _).trans hb3; clear hown3 hb3)
      go_roundw
      case rel => exact ⟨i + 1, A3, c3, by omega, by have := HK.out; go_num, rfl, by rw [RSi.out]; exact HO3.out, HB3.out⟩
      case measure => simp [intOf]
    · obtain rfl : n = i := by omega
      have hkk : (n : Int) - 1 - (n : Int) = -1 := by omega
      rw [hkk]
      have BS := Lib.hid (own_sl HO.out)
      go_wp2_with (go_at_call 32; (with_reducible refine (NM.out _ _ _ BS.out).mono ?_); rintro e w3 ⟨A7, c7, rfl, hb7, hbel7⟩; have HB7 := Lib.hid hb7; have HW7 : Hid (Below w.heap.size w w3) := HB.out.trans (hbel7.mono HB.out.size); clear hb7 hbel7)
      go_ret
      exact ⟨A7, c7, rfl, HB7.out, HW7.out⟩
end Go.Proofs.Ytmcamamfpefffaa
