/- The document's taken, walked. -/
import Derived.Test.YtmcamamfpefffaaK1
namespace Go.Proofs.Ytmcamamfpefffaa
open Go.RowKit
set_option linter.unusedVariables false
set_option linter.unusedSimpArgs false
set_option maxRecDepth 1000000 in
set_option maxHeartbeats 4000000 in
theorem ref09_taken (N j : Nat) (A1 : Option Addr) (c1 : Nat) (l1 : List F) (A2 : Option Addr) (c2 : Nat) (l2 : List F) (w : World) (h1 : Bs w A1 c1 l1) (h2 : Bs w A2 c2 l2) (hn1 : l1.length = N) (hn2 : l2.length = N) (hj : j < N) (hN : N ≤ 1000) (hp : l2.getD j 0 ≠ 0) :
    Calls Try.prog 42 #[.slice A1 N c1, .slice A2 N c2, .int .i64 j] w fun e w' => ∃ A' c', e = .returned (.slice A' N c') ∧ w'.ownsRow w.heap.size 5 1 (.slice A' N c') N ((tab N fun i => l1.getD i 0 + l1.getD j 0 * F.inv (l2.getD j 0) * l2.getD i 0).map bv) ∧ Below w.heap.size w w' := by
  have H1 := Lib.hid h1
  have H2 := Lib.hid h2
  have L1 := Lib.hid hn1
  have L2 := Lib.hid hn2
  obtain ⟨b1, o1, hA1, _, hc1⟩ := Bs.at' h1 (by omega)
  obtain ⟨b2, o2, hA2, _, hc2⟩ := Bs.at' h2 (by omega)
  have y1 := hc1 j (by omega)
  have y2 := hc2 j (by omega)
  subst hA1
  subst hA2
  obtain ⟨x, hx⟩ : ∃ x, l1.getD j 0 * F.inv (l2.getD j 0) = x := ⟨_, rfl⟩
  have hjt : (j : Int) < (N : Int) := by omega
  have hj0 : (0 : Int) ≤ (j : Int) := by omega
  have DV : Hid (∀ w, Calls Try.prog 43 #[.int .u8 (l1.getD j 0).n, .int .u8 (l2.getD j 0).n] w fun e w' => e = .returned (.tuple #[.int .u8 x.n, .int .i64 0]) ∧ w = w') := fun w => by
    have := ref_div (l1.getD j 0) (l2.getD j 0) w
    rw [if_neg hp, hx] at this
    exact this
  rw [hx]
  clear hx h1 h2 hn1 hn2 hc1 hc2 hp
  generalize l1.getD j 0 = u at *
  generalize l2.getD j 0 = v at *
  go_enter Try.func42, Try.ntmps42
  go_wp2
  go_region_law (go_simp; go_at_call 43; (with_reducible refine (DV.out _).mono ?_); rintro e wx ⟨rfl, rfl⟩)
  all_goals
    go_wp2
    clear y1 y2
    go_loopw [9, 10] (fun v y wr => ∃ (i : Nat) (A' : Option Addr) (c' : Nat), i ≤ N ∧ y = .int .i64 i ∧ v = .slice A' i c' ∧ wr.ownsRow w.heap.size 5 1 (.slice A' i c') i ((tab i fun i => l1.getD i 0 + x * l2.getD i 0).map bv) ∧ Below w.heap.size w wr) (fun _ y _ => N - (intOf y).toNat)
    case atStart => exact ⟨0, none, 0, Nat.zero_le _, rfl, rfl, World.ownsRow_nil _ _ _ _, below_drew0 w 1⟩
    case round =>
      obtain ⟨i, A5, c5, hi, rfl, rfl, hown, hbel⟩ := hrel
      have hsz := hbel.size
      have HO := Lib.hid hown
      have HB := Lib.hid hbel
      clear hown hbel
      by_cases hlt : i < N
      · have hit : (i : Int) < (N : Int) := by omega
        obtain ⟨_, _, hA, _, hc1⟩ := Bs.at' (H1.out.below HB.out) (by rw [L1.out]; omega)
        injection hA with hA
        obtain ⟨rfl, rfl⟩ : b1 = _ ∧ o1 = _ := by injection hA with e1 e2; exact ⟨e1, e2⟩
        obtain ⟨_, _, hA, _, hc2⟩ := Bs.at' (H2.out.below HB.out) (by rw [L2.out]; omega)
        injection hA with hA
        obtain ⟨rfl, rfl⟩ : b2 = _ ∧ o2 = _ := by injection hA with e1 e2; exact ⟨e1, e2⟩
        have y1 := hc1 i (by rw [L1.out]; exact hlt)
        have y2 := hc2 i (by rw [L2.out]; exact hlt)
        have HT : Hid (tab (i + 1) (fun i => l1.getD i 0 + x * l2.getD i 0) = tab i (fun i => l1.getD i 0 + x * l2.getD i 0) ++ [l1.getD i 0 + x * l2.getD i 0]) := tab_succ _ _
        clear hc1 hc2 hA
        generalize l1.getD i 0 = a at *
        generalize l2.getD i 0 = b at *
        have hxor := xor_n a (x * b)
        go_wp2
        go_region_law (first
          | (refine step_app_bytes rfl _ _ rfl w.heap.size A5 c5 i (tab i fun i => l1.getD i 0 + x * l2.getD i 0) rfl (own_below HO.out ⟨rfl, rfl, rfl, by simp, fun k hk => heap_alloc_old _ _ hk⟩) _ _ 1 [a + x * b] rfl ?litbs rfl (by omega) (by simp; omega) ?_; (case litbs => first | exact lit_bs rfl rfl rfl (by decide) | exact lit_drew (a + x * b) rfl); intro A6 c6 w6 hown6 hgr6; have HB6 : Hid (Below w.heap.size w w6) := own_grow' hgr6 HB.out HO.out ⟨rfl, rfl, rfl, by simp, fun k hk => heap_alloc_old _ _ hk⟩ hsz; have HO6 := Lib.hid hown6; clear hown6 hgr6)
          | (go_simp; go_at_call 39; (with_reducible refine (ref_mul _ _ _).mono ?_); rintro e wx ⟨rfl, rfl⟩))
        all_goals
          go_wp2
          go_roundw
          case rel => exact ⟨i + 1, A6, c6, by omega, by go_num, rfl, by rw [HT.out]; exact HO6.out, HB6.out⟩
          case measure => simp [intOf]; omega
      · have hie : i = N := by omega
        subst hie
        go_wp2
        go_ret
        exact ⟨A5, c5, rfl, HO.out, HB.out⟩
end Go.Proofs.Ytmcamamfpefffaa
