/- aumbryref06.Same, of lists that are alike. -/
import Derived.Test.YtmkjplpnoohfnaaRowE
import Derived.Test.YtmkjplpnoohfnaaSame
namespace Go.Proofs.Ytmkjplpnoohfnaa
open Go.RowKit
set_option linter.unusedVariables false
set_option linter.unusedSimpArgs false
set_option maxRecDepth 1000000 in
theorem ref06_same_true (A : Option Addr) (n c : Nat) (vs : List Value) (A' : Option Addr) (c' : Nat) (vs' : List Value) (ls : List (List F)) (w : World) (ha : Sl w A c vs) (hb : Bss w vs ls) (ha' : Sl w A' c' vs') (hb' : Bss w vs' ls) (hn : ls.length = n) (hm : n ≤ 1000) :
    Calls Try.prog 75 #[.slice A n c, .slice A' n c'] w fun e w' => e = .returned (.bool true) ∧ Below w.heap.size w w' := by
  have HA := Lib.hid ha
  have HB := Lib.hid hb
  have HA' := Lib.hid ha'
  have HB' := Lib.hid hb'
  have HN := Lib.hid hn
  clear ha hb hn ha' hb'
  go_enter Try.func75, Try.ntmps75
  go_wp2
  go_loopw [5] (fun v wr => ∃ i : Nat, i ≤ n ∧ v = .int .i64 i ∧ Since w wr) (fun v _ => n - (intOf v).toNat)
  case atStart => exact ⟨0, Nat.zero_le _, rfl, Since.refl _⟩
  case round =>
    obtain ⟨i, hi, rfl, hs⟩ := hrel
    have S1 := Lib.hid hs
    clear hs
    by_cases hlt : i < n
    · obtain ⟨A2, c2, h2, h2b⟩ := (HB.out.below S1.out).len (i := i) (by rw [HN.out]; exact hlt)
      obtain ⟨A3, c3, h3, h3b⟩ := (HB'.out.below S1.out).len (i := i) (by rw [HN.out]; exact hlt)
      obtain ⟨b, o, hA, _, hc⟩ := Sl.at' (HA.out.below S1.out) (by rw [HB.out.1, HN.out]; omega)
      obtain ⟨b', o', hA', _, hc'⟩ := Sl.at' (HA'.out.below S1.out) (by rw [HB'.out.1, HN.out]; omega)
      subst hA
      subst hA'
      have y2 := hc i _ h2
      have y3 := hc' i _ h3
      have hit : (i : Int) < (n : Int) := by omega
      have SM : Hid (∀ w', Below wr.heap.size wr w' → Calls Try.prog 54 #[.slice A2 (lenAt ls i) c2, .slice A3 (lenAt ls i) c3] w' fun e w'' => e = .returned (.bool true) ∧ Below w'.heap.size w' w'') := fun w' hb => same_true A2 c2 _ A3 c3 _ w' (h2b.below hb) (h3b.below hb) rfl
      clear hc hc' h2 h3 h2b h3b
      go_wp2
      go_region_law (go_simp; go_at_call 54; (with_reducible refine (SM.out _ ?_).mono ?_); (first | exact Below.refl _ _ | exact below_drew0 _ _ | exact below_drew0 _ 1); rintro e w3 ⟨rfl, hb3⟩; have HB3 : Hid (Below wr.heap.size wr w3) := ((below_drew0 wr 1).trans hb3); clear hb3)
      all_goals
        go_wp2
        go_roundw
        case rel => exact ⟨i + 1, by omega, by go_num, S1.out.below HB3.out⟩
        case measure => simp [intOf]; omega
    · have hie : i = n := by omega
      subst hie
      go_wp2
      go_ret
      exact ⟨rfl, S1.out⟩
end Go.Proofs.Ytmkjplpnoohfnaa
