import Derived.Test.YtbepadepepoilaaMem
namespace Go.Proofs.Ytbepadepepoilaa
open Go.RowKit
theorem neq_n {x y : F} (h : x = y) : ((x.n : Int) != (y.n : Int)) = false := by rw [bne, beq_n h]; rfl
theorem nne_n {x y : F} (h : x ≠ y) : ((x.n : Int) != (y.n : Int)) = true := by rw [bne, bne_n h]; rfl
set_option maxRecDepth 100000 in
theorem ref_same (A : Option Addr) (c : Nat) (p : List F) (A2 : Option Addr) (c2 : Nat) (q : List F) (w : World) (ha : Bs w A c p) (ha2 : Bs w A2 c2 q) :
    Calls Try.prog 34 #[.slice A p.length c, .slice A2 q.length c2] w fun e w' => e = .returned (.bool (decide (p = q))) ∧ Below w.heap.size w w' := by
  have hpl : p.length ≤ 9223372036854775807 := by have := ha.len; have := ha.mx; unfold maxLen at this; omega
  have HA := Lib.hid ha
  have HA2 := Lib.hid ha2
  clear ha ha2
  by_cases hl : p.length = q.length
  · have h0 : (p.length != q.length) = false := by rw [hl]; simp
    have HL := Lib.hid hl
    rw [← hl] at h0 ⊢
    clear hl
    go_enter Try.func34, Try.ntmps34
    go_wp2
    go_loopw [5] (fun v wr => ∃ i : Nat, i ≤ p.length ∧ v = .int .i64 i ∧ Hid (∀ j, j < i → p.getD j 0 = q.getD j 0) ∧ Below w.heap.size w wr) (fun v _ => p.length - (intOf v).toNat)
    case atStart => exact ⟨0, by omega, rfl, fun j hj => absurd hj (Nat.not_lt_zero _), Below.refl _ _⟩
    case round =>
      obtain ⟨i, hi, rfl, hij, hb⟩ := hrel
      by_cases hlt : i < p.length
      · obtain ⟨b1, o1, hA, hbl, hc⟩ := Bs.at' (HA.out.below hb) (by omega)
        obtain ⟨b2, o2, hA2, hbl2, hc2⟩ := Bs.at' (HA2.out.below hb) (by have := HL.out; omega)
        subst hA
        subst hA2
        have hk1 := hc i hlt
        have hk2 := hc2 i (by have := HL.out; omega)
        have HB := Lib.hid hb
        clear hc hc2 hb HA HA2
        by_cases he : p.getD i 0 = q.getD i 0
        · have ht := neq_n he
          have H2 : Hid (∀ j, j < i + 1 → p.getD j 0 = q.getD j 0) := fun j hj => by
            rcases Nat.lt_or_ge j i with h | h
            · exact hij.out j h
            · have : j = i := by omega
              rw [this]; exact he
          clear he
          generalize p.getD i 0 = x at *
          generalize q.getD i 0 = y at *
          go_wp2
          go_quiet (fail)
          go_wp2
          go_roundw
          case rel => exact ⟨i + 1, by omega, by go_num, H2.out, below_drewN HB.out _⟩
          case measure => simp [intOf]; omega
        · have ht := nne_n he
          have H2 : Hid (p ≠ q) := fun h => he (by rw [h])
          clear he
          generalize p.getD i 0 = x at *
          generalize q.getD i 0 = y at *
          go_wp2
          go_quiet (fail)
          go_wp2
          go_ret
          exact ⟨by rw [decide_eq_false H2.out]; rfl, below_drewN HB.out _⟩
      · have H2 : Hid (p = q) := ext_getD HL.out fun j hj => hij.out j (by omega)
        have HB := Lib.hid hb
        clear hb hij
        go_wp2
        go_ret
        exact ⟨by rw [decide_eq_true H2.out]; rfl, HB.out⟩
  · have h0 : (p.length != q.length) = true := by simp; exact hl
    have H2 : Hid (p ≠ q) := fun h => hl (by rw [h])
    clear hl
    go_enter Try.func34, Try.ntmps34
    go_wp2
    go_ret
    exact ⟨by rw [decide_eq_false H2.out]; rfl, Below.refl _ _⟩
theorem same_true (A : Option Addr) (c : Nat) (p : List F) (A2 : Option Addr) (c2 : Nat) (q : List F) (w : World) (ha : Bs w A c p) (ha2 : Bs w A2 c2 q) (h : p = q) :
    Calls Try.prog 34 #[.slice A p.length c, .slice A2 q.length c2] w fun e w' => e = .returned (.bool true) ∧ Below w.heap.size w w' := by
  have := ref_same A c p A2 c2 q w ha ha2
  rwa [decide_eq_true h] at this
end Go.Proofs.Ytbepadepepoilaa
