/- syndrome.Of, walked. -/
import Derived.Test.YtmkjplpnoohfnaaSynW
namespace Go.Proofs.Ytmkjplpnoohfnaa
open Go.RowKit
set_option linter.unusedVariables false
set_option linter.unusedSimpArgs false
def synL (k m : Nat) (l : List F) : List F := tab m (syn k m fun i => l.getD i 0)
def sterm (k m : Nat) (l : List F) (i j : Nat) : F := l.getD i 0 * wt k m i * (F.of i).pow j
/-- the syndromes while they are made: of i bytes, and of the next one the first t -/
def ofT (k m : Nat) (l : List F) (i t : Nat) : List F := tab m fun j => if j < t then sumF i (fun i => sterm k m l i j) + sterm k m l i j else sumF i fun i => sterm k m l i j
theorem length_ofT (k m : Nat) (l : List F) (i t : Nat) : (ofT k m l i t).length = m := length_tab _ _
theorem ofT_zero (k m : Nat) (l : List F) : ofT k m l 0 0 = tab m fun _ => 0 := tab_congr fun j _ => by
  rw [if_neg (by omega)]; rfl
theorem ofT_next (k m : Nat) (l : List F) (i : Nat) : ofT k m l i m = ofT k m l (i + 1) 0 := tab_congr fun j hj => by
  rw [if_pos hj, if_neg (by omega)]; rfl
theorem ofT_all (k m : Nat) (l : List F) : ofT k m l (k + m) 0 = synL k m l := tab_congr fun j hj => by
  rw [if_neg (by omega)]; rfl
theorem ofT_get {k m : Nat} (l : List F) (i : Nat) {t : Nat} (ht : t < m) : (ofT k m l i t).getD t 0 = sumF i fun i => sterm k m l i t := by
  rw [ofT, getD_tab _ ht, if_neg (by omega)]
theorem ofT_set {k m : Nat} (l : List F) (i : Nat) {t : Nat} (ht : t < m) : (ofT k m l i t).set t ((ofT k m l i t).getD t 0 + sterm k m l i t) = ofT k m l i (t + 1) := by
  rw [ofT_get l i ht, ofT, set_tab]
  refine tab_congr fun j _ => ?_
  by_cases e : j = t
  · subst e; rw [if_pos rfl, if_pos (by omega)]
  · rw [if_neg e]
    by_cases e2 : j < t
    · rw [if_pos e2, if_pos (by omega)]
    · rw [if_neg e2, if_neg (by omega)]
theorem sterm_zero (k m : Nat) (l : List F) (i : Nat) : sterm k m l i 0 = l.getD i 0 * wt k m i := by rw [sterm, F.pow_zero, F.mul_one]
theorem sterm_succ (k m : Nat) (l : List F) (i t : Nat) : sterm k m l i (t + 1) = sterm k m l i t * F.of i := by
  rw [sterm, sterm, F.pow_succ]; ac_rfl
set_option maxRecDepth 1000000 in
set_option maxHeartbeats 1000000 in
theorem syn_of (b k m : Nat) (A : Option Addr) (c : Nat) (l : List F) (hkm : okkm k m) (hl : l.length = k + m) (w : World) (hg : GfAt w b) (ha : Bs w A c l) :
    Calls Try.prog 52 #[fp b, .int .i64 k, .int .i64 m, .slice A (k + m) c] w fun e w' => ∃ A' c', e = .returned (.tuple #[.slice A' m c', .int .i64 0]) ∧ w'.ownsRow w.heap.size 5 1 (.slice A' m c') m ((synL k m l).map bv) ∧ Below w.heap.size w w' := by
  have WE := Lib.hid (syn_weights b k m hkm w hg)
  obtain ⟨k1, k2, k3⟩ := hkm
  have HG := Lib.hid hg
  have HA := Lib.hid ha
  have HL := Lib.hid hl
  have e1 : ((k : Int) + (m : Int) == (k : Int) + (m : Int)) = true := by simp
  have e2 : ((k : Int) + (m : Int) != (k : Int) + (m : Int)) = false := by simp
  have Z : Hid (List.replicate m (0 : F) = ofT k m l 0 0) := by show _ = _; rw [ofT_zero, rep_tab]
  have SE : Hid (∀ i t, t < m → (ofT k m l i t).set t ((ofT k m l i t).getD t 0 + sterm k m l i t) = ofT k m l i (t + 1)) := fun i t ht => ofT_set l i ht
  have NX : Hid (∀ i, ofT k m l i m = ofT k m l (i + 1) 0) := fun i => ofT_next k m l i
  have AL : Hid (ofT k m l (k + m) 0 = synL k m l) := ofT_all k m l
  have LT : Hid (∀ i t, (ofT k m l i t).length = m) := fun i t => length_ofT _ _ _ _ _
  clear hg ha hl
  go_enter Try.func52, Try.ntmps52
  go_wp2_with (first
    | (go_at_call 50; (with_reducible refine WE.out.mono ?_); rintro e w1 ⟨A1, c1, rfl, hown, hbel⟩; have HO1 := Lib.hid (own_sl hown); have HW1 := Lib.hid hbel; clear hown hbel)
    | (refine make_bytes _ rfl _ _ rfl .i64 .i64 (m : Int) (m : Int) m rfl rfl rfl rfl ?b ?_; (case b => omega); intro w2 hown hbel; have ST0 : Hid (St w1 w2 w1.heap.size w1.heap.size m m (ofT k m l 0 0) []) := ⟨⟨(fun b e => by cases e), (fun x h => by cases h), (fun x h => by cases h)⟩, (by rw [← Z.out]; exact hown), hbel⟩; clear hown hbel))
  have NE : Hid (∀ x : Nat × TypeId × Array Value, x ∈ ([] : List (Nat × TypeId × Array Value)) → x.1 ≠ w1.heap.size) := fun x hx => by cases hx
  go_loopw [38] (fun v wr => ∃ i : Nat, i ≤ k + m ∧ v = .int .i64 i ∧ St w1 wr w1.heap.size w1.heap.size m m (ofT k m l i 0) []) (fun v _ => k + m - (intOf v).toNat)
  case atStart => exact ⟨0, Nat.zero_le _, rfl, ST0.out⟩
  case round =>
    clear ST0
    obtain ⟨i, hi, rfl, hst⟩ := hrel
    have ST := Lib.hid hst
    by_cases hlt : i < k + m
    · have hbw := HW1.out.trans (hst.bel.mono HW1.out.size)
      obtain ⟨b1, o1, hA, _, hc1⟩ := Bs.at' (HA.out.below hbw) (by rw [HL.out]; omega)
      obtain ⟨b2, o2, hA1, _, hc2⟩ := Bs.at' (Sl.below HO1.out hst.bel) (by rw [length_wtL]; omega)
      subst hA
      subst hA1
      have y1 := hc1 i (by rw [HL.out]; exact hlt)
      have y2 := hc2 i (by rw [length_wtL]; exact hlt)
      rw [wtL, getD_tab _ hlt] at y2
      have G1 := Lib.hid (HG.out.below hbw)
      have S0 := sterm_zero k m l i
      have X0 : Hid ((l.getD i 0 * wt k m i) = sterm k m l i 0) := S0.symm
      have MU : Hid (∀ n, Calls Try.prog 55 #[fp b, .int .u8 (l.getD i 0).n, .int .u8 (wt k m i).n] (wr.drewN n) fun e w' => e = .returned (.int .u8 (sterm k m l i 0).n) ∧ ∃ n', w' = (wr.drewN n).drewN n') := fun n => by
        have h := gf_mul b (l.getD i 0) (wt k m i) (wr.drewN n) (G1.out.drewN' n)
        rwa [X0.out] at h
      have MP : Hid (∀ t (w2 : World), GfAt w2 b → Calls Try.prog 55 #[fp b, .int .u8 (sterm k m l i t).n, .int .u8 (i : Int)] w2 fun e w' => e = .returned (.int .u8 (sterm k m l i (t + 1)).n) ∧ ∃ n', w' = w2.drewN n') := fun t w2 h2 => by
        have h := gf_mul b (sterm k m l i t) (F.of i) w2 h2
        rwa [F.n_of (by omega), ← sterm_succ] at h
      have e3 : IntKind.u8.wrap (i : Int) = (i : Int) := wrapu8 _ (by omega)
      have i1 : (i : Int) < (k : Int) + (m : Int) := by omega
      clear hc1 hc2 hst S0 X0 HA HO1
      generalize l.getD i 0 = x at *
      generalize wt k m i = v at *
      go_wp2
      go_quiet ((go_at_call 55; exact Calls.quiet_of (MU.out _)))
      go_wp2
      clear y1 y2 MU
      go_loopw [14, 52] (fun u v wi => ∃ t : Nat, t ≤ m ∧ v = .int .i64 t ∧ u = .int .u8 (sterm k m l i t).n ∧ St w1 wi w1.heap.size w1.heap.size m m (ofT k m l i t) []) (fun _ v _ => m - (intOf v).toNat)
      case atStart => exact ⟨0, Nat.zero_le _, rfl, rfl, ST.out.drewN _⟩
      case round =>
        rename World => wi
        clear ST
        obtain ⟨t, ht, rfl, rfl, hst⟩ := hrel
        by_cases hlt2 : t < m
        · have hcl := hst.own.cellAt t (by omega)
          have hfz := hst.own.frozenAt t
          have hset := hst.set t ((ofT k m l i t).getD t 0 + sterm k m l i t) NE.out (by exact Nat.le_refl _)
          rw [SE.out i t hlt2] at hset
          rw [getElem?_bv (by rw [LT.out]; exact hlt2)] at hcl
          have HS := Lib.hid hset
          have G2 : Hid (GfAt wi b) := HG.out.below (HW1.out.trans (hst.bel.mono HW1.out.size))
          have MPt := Lib.hid (MP.out t)
          clear hset hst
          generalize (ofT k m l i t).getD t 0 = a at *
          generalize hs1 : sterm k m l i t = s at *
          generalize hs2 : sterm k m l i (t + 1) = s' at *
          have HS2 := Lib.hid hs2
          have hxor := xor_n a s
          clear hs1 hs2
          go_wp2_with (go_at_call 55; (with_reducible refine (MPt.out _ ?_).mono ?_); (first | exact HG.out.below (HW1.out.trans (HS.out.bel.mono HW1.out.size)) | exact G2.out | exact (G2.out.drewN' _)); rintro e w3 ⟨rfl, n3, rfl⟩)
          go_roundw
          case rel => exact ⟨t + 1, by omega, by go_num, by rw [HS2.out], HS.out.drewN _⟩
          case measure => simp [intOf]; omega
        · have hte : t = m := by omega
          subst hte
          have ST := Lib.hid hst
          clear hst
          go_wp2
          go_roundw
          case rel => exact ⟨i + 1, by omega, by go_num, by rw [← NX.out i]; exact ST.out⟩
          case measure => simp [intOf]; omega
    · have hie : i = k + m := by omega
      subst hie
      clear hst
      go_wp2
      go_ret2
      have h := ST.out
      rw [AL.out] at h
      exact ⟨_, _, rfl, own_mono h.own HW1.out.size, HW1.out.trans (h.bel.mono HW1.out.size)⟩
end Go.Proofs.Ytmkjplpnoohfnaa
