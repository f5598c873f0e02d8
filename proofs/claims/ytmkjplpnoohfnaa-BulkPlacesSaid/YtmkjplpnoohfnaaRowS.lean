/- aumbryref06.word, walked. -/
import Derived.Test.YtmkjplpnoohfnaaRowR
import Derived.Test.YtmkjplpnoohfnaaRef05
import Derived.Deep.QuietTactic
import Derived.BigQuiet
namespace Go.Proofs.Ytmkjplpnoohfnaa
open Go.RowKit
set_option linter.unusedVariables false
set_option linter.unusedSimpArgs false
set_option maxRecDepth 1000000 in
set_option maxHeartbeats 2000000 in
theorem ref06_word (k m L row place : Nat) (Ap : Option Addr) (cp : Nat) (P : Mx) (A : Option Addr) (c : Nat) (vs : List Value) (ls : List (List F)) (w : World) (hrow : row < m) (hpl : place < L) (hlen : ∀ i, i < k → lenAt ls i = L) (hn : ls.length = k) (hk : k ≤ 256) (hm : m ≤ 256) (hL : L ≤ 100000) (hp : Bs w Ap cp (matL m k P)) (ha : Sl w A c vs) (hb : Bss w vs ls) :
    Calls Try.prog 113 #[matV m k Ap (m * k) cp, .int .i64 row, .slice A k c, .int .i64 place] w fun e w' => e = .returned (.int .u8 (sumF k fun t => P row t * (ls.getD t []).getD place 0).n) ∧ Below w.heap.size w w' := by
  have LOP : Hid (∀ j, j < k → row * k + j < m * k ∧ (matL m k P).getD (row * k + j) 0 = P row j) := fun j hj => ⟨row_lt hrow hj, getD_matL P hrow hj⟩
  have LP : Hid ((matL m k P).length = m * k) := length_matL _ _ _
  have hmk : m * k ≤ 65536 := Nat.mul_le_mul hm hk
  have HP := Lib.hid hp
  have HA := Lib.hid ha
  have HB := Lib.hid hb
  have HN := Lib.hid hn
  have HLEN := Lib.hid hlen
  have HROW := Lib.hid hrow
  have hrk : row * k ≤ m * k := Nat.mul_le_mul_right _ (Nat.le_of_lt hrow)
  clear hp ha hb hn hlen hrow
  have e1 : (row : Int) * (k : Int) = ((row * k : Nat) : Int) := by simp
  have w1 : IntKind.i64.wrap ((row : Int) * (k : Int)) = ((row * k : Nat) : Int) := by rw [e1, IntKind.wrap_i64]; omega
  clear e1
  generalize matL m k P = lp at *
  generalize m * k = mk at *
  generalize row * k = rk at *
  have K0 := Lib.hid (kn1 w 30 #[.int .i64 m, .int .i64 k, .slice Ap mk cp])
  have W0 := Lib.hid (below1 w (.cells #[.int .i64 m, .int .i64 k, .slice Ap mk cp] 30))
  go_enter Try.func113, Try.ntmps113
  go_wp2
  go_loopw [9, 10] (fun u v wr => ∃ j : Nat, j ≤ k ∧ v = .int .i64 j ∧ u = .int .u8 (sumF j fun t => P row t * (ls.getD t []).getD place 0).n ∧ Kn wr none [(w.heap.size, 30, #[.int .i64 m, .int .i64 k, .slice Ap mk cp])] [] ∧ Below w.heap.size w wr) (fun _ v _ => k - (intOf v).toNat)
  case atStart => exact ⟨0, Nat.zero_le _, rfl, rfl, K0.out, W0.out⟩
  case round =>
    clear K0 W0
    obtain ⟨j, hj, rfl, rfl, hkn, hbel⟩ := hrel
    have KN := Lib.hid hkn
    have W1 := Lib.hid hbel
    clear hkn hbel
    by_cases hlt : j < k
    · obtain ⟨hlo, hval⟩ := LOP.out j hlt
      obtain ⟨b1, o1, h1, _, hc1⟩ := Bs.at' (HP.out.below W1.out) (by rw [LP.out]; omega)
      have y1 := hc1 (rk + j) (by rw [LP.out]; exact hlo)
      rw [hval] at y1
      subst h1
      obtain ⟨A2, c2, h2, h2b⟩ := (HB.out.below W1.out).len (i := j) (by rw [HN.out]; exact hlt)
      rw [HLEN.out j hlt] at h2
      obtain ⟨b3, o3, h3, _, hc3⟩ := Sl.at' (HA.out.below W1.out) (by rw [HB.out.1, HN.out]; omega)
      subst h3
      have y2 := hc3 j _ h2
      have hl2 : (ls.getD j []).length = L := HLEN.out j hlt
      obtain ⟨b4, o4, h4, _, hc4⟩ := Bs.at' h2b (by omega)
      subst h4
      have y3 := hc4 place (by omega)
      have p0 := (KN.out.at (.head _)).cell 0; have p1 := (KN.out.at (.head _)).cell 1; have p2 := (KN.out.at (.head _)).cell 2
      simp only [List.getElem?_toArray, List.getElem?_cons_succ, List.getElem?_cons_zero] at p0 p1 p2
      have HSU : Hid ((sumF (j + 1) fun t => P row t * (ls.getD t []).getD place 0) = (sumF j fun t => P row t * (ls.getD t []).getD place 0) + P row j * (ls.getD j []).getD place 0) := sumF_succ _ _
      clear hc1 hc3 hc4 h2 h2b hl2 hval
      generalize (sumF j fun t => P row t * (ls.getD t []).getD place 0) = acc at *
      generalize P row j = x at *
      generalize (ls.getD j []).getD place 0 = y at *
      have hxor := xor_n acc (x * y)
      have hjt : (j : Int) < (k : Int) := by omega
      have hpt : (place : Int) < (L : Int) := by omega
      go_wp2
      go_quiet ((go_at_call 100; exact Calls.quiet_of_same ((ref_mul _ _ _).mono fun e w' h => ⟨h.1, h.2.symm⟩)))
      go_wp2
      go_roundw
      case rel => exact ⟨j + 1, by omega, by go_num, by rw [HSU.out], KN.out.drewN _, W1.out.trans ((below_drew0 _ _).mono W1.out.size)⟩
      case measure => simp [intOf]; omega
    · obtain rfl : j = k := by omega
      go_wp2
      go_ret
      exact ⟨rfl, W1.out⟩
end Go.Proofs.Ytmkjplpnoohfnaa
