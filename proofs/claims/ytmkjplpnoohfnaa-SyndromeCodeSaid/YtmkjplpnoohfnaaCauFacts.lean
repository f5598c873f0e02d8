/- What Cauchy's numbers are: plain laws. -/
import Derived.Test.YtmkjplpnoohfnaaCau
namespace Go.Proofs.Ytmkjplpnoohfnaa
open Go.RowKit
theorem of_inj {a b : Nat} (ha : a < 256) (hb : b < 256) (h : F.of a = F.of b) : a = b := by
  have := congrArg F.n h
  rwa [F.n_of ha, F.n_of hb] at this
theorem of_add_ne {a b : Nat} (ha : a < 256) (hb : b < 256) (h : a ≠ b) : F.of a + F.of b ≠ 0 := fun e =>
  h (of_inj ha hb (F.add_eq_zero.1 e))
theorem cau_mul {a b : Nat} (ha : a < 256) (hb : b < 256) (h : a ≠ b) : cau a b * (F.of a + F.of b) = 1 := by
  unfold cau
  rw [F.mul_comm]
  exact F.mul_inv (of_add_ne ha hb h)
theorem cau_ne_zero {a b : Nat} (ha : a < 256) (hb : b < 256) (h : a ≠ b) : cau a b ≠ 0 := F.inv_ne_zero (of_add_ne ha hb h)
theorem cau_right {a b c : Nat} (ha : a < 256) (hb : b < 256) (hc : c < 256) (h1 : a ≠ b) (h2 : a ≠ c) (h : cau a b = cau a c) : b = c := by
  have e1 := cau_mul ha hb h1
  have e2 := cau_mul ha hc h2
  rw [h] at e1
  have e3 : F.of a + F.of b = F.of a + F.of c := by
    have h0 := cau_ne_zero ha hc h2
    have : F.inv (cau a c) * (cau a c * (F.of a + F.of b)) = F.inv (cau a c) * (cau a c * (F.of a + F.of c)) := by rw [e1, e2]
    rwa [← F.mul_assoc, ← F.mul_assoc, F.mul_comm (F.inv _), F.mul_inv h0, F.one_mul, F.one_mul] at this
  have e4 := congrArg (F.of a + ·) e3
  simp only [F.add_cancel_left] at e4
  exact of_inj hb hc e4
theorem cau_comm (a b : Nat) : cau a b = cau b a := by unfold cau; rw [F.add_comm]
theorem cau_left {a b c : Nat} (ha : a < 256) (hb : b < 256) (hc : c < 256) (h1 : b ≠ a) (h2 : c ≠ a) (h : cau b a = cau c a) : b = c := by
  rw [cau_comm b, cau_comm c] at h
  exact cau_right ha hb hc (Ne.symm h1) (Ne.symm h2) h
end Go.Proofs.Ytmkjplpnoohfnaa
