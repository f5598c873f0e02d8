/- Syndromes, in plain Lean: of a code's words they are 0, and of no others. No program in sight. -/
import Derived.Test.YtmkjplpnoohfnaaRoots
namespace Go.Proofs.Ytmkjplpnoohfnaa
set_option linter.unusedVariables false
/-- the weight of a shard's point -/
def wtp (k m i : Nat) : F := prodF m (fun x => k + x != i) fun x => F.of (k + x) + F.of i
def wt (k m i : Nat) : F := F.inv (wtp k m i)
/-- a word's syndrome -/
def syn (k m : Nat) (u : Nat → F) (l : Nat) : F := sumF (k + m) fun i => u i * wt k m i * (F.of i).pow l
theorem syn_congr {k m : Nat} {u v : Nat → F} (h : ∀ i, i < k + m → u i = v i) (l : Nat) : syn k m u l = syn k m v l := sumF_congr fun i hi => by rw [h i hi]
theorem syn_add (k m : Nat) (u v : Nat → F) (l : Nat) : syn k m (fun i => u i + v i) l = syn k m u l + syn k m v l := by
  unfold syn
  rw [← sumF_add]
  exact sumF_congr fun i _ => by rw [F.add_mul, F.add_mul]
theorem syn_mul (k m : Nat) (u : Nat → F) (c : F) (l : Nat) : syn k m (fun i => u i * c) l = syn k m u l * c := by
  unfold syn
  rw [← sumF_mul_right]
  exact sumF_congr fun i _ => by dsimp only; ac_rfl
theorem syn_single {k m at_ : Nat} (by_ : F) (h : at_ < k + m) (l : Nat) : syn k m (fun i => if i = at_ then by_ else 0) l = by_ * wt k m at_ * (F.of at_).pow l := by
  unfold syn
  rw [sumF_one at_ h fun i _ hne => by dsimp only; rw [if_neg hne, F.zero_mul, F.zero_mul]]
  dsimp only
  rw [if_pos rfl]
theorem wtp_ne_zero {k m i : Nat} (hkm : k + m ≤ 256) (hi : i < 256) : wtp k m i ≠ 0 :=
  prodF_ne_zero fun x hx ht => of_add_ne' (by omega) hi (by simp at ht; omega)
theorem wt_ne_zero {k m i : Nat} (hkm : k + m ≤ 256) (hi : i < 256) : wt k m i ≠ 0 := F.inv_ne_zero (wtp_ne_zero hkm hi)
/-- the product over the parity's points but one -/
def lagp (k m x : Nat) (y : F) : F := prodF m (fun x' => x' != x) fun x' => y + F.of (k + x')
theorem lagp_pf {k m x : Nat} (hx : x < m) : PF m (lagp k m x) := (PF.prod m (fun x' => x' != x) fun x' => F.of (k + x')).mono (countB_lt x hx (by simp))
theorem lagp_self {k m x : Nat} : lagp k m x (F.of (k + x)) = wtp k m (k + x) := by
  unfold lagp wtp
  refine prodF_congr (fun i _ => ?_) fun i _ _ => F.add_comm _ _
  by_cases e : i = x
  · subst e; simp
  · have h1 : (i != x) = true := by simp; exact e
    have h2 : (k + i != k + x) = true := by simp; omega
    rw [h1, h2]
theorem lagp_other {k m x z : Nat} (hz : z < m) (h : z ≠ x) : lagp k m x (F.of (k + z)) = 0 :=
  prodF_zero z hz (by simp; exact h) (F.add_self _)
/-- what so few numbers tell: a polynomial is its values' -/
theorem lagrange {k m : Nat} (hkm : k + m ≤ 256) {g : F → F} (hg : PF m g) (y : F) : (sumF m fun x => g (F.of (k + x)) * wt k m (k + x) * lagp k m x y) = g y := by
  have h1 : PF m fun y => (sumF m fun x => g (F.of (k + x)) * wt k m (k + x) * lagp k m x y) + g y := (PF.sum m fun x hx => PF.mul _ (lagp_pf hx)).add hg
  refine F.add_eq_zero.1 (h1.roots ((List.range m).map fun x => F.of (k + x)) (by simp) ?_ (fun x hx => ?_) y)
  · have := nodup_of (xs := (List.range m).map (k + ·)) ?_ ?_
    · simpa [List.map_map, Function.comp_def] using this
    · rw [List.nodup_iff_pairwise_ne, List.pairwise_map]
      exact (List.nodup_iff_pairwise_ne.1 (List.nodup_range)).imp fun h e => h (by omega)
    · intro x hx
      obtain ⟨z, hz, rfl⟩ := List.mem_map.1 hx
      have := List.mem_range.1 hz
      omega
  · obtain ⟨z, hz, rfl⟩ := List.mem_map.1 hx
    have hz := List.mem_range.1 hz
    rw [sumF_one z hz fun i hi hne => by rw [lagp_other hz (Ne.symm hne), F.mul_zero], lagp_self, F.mul_assoc]
    rw [wt, F.inv_mul (wtp_ne_zero hkm (by omega)), F.mul_one, F.add_self]
theorem lagp_cau {k m x c : Nat} (hkm : k + m ≤ 256) (hx : x < m) (hc : c < k) : lagp k m x (F.of c) * wt k m c = cau (k + x) c := by
  have hne := of_add_ne' (show k + x < 256 by omega) (show c < 256 by omega) (by omega)
  have e : wtp k m c = lagp k m x (F.of c) * (F.of (k + x) + F.of c) := by
    unfold wtp lagp
    rw [prodF_congr (t' := fun _ => true) (f' := fun x' => F.of c + F.of (k + x')) (fun i _ => by simp; omega) fun i _ _ => F.add_comm _ _]
    rw [prodF_out x hx rfl, F.add_comm (F.of (k + x))]
    congr 1
  have h0 := wtp_ne_zero (i := c) hkm (by omega)
  unfold cau
  refine (F.inv_eq ?_).symm
  rw [← F.mul_assoc, F.mul_comm (F.of (k + x) + F.of c), ← e]
  exact F.mul_inv h0
/-- a code's word -/
theorem syn_code {k m : Nat} (hkm : k + m ≤ 256) (d : Nat → F) {l : Nat} (hl : l < m) : syn k m (app k (genF k) d) l = 0 := by
  unfold syn
  have e0 : ∀ i, app k (genF k) d i * wt k m i * (F.of i).pow l = sumF k fun c => d c * (genF k i c * wt k m i * (F.of i).pow l) := fun i => by
    unfold app
    rw [← sumF_mul_right, ← sumF_mul_right]
    exact sumF_congr fun c _ => by ac_rfl
  rw [sumF_congr fun i _ => e0 i, sumF_comm]
  refine sumF_none fun c hc => ?_
  rw [sumF_mul, sumF_append]
  have e1 : (sumF k fun i => genF k i c * wt k m i * (F.of i).pow l) = wt k m c * (F.of c).pow l := by
    rw [sumF_one c hc fun i hi hne => by rw [genF, if_pos hi, dlt_ne hne, F.zero_mul, F.zero_mul], genF, if_pos hc, dlt_self, F.one_mul]
  have e2 : (sumF m fun x => genF k (k + x) c * wt k m (k + x) * (F.of (k + x)).pow l) = wt k m c * (F.of c).pow l := by
    have h := lagrange hkm ((PF.pow l).mono (show l + 1 ≤ m by omega)) (F.of c)
    rw [← h, ← sumF_mul]
    refine sumF_congr fun x hx => ?_
    rw [genF, if_neg (by omega), ← lagp_cau hkm hx hc]
    ac_rfl
  rw [e1, e2, F.add_self, F.mul_zero]
theorem eval_sum : ∀ (p : List F) (x : F), eval p x = sumF p.length fun l => p.getD l 0 * x.pow l
  | [], _ => rfl
  | a :: p, x => by
    rw [eval, eval_sum p x, List.length_cons, Nat.add_comm, sumF_append, sumF_succ, sumF_zero, F.zero_add, ← sumF_mul]
    congr 1
    · show a = a * F.pow x 0
      rw [F.pow_zero, F.mul_one]
    · refine sumF_congr fun l _ => ?_
      rw [Nat.add_comm 1 l, F.pow_succ, F.mul_left_comm]; rfl
theorem powers_pf {m n : Nat} {a p : Nat → F} (h : ∀ l, l < m → (sumF n fun x => a x * (p x).pow l) = 0) {g : F → F} (hg : PF m g) : (sumF n fun x => a x * g (p x)) = 0 := by
  obtain ⟨q, h1, h2⟩ := hg
  have e : ∀ x, a x * g (p x) = sumF q.length fun l => q.getD l 0 * (a x * (p x).pow l) := fun x => by
    rw [← h2, eval_sum, ← sumF_mul]
    exact sumF_congr fun l _ => F.mul_left_comm _ _ _
  rw [sumF_congr fun x _ => e x, sumF_comm]
  refine sumF_none fun l hl => ?_
  rw [sumF_mul, h l (by omega), F.mul_zero]
/-- no other word's syndromes are all 0 -/
theorem syn_zero {k m : Nat} (hkm : k + m ≤ 256) (u : Nat → F) (h : ∀ l, l < m → syn k m u l = 0) (i : Nat) (hi : i < k + m) : u i = app k (genF k) u i := by
  by_cases hk : i < k
  · unfold app
    rw [sumF_congr (g := fun j => dlt i j * u j) fun j _ => by rw [genF, if_pos hk]]
    exact (sumF_dlt_left u hk).symm
  · obtain ⟨x, rfl⟩ : ∃ x, i = k + x := ⟨i - k, by omega⟩
    have hx : x < m := by omega
    have hz : ∀ l, l < m → (sumF m fun x => (u (k + x) + app k (genF k) u (k + x)) * wt k m (k + x) * (F.of (k + x)).pow l) = 0 := fun l hl => by
      have e := syn_add k m u (app k (genF k) u) l
      rw [h l hl, syn_code hkm u hl, F.add_zero] at e
      unfold syn at e
      rw [sumF_append, sumF_none (n := k) fun i hi => ?_, F.zero_add] at e
      · exact e
      · have e1 : app k (genF k) u i = u i := by
          unfold app
          rw [sumF_congr (g := fun j => dlt i j * u j) fun j _ => by rw [genF, if_pos hi]]
          exact sumF_dlt_left u hi
        dsimp only
        rw [e1, F.add_self, F.zero_mul, F.zero_mul]
    have h3 := powers_pf (a := fun x => (u (k + x) + app k (genF k) u (k + x)) * wt k m (k + x)) (p := fun x => F.of (k + x)) hz (lagp_pf (k := k) hx)
    rw [sumF_one x hx fun i hi hne => by rw [lagp_other hi hne, F.mul_zero], lagp_self] at h3
    have h4 := (F.mul_eq_zero.1 h3).resolve_right (wtp_ne_zero hkm (by omega))
    exact F.add_eq_zero.1 ((F.mul_eq_zero.1 h4).resolve_right (wt_ne_zero hkm (by omega)))
end Go.Proofs.Ytmkjplpnoohfnaa
