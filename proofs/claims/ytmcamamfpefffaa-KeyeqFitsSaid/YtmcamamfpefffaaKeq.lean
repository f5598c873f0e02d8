/- The key equation, in plain Lean: Euclid's steps find the only locator of the least degree, or there is none. No program in sight. -/
import Derived.Test.YtmcamamfpefffaaPoly
import Derived.Test.YtmcamamfpefffaaRoots
namespace Go.Proofs.Ytmcamamfpefffaa
set_option linter.unusedVariables false
/-- a locator of a degree, as numbers -/
structure Loc (P : S) (m e t : Nat) (l : List F) : Prop where
  len : l.length = t + 1
  top : l.getD t 0 = 1
  mid : ∀ i, e + t ≤ i → i < m → (cf l * P).at' i = 0
/-- there is one of this degree, and no other one -/
def Uq (P : S) (m e t : Nat) : Prop := ∃ l, Loc P m e t l ∧ ∀ l', Loc P m e t l' → l' = l
theorem lim_list {l : List F} {n : Nat} (h : l.length ≤ n) : Lim (cf l) n := (lim_cf l).mono h
/-- a polynomial's numbers below m, and those from m on -/
theorem cutS (f : S) (m : Nat) : ∃ h v : S, f = h + Xs m v ∧ (∀ i, i < m → h.at' i = f.at' i) ∧ Lim h m ∧ ∀ i, v.at' i = f.at' (m + i) := by
  refine ⟨(show S from fun i => if i < m then f.at' i else 0), (show S from fun i => f.at' (m + i)), S.ext fun i => ?_, fun i hi => if_pos hi, fun i hi => if_neg (by omega), fun i => rfl⟩
  show f.at' i = (if i < m then f.at' i else 0) + (Xs m (show S from fun i => f.at' (m + i))).at' i
  rcases Nat.lt_or_ge i m with h | h
  · rw [at_Xs_lt m _ i h, F.add_zero, if_pos h]
  · obtain ⟨k, rfl⟩ := Nat.le.dest h
    rw [at_Xs]
    rw [if_neg (by omega), F.zero_add]; rfl
theorem Xs_inj {m : Nat} {f g : S} (h : Xs m f = Xs m g) : f = g := S.ext fun i => by rw [← at_Xs m f i, h, at_Xs]
theorem Xs_zero_iff {m : Nat} {f : S} {z : S} (hf : Lim f m) (h : f = Xs m z) : f = 0 ∧ z = 0 := by
  have h0 : f = 0 := S.ext fun i => by
    rcases Nat.lt_or_ge i m with hi | hi
    · rw [h, at_Xs_lt m z i hi, S.at_zero]
    · rw [hf i hi, S.at_zero]
  refine ⟨h0, S.ext fun i => ?_⟩
  rw [← at_Xs m z i, ← h, h0]; rfl
/-- two solutions: what is left of each, and what is above -/
theorem two_sol {m : Nat} {P b h u l k v : S} (h1 : b * P = h + Xs m u) (h2 : l * P = k + Xs m v) (hl : Lim (l * h) m) (hk : Lim (b * k) m) : l * h = b * k ∧ l * u = b * v := by
  have e : l * (b * P) = b * (l * P) := S.mul_left_comm l b P
  rw [h1, h2, S.mul_add, S.mul_add] at e
  have e1 : l * Xs m u = Xs m (l * u) := by rw [S.mul_comm, Xs_mul, S.mul_comm]
  have e2 : b * Xs m v = Xs m (b * v) := by rw [S.mul_comm, Xs_mul, S.mul_comm]
  rw [e1, e2] at e
  have e3 : l * h + b * k = Xs m (l * u + b * v) := by
    rw [Xs_add]
    have : l * h + b * k = l * h + Xs m (l * u) + (b * k + Xs m (l * u)) := by
      rw [show l * h + Xs m (l * u) + (b * k + Xs m (l * u)) = l * h + b * k + Xs m (l * u) + Xs m (l * u) by ac_rfl, S.add_add_cancel]
    rw [this, e, show b * k + Xs m (b * v) + (b * k + Xs m (l * u)) = Xs m (l * u) + Xs m (b * v) + b * k + b * k by ac_rfl, S.add_add_cancel]
  obtain ⟨a, b⟩ := Xs_zero_iff (hl.add hk) e3
  exact ⟨S.add_eq_zero.1 a, S.add_eq_zero.1 b⟩
/-- the state of Euclid's steps -/
structure Eu (P : S) (m e : Nat) (low high a b : List F) : Prop where
  nl : norm low = low
  nh : norm high = high
  nb : norm b = b
  lt : high.length < low.length
  al : a.length < b.length
  deg : b.length + low.length = m + 2
  ex : ∃ (u u' : S) (N : Nat), Lim u N ∧ Lim u' N ∧ cf b * P = cf high + Xs m u ∧ cf a * P = cf low + Xs m u' ∧ cf b * u' + cf a * u = 1
  no : ∀ t l, t + 1 < b.length → 2 * t + e ≤ m → ¬ Loc P m e t l
theorem norm_len_add {p r : List F} (h : (norm r).length < (norm p).length) : (norm (padd p r)).length = (norm p).length := by
  refine length_norm_eq (fun i hi => ?_) ?_ (by omega)
  · rw [cf_padd, S.at_add, lim_norm p i hi, lim_norm r i (by omega), F.add_zero]
  · rw [cf_padd, S.at_add, lim_norm r _ (by omega), F.add_zero]
    exact norm_top (fun e => by rw [e] at h; simp at h)
theorem padd_comm_cf (p q : List F) : norm (padd p q) = norm (padd q p) := norm_congr (by rw [cf_padd, cf_padd, S.add_comm])
theorem norm_one : norm [(1 : F)] = [1] := by decide
/-- x's power -/
def xpow (m : Nat) : List F := List.replicate m 0 ++ [1]
theorem length_xpow (m : Nat) : (xpow m).length = m + 1 := by simp [xpow]
theorem cf_xpow (m : Nat) : cf (xpow m) = Xs m 1 := by
  have := cf_shift m [(1 : F)]
  unfold shift at this
  rw [show xpow m = List.replicate m 0 ++ [1] from rfl, this, cf_cons, cf_nil, S.X_zero, S.add_zero]; rfl
theorem norm_xpow (m : Nat) : norm (xpow m) = xpow m := norm_self_of fun _ => by
  rw [length_xpow, cf_xpow, Nat.add_sub_cancel]
  have := at_Xs m 1 0
  rw [Nat.add_zero] at this
  rw [this]; decide
theorem Eu.start (p : List F) (m e : Nat) (hp : norm p = p) : Eu (cf p) m e (xpow m) (norm (p.take m)) [] [1] := by
  obtain ⟨h, v, h1, h2, h3, h4⟩ := cutS (cf p) m
  have hh : cf (norm (p.take m)) = h := S.ext fun i => by
    rw [cf_norm]
    rcases Nat.lt_or_ge i m with hi | hi
    · rw [h2 i hi, at_cf, at_cf, List.getD_eq_getElem?_getD, List.getElem?_take, if_pos hi, ← List.getD_eq_getElem?_getD]
    · rw [h3 i hi, cf_ge (by rw [List.length_take]; omega)]
  refine ⟨norm_xpow m, norm_norm _, norm_one, ?_, by simp, by rw [length_xpow]; simp only [List.length_singleton]; omega, ⟨v, 1, p.length + 1, ?_, ?_, ?_, ?_, ?_⟩, fun t l ht _ => by simp at ht⟩
  · have := length_norm_le (p.take m)
    rw [List.length_take] at this
    rw [length_xpow]; omega
  · intro i hi; rw [h4]; exact cf_ge (by omega)
  · intro i hi; rw [S.one_def, S.at_C, if_neg (by omega)]
  · rw [hh, ← h1, cf_cons, cf_nil, S.X_zero, S.add_zero]; exact S.one_mul _
  · rw [cf_nil, S.zero_mul, cf_xpow]; exact (S.add_self _).symm
  · rw [cf_cons, cf_nil, S.X_zero, S.add_zero, S.zero_mul, S.add_zero]; exact S.one_mul _
/-- no locator whose degree is below that of the next one -/
theorem Eu.none {P : S} {m e : Nat} {low high a b : List F} (h : Eu P m e low high a b) (hgo : e + b.length ≤ high.length) (t : Nat) (l : List F) (h1 : b.length ≤ t + 1) (h2 : t + 1 + high.length < m + 2) (h3 : 2 * t + e ≤ m) : ¬ Loc P m e t l := by
  intro hl
  obtain ⟨u, u', N, _, _, hb, _, _⟩ := h.ex
  obtain ⟨k, v, e1, e2, e3, _⟩ := cutS (cf l * P) m
  have hk : Lim k (e + t) := fun i hi => by
    rcases Nat.lt_or_ge i m with q | q
    · rw [e2 i q]; exact hl.mid i hi q
    · exact e3 i q
  have hbl : 0 < b.length := by have := h.al; omega
  have hlh : Lim (cf l * cf high) (t + high.length) := (Lim.mul (t + 1) (lim_list (by rw [hl.len]; omega)) (lim_cf high)).mono (by omega)
  have hbk : Lim (cf b * k) (b.length + (e + t) - 1) := Lim.mul b.length (lim_cf b) hk
  obtain ⟨e4, _⟩ := two_sol hb e1 (hlh.mono (by omega)) (hbk.mono (by omega))
  obtain ⟨c, hc⟩ : ∃ c, high.length = c + 1 := ⟨high.length - 1, by omega⟩
  have e5 := top_mul t (f := cf l) (g := cf high) (b := c) (lim_list (by rw [hl.len]; omega)) (lim_list (by omega))
  have e6 : (cf high).at' c ≠ 0 := by
    have := norm_top (p := high) (by rw [h.nh]; intro q; rw [q] at hc; simp at hc)
    rwa [h.nh, hc, Nat.add_sub_cancel] at this
  rw [e4, hbk (t + c) (by omega), at_cf, hl.top, F.one_mul] at e5
  exact e6 e5.symm
theorem div_len {p q s r : List F} (h : IsDiv p q s r) (hp : norm p = p) (hq : norm q = q) (hlt : q.length < p.length) : s.length + q.length = p.length + 1 := by
  have hlt2 := h.lt
  rw [hq] at hlt2
  have hs : norm s ≠ [] := fun e => by
    have e0 : cf p = cf r := by rw [h.eq, norm_eq_nil.1 e, S.zero_mul, S.zero_add]
    have := norm_congr e0
    rw [hp, h.nr] at this
    rw [this] at hlt; omega
  have hq2 : norm q ≠ [] := fun e => by rw [← hq, e] at hlt2; simp at hlt2
  have e1 := length_norm_mul hs hq2
  rw [h.ns, hq] at e1
  have hsl : 0 < s.length := by rw [← h.ns]; exact List.length_pos_iff.2 hs
  have e2 := norm_len_add (p := pmul s q) (r := r) (by rw [h.nr, e1]; omega)
  rw [show norm (padd (pmul s q) r) = p by rw [← hp]; exact norm_congr (by rw [cf_padd, cf_pmul, h.eq])] at e2
  omega
theorem Eu.step {P : S} {m e : Nat} {low high a b q r : List F} (h : Eu P m e low high a b) (hgo : e + b.length ≤ high.length) (hd : IsDiv low high q r) : Eu P m e high r b (norm (padd a (norm (pmul q b)))) := by
  have hbl : 0 < b.length := by have := h.al; omega
  have hq : q.length + high.length = low.length + 1 := div_len hd h.nl h.nh h.lt
  have hlt := hd.lt
  have hlt2 := h.lt
  have hdg := h.deg
  rw [h.nh] at hlt
  have hqn : norm q ≠ [] := by rw [hd.ns]; intro e; rw [e] at hq; simp at hq; omega
  have hbn : norm b ≠ [] := by rw [h.nb]; intro e; rw [e] at hbl; simp at hbl
  have e1 := length_norm_mul hqn hbn
  rw [hd.ns, h.nb] at e1
  have hal := h.al
  have hlen : (norm (padd a (norm (pmul q b)))).length = q.length + b.length - 1 := by
    rw [padd_comm_cf, norm_len_add (by rw [norm_norm, e1]; have := length_norm_le a; omega), norm_norm, e1]
  obtain ⟨u, u', N, hu, hu', hb, ha, hab⟩ := h.ex
  have hcf : cf (norm (padd a (norm (pmul q b)))) = cf a + cf q * cf b := by rw [cf_norm, cf_padd, cf_norm, cf_pmul]
  have hr : cf r = cf low + cf q * cf high := by rw [hd.eq, show cf q * cf high + cf r + cf q * cf high = cf r + cf q * cf high + cf q * cf high by ac_rfl, S.add_add_cancel]
  refine ⟨h.nh, hd.nr, norm_norm _, hlt, by rw [hlen]; omega, by rw [hlen]; omega, ⟨u' + cf q * u, u, q.length + N, ?_, hu.mono (by omega), ?_, hb, ?_⟩, fun t l ht h2 => ?_⟩
  · exact (hu'.mono (by omega)).add ((Lim.mul q.length (lim_cf q) hu).mono (by omega))
  · rw [hcf, hr, S.add_mul, S.mul_assoc, ha, hb, S.mul_add, Xs_add]
    have : cf q * Xs m u = Xs m (cf q * u) := by rw [S.mul_comm, Xs_mul, S.mul_comm]
    rw [this]; ac_rfl
  · rw [hcf, S.add_mul, S.mul_add]
    rw [show cf a * u + cf q * cf b * u + (cf b * u' + cf b * (cf q * u)) = cf b * u' + cf a * u + cf q * cf b * u + cf b * (cf q * u) by ac_rfl, show cf b * (cf q * u) = cf q * cf b * u by ac_rfl, S.add_add_cancel]
    exact hab
  · rw [hlen] at ht
    by_cases hc : t + 1 < b.length
    · exact h.no t l hc h2
    · exact h.none hgo t l (by omega) (by omega) h2
/-- a polynomial that is not 0 has a top -/
theorem lim_top {f : S} : ∀ {n : Nat}, Lim f n → f ≠ 0 → ∃ k, Lim f (k + 1) ∧ f.at' k ≠ 0
  | 0, h, h0 => absurd h.zero h0
  | n + 1, h, h0 => by
    by_cases hn : f.at' n = 0
    · refine lim_top (n := n) (fun i hi => ?_) h0
      by_cases e : i = n
      · rw [e]; exact hn
      · exact h i (by omega)
    · exact ⟨n, h, hn⟩
theorem cf_inj {p q : List F} (hl : p.length = q.length) (h : cf p = cf q) : p = q := by
  refine List.ext_getElem hl fun i h1 h2 => ?_
  have := congrArg (fun f => S.at' f i) h
  simp only [at_cf] at this
  rwa [List.getD_eq_getElem?_getD, List.getD_eq_getElem?_getD, List.getElem?_eq_getElem h1, List.getElem?_eq_getElem h2] at this
/-- the locator that is told at the end -/
def mon (b : List F) : List F := norm (pmul b [F.inv (b.getD (b.length - 1) 0)])
theorem cf_mon (b : List F) : cf (mon b) = cf b * S.C (F.inv (b.getD (b.length - 1) 0)) := by
  unfold mon
  rw [cf_norm, cf_pmul, cf_cons, cf_nil, S.X_zero, S.add_zero]
theorem top_ne {b : List F} (hn : norm b = b) (h0 : 0 < b.length) : b.getD (b.length - 1) 0 ≠ 0 := by
  have := norm_top (p := b) (by rw [hn]; intro e; rw [e] at h0; simp at h0)
  rwa [hn, at_cf] at this
theorem length_mon {b : List F} (hn : norm b = b) (h0 : 0 < b.length) : (mon b).length = b.length := by
  have hb : norm b ≠ [] := by rw [hn]; intro e; rw [e] at h0; simp at h0
  have hi := F.inv_ne_zero (top_ne hn h0)
  have hx : norm [F.inv (b.getD (b.length - 1) 0)] = [F.inv (b.getD (b.length - 1) 0)] := norm_self_of fun _ => hi
  have := length_norm_mul hb (q := [F.inv (b.getD (b.length - 1) 0)]) (by rw [hx]; simp)
  rw [hn, hx] at this
  unfold mon
  rw [this]; simp
theorem Eu.stop {P : S} {m e N : Nat} {low high a b : List F} (h : Eu P m e low high a b) (hP : Lim P N) (hst : high.length + 1 ≤ e + b.length) (hm : 2 * (b.length - 1) + e ≤ m) :
    Loc P m e (b.length - 1) (mon b) ∧ (∀ l', Loc P m e (b.length - 1) l' → l' = mon b) ∧ ∀ t, t < b.length - 1 → ¬ Uq P m e t := by
  have hbl : 0 < b.length := by have := h.al; omega
  have htop := top_ne h.nb hbl
  obtain ⟨u, u', N', hu, hu', hb, ha, hab⟩ := h.ex
  obtain ⟨t, ht⟩ : ∃ t, b.length = t + 1 := ⟨b.length - 1, by omega⟩
  have hlm := length_mon h.nb hbl
  rw [ht] at htop hlm
  simp only [Nat.add_sub_cancel] at htop
  rw [ht, Nat.add_sub_cancel] at hm
  rw [ht] at hst
  refine ⟨?_, ?_, fun s hs => ?_⟩
  · rw [ht, Nat.add_sub_cancel]
    refine ⟨hlm, ?_, fun i h1 h2 => ?_⟩
    · rw [← at_cf, cf_mon, S.conv_mul_C, at_cf, ht, Nat.add_sub_cancel, F.mul_inv htop]
    · rw [cf_mon, S.mul_C, S.C_mul_assoc, S.at_C_mul, hb, S.at_add, cf_ge (by omega), at_Xs_lt m u i h2, F.add_zero, F.mul_zero]
  · rw [ht, Nat.add_sub_cancel]
    intro l hl
    obtain ⟨k, v, e1, e2, e3, e3'⟩ := cutS (cf l * P) m
    have hk : Lim k (e + t) := fun i hi => by
      rcases Nat.lt_or_ge i m with q | q
      · rw [e2 i q]; exact hl.mid i hi q
      · exact e3 i q
    have hlh : Lim (cf l * cf high) (t + high.length) := (Lim.mul (t + 1) (lim_list (by rw [hl.len]; omega)) (lim_cf high)).mono (by omega)
    have hbk : Lim (cf b * k) (t + (e + t)) := (Lim.mul (t + 1) (lim_list (by omega)) hk).mono (by omega)
    obtain ⟨_, e4⟩ := two_sol hb e1 (hlh.mono (by omega)) (hbk.mono (by omega))
    have hlP : Lim (cf l * P) (l.length + N) := (Lim.mul l.length (lim_cf l) hP).mono (by omega)
    have hv : Lim v (l.length + N) := fun i hi => by rw [e3']; exact hlP _ (by omega)
    obtain ⟨wq, hw⟩ : ∃ wq, wq = cf l * u' + cf a * v := ⟨_, rfl⟩
    have e5 : cf l = cf b * wq := by
      have e0 : cf l = cf l * (cf b * u' + cf a * u) := by rw [hab, S.mul_one]
      refine e0.trans ?_
      rw [hw, S.mul_add, S.mul_add]
      rw [show cf l * (cf b * u') = cf b * (cf l * u') by ac_rfl, show cf l * (cf a * u) = cf a * (cf l * u) by ac_rfl, e4]
      ac_rfl
    have hwl : Lim wq (l.length + N' + (a.length + (l.length + N))) := by
      rw [hw]
      exact ((Lim.mul l.length (lim_cf l) hu').mono (by omega)).add ((Lim.mul a.length (lim_cf a) hv).mono (by omega))
    have hl1 : (cf l).at' t = 1 := hl.top
    have hw0 : wq ≠ 0 := fun e0 => by
      rw [e5, e0, S.mul_zero] at hl1
      exact F.one_ne_zero hl1.symm
    obtain ⟨k2, hk1, hk2⟩ := lim_top hwl hw0
    have e6 := top_mul t (f := cf b) (g := wq) (b := k2) (lim_list (by omega)) hk1
    have hk0 : k2 = 0 := by
      refine Classical.byContradiction fun hne => ?_
      rw [← e5, cf_ge (by rw [hl.len]; omega)] at e6
      exact F.mul_ne_zero htop hk2 e6.symm
    subst hk0
    rw [← e5, Nat.add_zero, hl1] at e6
    have hwc : wq = S.C (wq.at' 0) := S.ext fun i => by
      rw [S.at_C]
      by_cases hi : i = 0
      · rw [if_pos hi, hi]
      · rw [if_neg hi]; exact hk1 i (by omega)
    have hinv : F.inv (b.getD t 0) = wq.at' 0 := F.inv_eq e6.symm
    refine cf_inj (by rw [hl.len, hlm]) ?_
    rw [cf_mon, ht, Nat.add_sub_cancel, hinv, e5, ← hwc]
  · rintro ⟨l, hl, _⟩
    exact h.no s l (by omega) (by omega) hl
theorem Eu.many {P : S} {m e : Nat} {low high a b : List F} (h : Eu P m e low high a b) (hm : m < 2 * (b.length - 1) + e) (t : Nat) (ht : 2 * t + e ≤ m) : ¬ Uq P m e t := by
  rintro ⟨l, hl, _⟩
  exact h.no t l (by omega) ht hl
/-- what Solve answers, where it is asked rightly: P is the product of what is known and the turned syndromes -/
def KeyOk (p : List F) (m e : Nat) (l o : List F) : Prop :=
  ∃ t, 2 * t + e ≤ m ∧ (∀ t', t' < t → ¬ Uq (cf p) m e t') ∧ Loc (cf p) m e t l ∧ (∀ l', Loc (cf p) m e t l' → l' = l) ∧ o = (norm (pmul l p)).drop m
def KeyMany (p : List F) (m e : Nat) : Prop := ∀ t, 2 * t + e ≤ m → ¬ Uq (cf p) m e t
theorem KeyOk.eq {p : List F} {m e : Nat} {l o l' o' : List F} (h : KeyOk p m e l o) (h' : KeyOk p m e l' o') : l = l' ∧ o = o' := by
  obtain ⟨t, h1, h2, h3, h4, h5⟩ := h
  obtain ⟨t', k1, k2, k3, k4, k5⟩ := h'
  have e : t = t' := by
    rcases Nat.lt_trichotomy t t' with q | q | q
    · exact absurd ⟨l, h3, h4⟩ (k2 t q)
    · exact q
    · exact absurd ⟨l', k3, k4⟩ (h2 t' q)
  subst e
  have e2 := k4 l h3
  subst e2
  exact ⟨rfl, by rw [h5, k5]⟩
theorem KeyOk.not_many {p : List F} {m e : Nat} {l o : List F} (h : KeyOk p m e l o) : ¬ KeyMany p m e := fun k => by
  obtain ⟨t, h1, h2, h3, h4, h5⟩ := h
  exact k t h1 ⟨l, h3, h4⟩
end Go.Proofs.Ytmcamamfpefffaa
