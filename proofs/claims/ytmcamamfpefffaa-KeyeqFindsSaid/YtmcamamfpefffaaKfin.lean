/- Syndromes that points make, in plain Lean: their locator, and what stands at each point. No program in sight. -/
import Derived.Test.YtmcamamfpefffaaKsc
namespace Go.Proofs.Ytmcamamfpefffaa
set_option linter.unusedVariables false
/-! ### roots -/
theorem cf_lin_mul (a : F) (g : S) : cf [a, 1] * g = S.C a * g + S.X g := by
  have e : cf [a, 1] = S.C a + S.X 1 := by rw [cf_cons, cf_const]; rfl
  rw [e, S.add_mul, S.X_mul, S.one_mul]
theorem cf_sdiv (a : F) : ∀ p : List F, cf p = cf [a, 1] * cf (sdiv a p) + S.C (eval p a)
  | [] => by
    show cf [] = cf [a, 1] * cf [] + S.C 0
    rw [cf_nil, S.mul_zero, S.C_zero, S.add_zero]
  | c :: p => by
    have ih := cf_sdiv a p
    have e1 : S.C a * cf p = S.C a * (S.C a * cf (sdiv a p)) + S.X (S.C a * cf (sdiv a p)) + S.C (a * eval p a) := by
      have := congrArg (S.C a * ·) ih
      simp only [cf_lin_mul, S.mul_add, S.C_mul_C, S.mul_X] at this
      exact this
    rw [show sdiv a (c :: p) = padd p (psmul a (sdiv a p)) from rfl, show eval (c :: p) a = c + a * eval p a from rfl, cf_padd, cf_psmul, cf_lin_mul, cf_cons, S.mul_add, S.X_add, e1, S.C_add]
    rw [show S.C a * (S.C a * cf (sdiv a p)) + S.X (S.C a * cf (sdiv a p)) + S.C (a * eval p a) + S.C a * (S.C a * cf (sdiv a p)) + (S.X (cf p) + S.X (S.C a * cf (sdiv a p))) + (S.C c + S.C (a * eval p a)) = S.C c + S.X (cf p) + S.C a * (S.C a * cf (sdiv a p)) + S.C a * (S.C a * cf (sdiv a p)) + S.X (S.C a * cf (sdiv a p)) + S.X (S.C a * cf (sdiv a p)) + S.C (a * eval p a) + S.C (a * eval p a) by ac_rfl, S.add_add_cancel, S.add_add_cancel, S.add_add_cancel]
/-- as many roots as numbers: it is 0 -/
theorem cf_roots : ∀ (xs : List F) (p : List F), p.length ≤ xs.length → xs.Nodup → (∀ x, x ∈ xs → eval p x = 0) → cf p = 0
  | [], p, h, _, _ => by
    have : p = [] := List.eq_nil_of_length_eq_zero (by simpa using h)
    subst this; rfl
  | a :: xs, p, h, hn, hr => by
    have h0 := hr a (by simp)
    have hn' := List.nodup_cons.1 hn
    have hq := cf_roots xs (sdiv a p) (by rw [length_sdiv]; simp only [List.length_cons] at h; omega) hn'.2 (fun x hx => by
      have := hr x (by simp [hx])
      rw [eval_sdiv a, h0, F.zero_add] at this
      refine (F.mul_eq_zero.1 this).resolve_left fun e => ?_
      have := F.add_eq_zero.1 e
      subst this
      exact hn'.1 hx)
    rw [cf_sdiv a p, h0, hq, S.mul_zero, S.C_zero, S.add_zero]
/-! ### sums of series -/
def sumS : Nat → (Nat → S) → S
  | 0, _ => 0
  | n + 1, f => sumS n f + f n
theorem sumS_at (n : Nat) (f : Nat → S) (i : Nat) : (sumS n f).at' i = sumF n fun j => (f j).at' i := by
  induction n with
  | zero => rfl
  | succ n ih => show (sumS n f + f n).at' i = _; rw [S.at_add, ih, sumF_succ]
theorem mul_sumS (g : S) (n : Nat) (f : Nat → S) : g * sumS n f = sumS n fun j => g * f j := by
  induction n with
  | zero => exact S.mul_zero g
  | succ n ih => show g * (sumS n f + f n) = _; rw [S.mul_add, ih]; rfl
theorem sumS_congr {n : Nat} {f g : Nat → S} (h : ∀ j, j < n → f j = g j) : sumS n f = sumS n g := by
  induction n with
  | zero => rfl
  | succ n ih => show sumS n f + f n = sumS n g + g n; rw [ih fun j hj => h j (by omega), h n (by omega)]
theorem sumS_add (n : Nat) (f g : Nat → S) : sumS n (fun j => f j + g j) = sumS n f + sumS n g := by
  induction n with
  | zero => exact (S.add_zero 0).symm
  | succ n ih => show sumS n (fun j => f j + g j) + (f n + g n) = _; rw [ih]; show _ = (sumS n f + f n) + (sumS n g + g n); ac_rfl
theorem Xs_sumS (m n : Nat) (f : Nat → S) : Xs m (sumS n f) = sumS n fun j => Xs m (f j) := by
  induction n with
  | zero =>
    refine S.ext fun i => ?_
    show (Xs m 0).at' i = 0
    rcases Nat.lt_or_ge i m with h | h
    · exact at_Xs_lt m 0 i h
    · obtain ⟨k, rfl⟩ := Nat.le.dest h
      rw [at_Xs]; rfl
  | succ n ih => show Xs m (sumS n f + f n) = _; rw [Xs_add, ih]; rfl
theorem lim_sumS {n k : Nat} {f : Nat → S} (h : ∀ j, j < n → Lim (f j) k) : Lim (sumS n f) k := by
  induction n with
  | zero => exact fun i _ => rfl
  | succ n ih => exact (ih fun j hj => h j (by omega)).add (h n (by omega))
/-- the powers of a, highest place first -/
def powS (a : F) (m : Nat) : S := fun i => if i < m then a.pow (m - 1 - i) else 0
theorem lin_powS (a : F) (m : Nat) : cf [a, 1] * powS a m = S.C (a.pow m) + Xs m 1 := S.ext fun i => by
  rw [cf_lin_mul, S.at_add, S.at_add, S.at_C_mul, S.at_C]
  have hx : ∀ i, (Xs m 1).at' i = if i = m then 1 else 0 := fun i => by
    rcases Nat.lt_or_ge i m with h | h
    · rw [at_Xs_lt m 1 i h, if_neg (by omega)]
    · obtain ⟨k, rfl⟩ := Nat.le.dest h
      rw [at_Xs, S.one_def, S.at_C]
      by_cases hk : k = 0
      · subst hk; rw [if_pos rfl, if_pos (by omega)]
      · rw [if_neg hk, if_neg (by omega)]
  have hp : ∀ i, (powS a m).at' i = if i < m then a.pow (m - 1 - i) else 0 := fun i => rfl
  rw [hx, hp]
  cases i with
  | zero =>
    rw [S.at_X0, F.add_zero, if_pos rfl]
    by_cases hm : m = 0
    · subst hm; rw [if_neg (by omega), if_pos rfl, F.mul_zero, F.pow_zero, F.add_self]
    · obtain ⟨k, rfl⟩ : ∃ k, m = k + 1 := ⟨m - 1, by omega⟩
      rw [if_pos (by omega), if_neg (by omega), F.add_zero, F.pow_succ]
      congr 2
  | succ i =>
    rw [S.at_X, hp, if_neg (Nat.succ_ne_zero i), F.zero_add]
    by_cases h1 : i + 1 < m
    · rw [if_pos h1, if_pos (by omega), if_neg (by omega), show m - 1 - i = (m - 1 - (i + 1)) + 1 by omega, F.pow_succ, F.add_self]
    · rw [if_neg h1, F.mul_zero, F.zero_add]
      by_cases h2 : i + 1 = m
      · rw [if_pos (by omega), if_pos h2, show m - 1 - i = 0 by omega, F.pow_zero]
      · rw [if_neg (by omega), if_neg h2]
/-! ### syndromes of points -/
/-- the syndromes of the points ps, and of what stands there -/
def synN (m : Nat) (ps ys : List F) : List F := (List.range m).map fun l => sumF ps.length fun i => ys.getD i 0 * (ps.getD i 0).pow l
theorem length_synN (m : Nat) (ps ys : List F) : (synN m ps ys).length = m := by unfold synN; simp
theorem synN_at (m : Nat) (ps ys : List F) (l : Nat) (h : l < m) : (synN m ps ys).getD l 0 = sumF ps.length fun i => ys.getD i 0 * (ps.getD i 0).pow l := by
  unfold synN
  rw [List.getD_eq_getElem?_getD, List.getElem?_map, List.getElem?_range h]; rfl
theorem cf_synN_rev (m : Nat) (ps ys : List F) : cf (synN m ps ys).reverse = sumS ps.length fun i => S.C (ys.getD i 0) * powS (ps.getD i 0) m := S.ext fun x => by
  rw [sumS_at]
  rcases Nat.lt_or_ge x m with h | h
  · rw [at_cf, getD_reverse (by rw [length_synN]; exact h), length_synN, synN_at _ _ _ _ (by omega)]
    refine sumF_congr fun i _ => ?_
    rw [S.at_C_mul]
    show _ = _ * (if x < m then (ps.getD i 0).pow (m - 1 - x) else 0)
    rw [if_pos h]
  · rw [cf_ge (by rw [List.length_reverse, length_synN]; exact h)]
    refine (sumF_none fun i _ => ?_).symm
    rw [S.at_C_mul]
    show _ * (if x < m then (ps.getD i 0).pow (m - 1 - x) else 0) = 0
    rw [if_neg (by omega), F.mul_zero]
/-- what tells how the bytes are wrong -/
def ovr (fl ps ys : List F) : S := sumS ps.length fun i => S.C (ys.getD i 0) * cf (sdiv (ps.getD i 0) fl)
theorem full_syn {m : Nat} {fl ps ys : List F} (hr : ∀ i, i < ps.length → eval fl (ps.getD i 0) = 0) :
    ∃ R : S, cf fl * cf (synN m ps ys).reverse = R + Xs m (ovr fl ps ys) ∧ Lim R (fl.length - 1) := by
  refine ⟨sumS ps.length fun i => S.C (ys.getD i 0) * (S.C ((ps.getD i 0).pow m) * cf (sdiv (ps.getD i 0) fl)), ?_, lim_sumS fun i _ => ?_⟩
  · rw [cf_synN_rev, mul_sumS, ovr, Xs_sumS, ← sumS_add]
    refine sumS_congr fun i hi => ?_
    have e1 : cf fl = cf [ps.getD i 0, 1] * cf (sdiv (ps.getD i 0) fl) := by
      have := cf_sdiv (ps.getD i 0) fl
      rwa [hr i hi, S.C_zero, S.add_zero] at this
    rw [S.mul_left_comm, e1, show cf [ps.getD i 0, 1] * cf (sdiv (ps.getD i 0) fl) * powS (ps.getD i 0) m = (cf [ps.getD i 0, 1] * powS (ps.getD i 0) m) * cf (sdiv (ps.getD i 0) fl) by ac_rfl, lin_powS, S.add_mul, S.mul_add, Xs_mul, S.one_mul]
    congr 1
    rw [S.mul_comm (S.C (ys.getD i 0)) (Xs m _), Xs_mul, S.mul_comm]
  · intro x hx
    rw [S.at_C_mul, S.at_C_mul, cf_ge (by rw [length_sdiv]; exact hx), F.mul_zero, F.mul_zero]
/-- .. as numbers -/
def ovrL (fl ps ys : List F) : Nat → List F
  | 0 => []
  | i + 1 => padd (ovrL fl ps ys i) (psmul (ys.getD i 0) (sdiv (ps.getD i 0) fl))
theorem cf_ovrL (fl ps ys : List F) : ∀ i, cf (ovrL fl ps ys i) = sumS i fun j => S.C (ys.getD j 0) * cf (sdiv (ps.getD j 0) fl)
  | 0 => rfl
  | i + 1 => by
    show cf (padd _ _) = _
    rw [cf_padd, cf_psmul, cf_ovrL fl ps ys i]; rfl
theorem eval_ovrL (fl ps ys : List F) (x : F) : ∀ i, eval (ovrL fl ps ys i) x = sumF i fun j => ys.getD j 0 * eval (sdiv (ps.getD j 0) fl) x
  | 0 => rfl
  | i + 1 => by
    show eval (padd _ _) x = _
    rw [eval_padd, eval_psmul, eval_ovrL fl ps ys x i]; rfl
/-- points that are unlike, and a polynomial that has just these as roots -/
structure Full (fl ps : List F) : Prop where
  nd : ps.Nodup
  len : fl.length = ps.length + 1
  top : fl.getD ps.length 0 ≠ 0
  root : ∀ x, x ∈ ps → eval fl x = 0
theorem getD_mem {ps : List F} {i : Nat} (h : i < ps.length) : ps.getD i 0 ∈ ps := by
  rw [List.getD_eq_getElem?_getD, List.getElem?_eq_getElem h]; exact List.getElem_mem h
theorem Full.ne {fl ps : List F} (h : Full fl ps) {i j : Nat} (hi : i < ps.length) (hj : j < ps.length) (hne : i ≠ j) : ps.getD i 0 ≠ ps.getD j 0 := by
  rw [List.getD_eq_getElem?_getD, List.getElem?_eq_getElem hi, List.getD_eq_getElem?_getD, List.getElem?_eq_getElem hj]
  have key := List.pairwise_iff_getElem.1 h.nd
  intro e
  rcases Nat.lt_or_gt_of_ne hne with q | q
  · exact key i j hi hj q e
  · exact key j i hj hi q e.symm
theorem Full.other {fl ps : List F} (h : Full fl ps) {a x : F} (ha : a ∈ ps) (hx : x ∈ ps) (hne : x ≠ a) : eval (sdiv a fl) x = 0 := by
  have := h.root x hx
  rw [eval_sdiv a, h.root a ha, F.zero_add] at this
  exact (F.mul_eq_zero.1 this).resolve_left fun e => hne (F.add_eq_zero.1 e)
theorem Full.self {fl ps : List F} (h : Full fl ps) {a : F} (ha : a ∈ ps) : eval (sdiv a fl) a ≠ 0 := fun e => by
  have h0 := cf_roots ps (sdiv a fl) (by rw [length_sdiv, h.len]; omega) h.nd fun x hx => by
    by_cases hxa : x = a
    · subst hxa; exact e
    · exact h.other ha hx hxa
  have h1 := cf_sdiv a fl
  rw [h0, h.root a ha, S.mul_zero, S.C_zero, S.add_zero] at h1
  have h2 : (cf fl).at' ps.length = 0 := by rw [h1]; rfl
  exact h.top h2
/-- what the over tells at a point -/
theorem Full.over {fl ps : List F} (h : Full fl ps) (ys : List F) {j : Nat} (hj : j < ps.length) : eval (ovrL fl ps ys ps.length) (ps.getD j 0) = ys.getD j 0 * eval (sdiv (ps.getD j 0) fl) (ps.getD j 0) := by
  rw [eval_ovrL]
  refine sumF_one j hj fun i hi hne => ?_
  rw [h.other (getD_mem hi) (getD_mem hj) (h.ne hj hi hne.symm), F.mul_zero]
/-- the derivative at a point -/
theorem Full.deriv {fl ps : List F} (h : Full fl ps) {a : F} (ha : a ∈ ps) : eval (derivL fl) a = eval (sdiv a fl) a := by
  have e1 : cf fl = cf [a, 1] * cf (sdiv a fl) := by
    have := cf_sdiv a fl
    rwa [h.root a ha, S.C_zero, S.add_zero] at this
  have e2 : S.D (cf [a, 1]) = 1 := by
    have : cf [a, 1] = S.C a + S.X 1 := by rw [cf_cons, cf_const]; rfl
    rw [this, S.D_add, S.D_C, S.D_X, S.one_def, S.D_C, S.X_zero, S.add_zero, S.zero_add]
  have e3 : cf (derivL fl) = cf (padd (sdiv a fl) (pmul [a, 1] (derivL (sdiv a fl)))) := by
    rw [cf_derivL, e1, D_cf_mul, e2, S.one_mul, cf_padd, cf_pmul, cf_derivL]
  rw [eval_congr e3, eval_padd, eval_pmul, eval_lin, F.add_self, F.zero_mul, F.add_zero]
/-! ### the key equation of such syndromes -/
theorem finds {m : Nat} {pts kn by' an : List F} (hf : Full (norm (pmul (locN pts pts.length) (locN kn kn.length))) (pts ++ kn)) (hb : by'.length = pts.length) (hnz : ∀ j, j < pts.length → by'.getD j 0 ≠ 0) (hm : 2 * pts.length + kn.length ≤ m) :
    KeyCase (synN m (pts ++ kn) (by' ++ an)) (locN kn kn.length) (locN pts pts.length) ((norm (pmul (locN pts pts.length) (keyP (synN m (pts ++ kn) (by' ++ an)) (locN kn kn.length)))).drop m) 0 ∧
    cf ((norm (pmul (locN pts pts.length) (keyP (synN m (pts ++ kn) (by' ++ an)) (locN kn kn.length)))).drop m) = cf (ovrL (norm (pmul (locN pts pts.length) (locN kn kn.length))) (pts ++ kn) (by' ++ an) (pts ++ kn).length) := by
  obtain ⟨fl, hfl⟩ : ∃ fl, norm (pmul (locN pts pts.length) (locN kn kn.length)) = fl := ⟨_, rfl⟩
  obtain ⟨ps, hps⟩ : ∃ ps, pts ++ kn = ps := ⟨_, rfl⟩
  obtain ⟨ys, hys⟩ : ∃ ys, by' ++ an = ys := ⟨_, rfl⟩
  have hN : ps.length = pts.length + kn.length := by rw [← hps, List.length_append]
  have hpa : ∀ j, j < pts.length → ps.getD j 0 = pts.getD j 0 := fun j hj => by
    rw [← hps, List.getD_eq_getElem?_getD, List.getElem?_append_left hj, ← List.getD_eq_getElem?_getD]
  have hya : ∀ j, j < pts.length → ys.getD j 0 = by'.getD j 0 := fun j hj => by
    rw [← hys, List.getD_eq_getElem?_getD, List.getElem?_append_left (by omega), ← List.getD_eq_getElem?_getD]
  rw [hfl, hps] at hf
  rw [hfl, hps, hys]
  have hcf : cf fl = cf (locN pts pts.length) * cf (locN kn kn.length) := by rw [← hfl, cf_norm, cf_pmul]
  obtain ⟨R, hR, hlim⟩ := full_syn (m := m) (fl := fl) (ps := ps) (ys := ys) fun i hi => hf.root _ (getD_mem hi)
  have hov : ovr fl ps ys = cf (ovrL fl ps ys ps.length) := (cf_ovrL fl ps ys ps.length).symm
  rw [hf.len, Nat.add_sub_cancel, hN] at hlim
  obtain ⟨sy, hsy⟩ : ∃ sy, synN m ps ys = sy := ⟨_, rfl⟩
  have hsl : sy.length = m := by rw [← hsy, length_synN]
  rw [hsy] at hR ⊢
  have hng : norm (locN kn kn.length) = locN kn kn.length := (locN_spec kn kn.length).2.1
  have hP : cf (locN pts pts.length) * cf (keyP sy (locN kn kn.length)) = R + Xs m (ovr fl ps ys) := by
    rw [← hR, hcf]
    unfold keyP
    rw [cf_norm, cf_pmul, hng, S.mul_assoc]
  have hO : cf ((norm (pmul (locN pts pts.length) (keyP sy (locN kn kn.length)))).drop m) = ovr fl ps ys := S.ext fun i => by
    rw [at_cf, List.getD_eq_getElem?_getD, List.getElem?_drop, ← List.getD_eq_getElem?_getD, ← at_cf, cf_norm, cf_pmul, hP, S.at_add, hlim _ (by omega), F.zero_add, at_Xs]
  have hpn : pts.Nodup := by have := hf.nd; rw [← hps] at this; exact (List.nodup_append.1 this).1
  have key : ∀ t' l, t' ≤ pts.length → Loc (cf (keyP sy (locN kn kn.length))) m kn.length t' l → ∀ x, x ∈ pts → eval l x = 0 := fun t' l ht hl x hx => by
    obtain ⟨j, hj, rfl⟩ := List.getElem_of_mem hx
    have hxj : pts[j] = pts.getD j 0 := by rw [List.getD_eq_getElem?_getD, List.getElem?_eq_getElem hj]; rfl
    rw [hxj]
    obtain ⟨k, v, e1, e2, e3, e3'⟩ := cutS (cf l * cf (keyP sy (locN kn kn.length))) m
    have hk : Lim k (kn.length + t') := fun i hi => by
      rcases Nat.lt_or_ge i m with q | q
      · rw [e2 i q]; exact hl.mid i hi q
      · exact e3 i q
    obtain ⟨_, e4⟩ := two_sol hP e1 ((Lim.mul (t' + 1) (lim_list (by rw [hl.len]; omega)) hlim).mono (by omega)) ((Lim.mul (pts.length + 1) (lim_list (by rw [length_locN]; omega)) hk).mono (by omega))
    have hv : v = cf ((norm (pmul l (keyP sy (locN kn kn.length)))).drop m) := S.ext fun i => by
      rw [e3', at_cf, List.getD_eq_getElem?_getD, List.getElem?_drop, ← List.getD_eq_getElem?_getD, ← at_cf, cf_norm, cf_pmul]
    rw [hov, hv, ← cf_pmul, ← cf_pmul] at e4
    have e5 := eval_congr e4 (pts.getD j 0)
    have hjp : j < ps.length := by omega
    rw [eval_pmul, eval_pmul, (locN_root pts _ pts.length).2 ⟨j, hj, rfl⟩, F.zero_mul, ← hpa j hj, hf.over ys hjp, hya j hj] at e5
    rw [← hpa j hj]
    exact (F.mul_eq_zero.1 e5).resolve_right (F.mul_ne_zero (hnz j hj) (hf.self (getD_mem hjp)))
  refine ⟨.inr ⟨kn.length, by rw [hng, length_locN], by omega, .inl ⟨rfl, pts.length, by omega, ?_, ⟨length_locN _ _, (locN_spec pts pts.length).2.2, fun i h1 h2 => ?_⟩, ?_, by rw [hsl]⟩⟩, by rw [hO, hov]⟩
  · rintro t' ht ⟨l, hl, _⟩
    rw [hsl] at hl
    have h0 := cf_roots pts l (by rw [hl.len]; omega) hpn (key t' l (by omega) hl)
    have h1 := hl.top
    rw [← at_cf, h0] at h1
    exact F.one_ne_zero h1.symm
  · rw [hsl] at h2
    rw [hP, S.at_add, hlim i (by omega), at_Xs_lt m _ i h2, F.add_zero]
  · intro l' hl'
    rw [hsl] at hl'
    have hd : cf ((padd l' (locN pts pts.length)).take pts.length) = cf l' + cf (locN pts pts.length) := S.ext fun i => by
      rw [S.at_add, at_cf, List.getD_eq_getElem?_getD, List.getElem?_take]
      rcases Nat.lt_trichotomy i pts.length with q | q | q
      · rw [if_pos q, ← List.getD_eq_getElem?_getD, ← at_cf, cf_padd, S.at_add]
      · rw [if_neg (by omega), q, at_cf, at_cf, hl'.top, (locN_spec pts pts.length).2.2, F.add_self]; rfl
      · rw [if_neg (by omega), cf_ge (by rw [hl'.len]; omega), cf_ge (by rw [length_locN]; omega), F.add_zero]; rfl
    have h0 := cf_roots pts ((padd l' (locN pts pts.length)).take pts.length) (by rw [List.length_take]; omega) hpn fun x hx => by
      obtain ⟨j, hj, hxj⟩ := List.getElem_of_mem hx
      rw [eval_congr (hd.trans (cf_padd _ _).symm), eval_padd, key _ l' (Nat.le_refl _) hl' x hx, F.zero_add]
      exact (locN_root pts x pts.length).2 ⟨j, hj, by rw [List.getD_eq_getElem?_getD, List.getElem?_eq_getElem hj]; exact hxj⟩
    rw [hd] at h0
    exact cf_inj (by rw [hl'.len, length_locN]) (S.add_eq_zero.1 h0)
end Go.Proofs.Ytmcamamfpefffaa
