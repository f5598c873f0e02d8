/- Equations that are solved by Gauss, in plain Lean: the only solution, or there is none alone; a locator's equations. No program in sight. -/
import Derived.Test.YtmcamamfpefffaaKeq
namespace Go.Proofs.Ytmcamamfpefffaa
set_option linter.unusedVariables false
/-- rows of equations, turned up to the column c; the last number of a row is what it is equal to -/
structure Ge (n t c : Nat) (w v : Mx) : Prop where
  eqv : RowEq n (t + 1) w v
  off : ∀ j, j < c → ∀ r, r < n → r ≠ j → w r j = 0
  dia : ∀ j, j < c → w j j ≠ 0
/-- a solution -/
def Sol (n t : Nat) (v : Mx) (x : Nat → F) : Prop := (∀ r, r < n → app (t + 1) v x r = 0) ∧ x t = 1
theorem Ge.start (n t : Nat) (v : Mx) : Ge n t 0 v v := ⟨RowEq.refl _ _ _, fun j h => absurd h (Nat.not_lt_zero j), fun j h => absurd h (Nat.not_lt_zero j)⟩
theorem Ge.congr {n t c : Nat} {w w' v : Mx} (h : Ge n t c w v) (e : EqM n (t + 1) w' w) (hc : c ≤ t) (hn : c ≤ n) : Ge n t c w' v :=
  ⟨(RowEq.of_eq e).trans h.eqv, fun j hj r hr hne => by rw [e r j hr (by omega)]; exact h.off j hj r hr hne, fun j hj => by rw [e j j (by omega) (by omega)]; exact h.dia j hj⟩
theorem Ge.sol {n t c : Nat} {w v : Mx} (h : Ge n t c w v) (x : Nat → F) : Sol n t v x ↔ Sol n t w x := by
  have := h.eqv x
  unfold Ker at this
  unfold Sol
  rw [this]
theorem Ge.clear {n t c : Nat} {w v : Mx} (m : Nat → F) (hc : c < n) (he : RowEq n (t + 1) w v) (h1 : ∀ j, j < c → ∀ r, r < n → r ≠ j → w r j = 0) (h2 : ∀ j, j < c → w j j ≠ 0) (h3 : w c c ≠ 0) (hm : ∀ i, i < n → i ≠ c → w i c + w c c * m i = 0) : Ge n t (c + 1) (clr m w c n) v := by
  refine ⟨(rowEq_clr m w hc n (Nat.le_refl n)).trans he, fun j hj r hr hne => ?_, fun j hj => ?_⟩
  · by_cases e : r = c
    · subst e; rw [clr_self]; exact h1 j (by omega) r hr hne
    · rw [clr_lt m w c hr e]
      by_cases e2 : j = c
      · subst e2; exact hm r hr e
      · rw [h1 j (by omega) r hr hne, h1 j (by omega) c hc (Ne.symm e2), F.zero_mul, F.add_zero]
  · by_cases e : j = c
    · subst e; rw [clr_self]; exact h3
    · rw [clr_lt m w c (by omega) e, h1 j (by omega) c hc (Ne.symm e), F.zero_mul, F.add_zero]; exact h2 j (by omega)
theorem Ge.swap {n t c p : Nat} {u v : Mx} (h : Ge n t c u v) (hc : c < n) (hp : c ≤ p) (hpn : p < n) (h0 : u p c ≠ 0) :
    Ge n t (c + 1) (clr (fun i => swp u c p i c * F.inv (swp u c p c c)) (swp u c p) c n) v := by
  have e0 : ∀ j, swp u c p c j = u p j := fun j => if_pos rfl
  have e1 : ∀ j, swp u c p p j = u c j := fun j => by
    unfold swp
    by_cases e : p = c
    · subst e; rw [if_pos rfl]
    · rw [if_neg e, if_pos rfl]
  have e2 : ∀ i j, i ≠ c → i ≠ p → swp u c p i j = u i j := fun i j a b => by unfold swp; rw [if_neg a, if_neg b]
  refine Ge.clear _ hc ((rowEq_swap c p hc hpn (fun i _ a b j _ => e2 i j a b) (fun j _ => e0 j) fun j _ => e1 j).trans h.eqv) (fun j hj r hr hne => ?_) (fun j hj => ?_) (by rw [e0]; exact h0) (fun i _ _ => ?_)
  · by_cases a : r = c
    · subst a; rw [e0]; exact h.off j hj p hpn (by omega)
    · by_cases b : r = p
      · subst b; rw [e1]; exact h.off j hj c hc (by omega)
      · rw [e2 r j a b]; exact h.off j hj r hr hne
  · rw [e2 j j (by omega) (by omega)]; exact h.dia j hj
  · rw [F.mul_left_comm, e0, F.mul_inv h0, F.mul_one, F.add_self]
/-- no number to turn by: whoever solves is not alone -/
theorem Ge.nopivot {n t c : Nat} {w v : Mx} (h : Ge n t c w v) (hc : c < t) (hp : ∀ p, c ≤ p → p < n → w p c = 0) (x : Nat → F) (hx : Sol n t v x) : ∃ y, Sol n t v y ∧ y c ≠ x c := by
  obtain ⟨k, hk⟩ : ∃ k : Nat → F, k = fun j => if j < c then w j c * F.inv (w j j) else if j = c then 1 else 0 := ⟨_, rfl⟩
  have k1 : ∀ j, j < c → k j = w j c * F.inv (w j j) := fun j hj => by rw [hk]; exact if_pos hj
  have k2 : k c = 1 := by
    rw [hk]
    show (if c < c then _ else if c = c then (1 : F) else 0) = 1
    rw [if_neg (Nat.lt_irrefl c), if_pos rfl]
  have k3 : ∀ j, c < j → k j = 0 := fun j hj => by
    rw [hk]
    show (if j < c then _ else if j = c then (1 : F) else 0) = 0
    rw [if_neg (by omega), if_neg (by omega)]
  have hker : ∀ r, r < n → app (t + 1) w k r = 0 := fun r hr => by
    unfold app
    rw [show t + 1 = c + (1 + (t - c)) by omega, sumF_append, sumF_append, sumF_succ, sumF_zero, F.zero_add]
    rw [sumF_none (n := t - c) fun i _ => by rw [k3 (c + (1 + i)) (by omega), F.mul_zero], F.add_zero]
    rw [Nat.add_zero, k2, F.mul_one]
    by_cases hrc : r < c
    · rw [sumF_one r hrc fun i hi hne => by rw [h.off i hi r hr (Ne.symm hne), F.zero_mul], k1 r hrc, F.mul_left_comm, F.mul_inv (h.dia r hrc), F.mul_one, F.add_self]
    · rw [sumF_none fun i hi => by rw [h.off i hi r hr (by omega), F.zero_mul], hp r (by omega) hr, F.add_zero]
  have hw := (h.sol x).1 hx
  refine ⟨fun j => x j + k j, (h.sol _).2 ⟨fun r hr => ?_, ?_⟩, fun e => ?_⟩
  · have : app (t + 1) w (fun j => x j + k j) r = app (t + 1) w x r + app (t + 1) w k r := by
      unfold app
      rw [← sumF_add]
      exact sumF_congr fun j _ => F.mul_add _ _ _
    rw [this, hw.1 r hr, hker r hr, F.add_zero]
  · show x t + k t = 1
    rw [hx.2, k3 t hc, F.add_zero]
  · have e2 : x c + k c = x c := e
    rw [k2] at e2
    have := F.add_cancel_left (x c) 1
    rw [e2, F.add_self] at this
    exact F.one_ne_zero this.symm
theorem Ge.row {n t : Nat} {w v : Mx} (h : Ge n t t w v) (x : Nat → F) (r : Nat) (hr : r < n) : app (t + 1) w x r = (if r < t then w r r * x r else 0) + w r t * x t := by
  unfold app
  rw [sumF_succ]
  congr 1
  by_cases hrt : r < t
  · rw [if_pos hrt]
    exact sumF_one r hrt fun i hi hne => by rw [h.off i hi r hr (Ne.symm hne), F.zero_mul]
  · rw [if_neg hrt]
    exact sumF_none fun i hi => by rw [h.off i hi r hr (by omega), F.zero_mul]
/-- a row that asks for 0 = 1 -/
theorem Ge.bad {n t : Nat} {w v : Mx} (h : Ge n t t w v) (r : Nat) (hr : r < n) (hrt : t ≤ r) (h0 : w r t ≠ 0) (x : Nat → F) : ¬ Sol n t v x := fun hx => by
  obtain ⟨h1, h2⟩ := (h.sol x).1 hx
  have := h1 r hr
  rw [h.row x r hr, if_neg (by omega), F.zero_add, h2, F.mul_one] at this
  exact h0 this
theorem Ge.good {n t : Nat} {w v : Mx} (h : Ge n t t w v) (hn : t ≤ n) (h0 : ∀ r, t ≤ r → r < n → w r t = 0) (x : Nat → F) : Sol n t v x ↔ x t = 1 ∧ ∀ j, j < t → x j = w j t * F.inv (w j j) := by
  rw [h.sol]
  refine ⟨fun ⟨h1, h2⟩ => ⟨h2, fun j hj => ?_⟩, fun ⟨h2, h1⟩ => ⟨fun r hr => ?_, h2⟩⟩
  · have := h1 j (by omega)
    rw [h.row x j (by omega), if_pos hj, h2, F.mul_one] at this
    have e := F.add_eq_zero.1 this
    refine F.mul_cancel (h.dia j hj) ?_
    rw [e, F.mul_left_comm, F.mul_inv (h.dia j hj), F.mul_one]
  · rw [h.row x r hr]
    by_cases hrt : r < t
    · rw [if_pos hrt, h2, F.mul_one, h1 r hrt, F.mul_left_comm, F.mul_inv (h.dia r hrt), F.mul_one, F.add_self]
    · rw [if_neg hrt, h0 r (by omega) hr, F.zero_mul, F.add_zero]
/-- what the equations answer -/
def SolvR (n t : Nat) (v : Mx) (b : Bool) (x : Nat → F) : Prop := if b = true then ∀ y, Sol n t v y ↔ (y t = 1 ∧ ∀ j, j < t → y j = x j) else ∀ y, Sol n t v y → ∃ z, Sol n t v z ∧ ∃ c, c < t ∧ z c ≠ y c
/-! ### a locator's equations -/
theorem conv_sum : ∀ (k : Nat) (f g : S), (f * g).at' k = sumF (k + 1) fun i => f.at' i * g.at' (k - i)
  | 0, f, g => by rw [sumF_succ, sumF_zero, F.zero_add]; rfl
  | k + 1, f, g => by
    have e1 : (sumF 1 fun i => f.at' i * g.at' (k + 1 - i)) = f.at' 0 * g.at' (k + 1) := by rw [sumF_succ, sumF_zero, F.zero_add]; rfl
    rw [S.at_mul, conv_sum k f.tail g, show k + 1 + 1 = 1 + (k + 1) by omega, sumF_append 1 (k + 1), e1]
    congr 1
    exact sumF_congr fun i _ => by
      rw [S.at_tail, show k + 1 - (1 + i) = k - i by omega, Nat.add_comm 1 i]
theorem conv_list {l : List F} {t k : Nat} (g : S) (hl : l.length = t + 1) (hk : t ≤ k) : (cf l * g).at' k = sumF (t + 1) fun i => l.getD i 0 * g.at' (k - i) := by
  rw [conv_sum, show k + 1 = (t + 1) + (k - t) by omega, sumF_append, sumF_none (n := k - t) fun i _ => by rw [cf_ge (by omega), F.zero_mul], F.add_zero]
  rfl
/-- the rows -/
def locM (p : List F) (e t : Nat) : Mx := fun r i => p.getD (e + t + r - i) 0
theorem loc_sol {p : List F} {m e t : Nat} {l : List F} (hl : l.length = t + 1) : Loc (cf p) m e t l ↔ Sol (m - (e + t)) t (locM p e t) fun i => l.getD i 0 := by
  have key : ∀ r, app (t + 1) (locM p e t) (fun i => l.getD i 0) r = (cf l * cf p).at' (e + t + r) := fun r => by
    rw [conv_list (cf p) hl (by omega)]
    exact sumF_congr fun i _ => F.mul_comm _ _
  refine ⟨fun h => ⟨fun r hr => ?_, h.top⟩, fun h => ⟨hl, h.2, fun i h1 h2 => ?_⟩⟩
  · rw [key]; exact h.mid _ (by omega) (by omega)
  · obtain ⟨r, rfl⟩ := Nat.le.dest h1
    rw [← key]; exact h.1 r (by omega)
theorem sol_list {n t : Nat} {v : Mx} {x : Nat → F} (h : Sol n t v x) : Sol n t v fun i => ((List.range (t + 1)).map x).getD i 0 := by
  have e : ∀ i, i < t + 1 → ((List.range (t + 1)).map x).getD i 0 = x i := fun i hi => by
    rw [List.getD_eq_getElem?_getD, List.getElem?_map, List.getElem?_range hi]; rfl
  refine ⟨fun r hr => ?_, (e t (by omega)).trans h.2⟩
  refine Eq.trans ?_ (h.1 r hr)
  exact sumF_congr fun j hj => congrArg (v r j * ·) (e j hj)
/-- what located answers -/
theorem SolvR.loc {p : List F} {m e t : Nat} {x : Nat → F} (h : SolvR (m - (e + t)) t (locM p e t) true x) : Loc (cf p) m e t ((List.range t).map x ++ [1]) ∧ ∀ l', Loc (cf p) m e t l' → l' = (List.range t).map x ++ [1] := by
  have hlen : ((List.range t).map x ++ [(1 : F)]).length = t + 1 := by simp
  have g1 : ((List.range t).map x ++ [(1 : F)]).getD t 0 = 1 := by
    rw [List.getD_eq_getElem?_getD, List.getElem?_append_right (by simp)]; simp
  have g2 : ∀ j, j < t → ((List.range t).map x ++ [(1 : F)]).getD j 0 = x j := fun j hj => by
    rw [List.getD_eq_getElem?_getD, List.getElem?_append_left (by simpa using hj), List.getElem?_map, List.getElem?_range hj]; rfl
  refine ⟨(loc_sol hlen).2 ((h _).2 ⟨g1, g2⟩), fun l' hl' => ?_⟩
  obtain ⟨a1, a2⟩ := (h _).1 ((loc_sol hl'.len).1 hl')
  refine List.ext_getElem (by rw [hlen, hl'.len]) fun i h1 h2 => ?_
  have e : l'.getD i 0 = ((List.range t).map x ++ [(1 : F)]).getD i 0 := by
    by_cases hi : i < t
    · rw [a2 i hi, g2 i hi]
    · have : i = t := by rw [hlen] at h2; omega
      rw [this, a1, g1]
  rwa [List.getD_eq_getElem?_getD, List.getD_eq_getElem?_getD, List.getElem?_eq_getElem h1, List.getElem?_eq_getElem h2] at e
theorem SolvR.none {p : List F} {m e t : Nat} {x : Nat → F} (h : SolvR (m - (e + t)) t (locM p e t) false x) : ¬ Uq (cf p) m e t := by
  rintro ⟨l, hl, hu⟩
  obtain ⟨z, hz, c, hc, hne⟩ := h _ ((loc_sol hl.len).1 hl)
  have h2 := hu _ ((loc_sol (by simp)).2 (sol_list hz))
  refine hne ?_
  rw [← h2]
  show z c = ((List.range (t + 1)).map z).getD c 0
  rw [List.getD_eq_getElem?_getD, List.getElem?_map, List.getElem?_range (by omega)]; rfl
end Go.Proofs.Ytmcamamfpefffaa
