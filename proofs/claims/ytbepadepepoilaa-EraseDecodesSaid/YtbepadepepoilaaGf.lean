/- Package gf, walked: what each of its calls answers, and what it leaves of the memory. -/
import Derived.Test.YtbepadepepoilaaProg
import Derived.Test.YtbepadepepoilaaField
import Derived.WalkKit
import Derived.Deep.QuietTactic
import Derived.BigQuiet
import Derived.Deep.Draws
import Derived.Lib.Hide
namespace Go.Proofs.Ytbepadepepoilaa
open Go.RowKit

theorem below_drewN {B : Nat} {a w : World} (h : Below B a w) (n : Nat) : Below B a (w.drewN n) := ⟨h.os, h.tape, h.output, h.size, h.block⟩
theorem below_drew0 (w : World) (n : Nat) : Below w.heap.size w (w.drewN n) := below_drewN (Below.refl _ _) n

/-- block b holds the field -/
structure GfAt (w : World) (b : Nat) : Prop where
  lt : b < w.heap.size
  e : ∀ i, i < 510 → w.cell? ⟨b, i, none⟩ = some (.int .u8 (ex (i % 255)))
  l : ∀ i, i < 256 → w.cell? ⟨b, 510 + i, none⟩ = some (.int .i64 (lg i))
theorem GfAt.below {w w' : World} {b : Nat} (h : GfAt w b) (hb : Below w.heap.size w w') : GfAt w' b :=
  ⟨Nat.lt_of_lt_of_le h.lt hb.size, fun i hi => (hb.cell (p := ⟨b, i, none⟩) h.lt).trans (h.e i hi), fun i hi => (hb.cell (p := ⟨b, 510 + i, none⟩) h.lt).trans (h.l i hi)⟩
theorem GfAt.below' {w w' : World} {b B : Nat} (h : GfAt w b) (hb : Below B w w') (hB : b < B) : GfAt w' b :=
  ⟨Nat.lt_of_lt_of_le h.lt hb.size, fun i hi => (hb.cell (p := ⟨b, i, none⟩) hB).trans (h.e i hi), fun i hi => (hb.cell (p := ⟨b, 510 + i, none⟩) hB).trans (h.l i hi)⟩

/-- a field's pointer -/
abbrev fp (b : Nat) : Value := .pointer (some ⟨b, 0, none⟩)

theorem mul_nil (a b : Int) (w : World) :
    Calls Try.prog 30 #[.pointer none, .int .u8 a, .int .u8 b] w fun e w' => e = .returned (.int .u8 0) ∧ w = w' := by
  go_enter Try.func30, Try.ntmps30
  go_wp2
  go_ret
  exact ⟨rfl, rfl⟩

theorem mul_nz (b : Nat) (x y : Nat) (w : World) (h : GfAt w b) (hx : x < 256) (hy : y < 256) (hx0 : 0 < x) (hy0 : 0 < y) :
    Calls Try.prog 30 #[.pointer (some ⟨b, 0, none⟩), .int .u8 x, .int .u8 y] w fun e w' => e = .returned (.int .u8 (ex ((lg x + lg y) % 255))) ∧ ∃ n, w' = w.drewN n := by
  have h1 := h.l x hx
  have h2 := h.l y hy
  have l1 := lg_lt hx
  have l2 := lg_lt hy
  have h3 := h.e (lg x + lg y) (by omega)
  clear h
  have e1 : ((x : Int) == 0) = false := by simp; omega
  have e2 : ((y : Int) == 0) = false := by simp; omega
  go_enter Try.func30, Try.ntmps30
  go_wp2
  go_quiet (fail)
  go_wp2
  go_ret
  exact ⟨rfl, _, rfl⟩

theorem mul_z1 (b : Nat) (y : Int) (w : World) :
    Calls Try.prog 30 #[.pointer (some ⟨b, 0, none⟩), .int .u8 0, .int .u8 y] w fun e w' => e = .returned (.int .u8 0) ∧ w = w' := by
  go_enter Try.func30, Try.ntmps30
  go_wp2
  go_ret
  exact ⟨rfl, rfl⟩
theorem mul_z2 (b : Nat) (x : Nat) (w : World) (hx : 0 < x) :
    Calls Try.prog 30 #[.pointer (some ⟨b, 0, none⟩), .int .u8 x, .int .u8 0] w fun e w' => e = .returned (.int .u8 0) ∧ w = w' := by
  have e1 : ((x : Int) == 0) = false := by simp; omega
  go_enter Try.func30, Try.ntmps30
  go_wp2
  go_ret
  exact ⟨rfl, rfl⟩

/-- Mul, with a field -/
theorem gf_mul (b : Nat) (x y : F) (w : World) (h : GfAt w b) :
    Calls Try.prog 30 #[fp b, .int .u8 x.n, .int .u8 y.n] w fun e w' => e = .returned (.int .u8 (x * y).n) ∧ ∃ n, w' = w.drewN n := by
  have e : (x * y).n = mulN x.n y.n := F.n_mul x y
  rw [e]
  unfold fp mulN
  by_cases hx : x.n = 0
  · rw [if_pos (.inl hx), hx]
    exact (mul_z1 b _ w).mono fun e w' ⟨he, hw⟩ => ⟨he, 0, hw.symm⟩
  · by_cases hy : y.n = 0
    · rw [if_pos (.inr hy), hy]
      exact (mul_z2 b x.n w (by omega)).mono fun e w' ⟨he, hw⟩ => ⟨he, 0, hw.symm⟩
    · rw [if_neg (by omega)]
      exact mul_nz b x.n y.n w h x.lt y.lt (by omega) (by omega)

/-! ### Log -/
/-! ### Pow -/
theorem gf_pow_nil (a n : Int) (w : World) :
    Calls Try.prog 44 #[.pointer none, .int .u8 a, .int .i64 n] w fun e w' => e = .returned (.tuple #[.int .u8 0, .int .i64 1]) ∧ w = w' := by
  go_enter Try.func44, Try.ntmps44
  go_wp2
  go_ret2
  exact ⟨rfl, rfl⟩
theorem gf_pow_zneg (b : Nat) (n : Int) (hn : n < 0) (w : World) :
    Calls Try.prog 44 #[fp b, .int .u8 0, .int .i64 n] w fun e w' => e = .returned (.tuple #[.int .u8 0, .int .i64 10]) ∧ w = w' := by
  unfold fp
  go_enter Try.func44, Try.ntmps44
  go_wp2
  go_ret2
  exact ⟨rfl, rfl⟩
theorem gf_pow_zpos (b : Nat) (n : Int) (hn : 0 < n) (w : World) :
    Calls Try.prog 44 #[fp b, .int .u8 0, .int .i64 n] w fun e w' => e = .returned (.tuple #[.int .u8 0, .int .i64 0]) ∧ w = w' := by
  unfold fp
  have h1 : ¬ n < 0 := by omega
  go_enter Try.func44, Try.ntmps44
  go_wp2
  go_ret2
  exact ⟨rfl, rfl⟩

theorem pow_arith (n : Int) : (wrap64 (n.tmod 255 + 255)).tmod 255 = ((n % 255).toNat : Int) := by
  have h1 : n.tmod 255 = if 0 ≤ n then n % 255 else -((-n) % 255) := by
    split
    · rename_i h; exact Int.tmod_eq_emod_of_nonneg h
    · rename_i h
      have : n.tmod 255 = -((-n).tmod 255) := by rw [Int.neg_tmod]; omega
      rw [this, Int.tmod_eq_emod_of_nonneg (by omega)]
  rw [h1]
  have h2 : wrap64 ((if 0 ≤ n then n % 255 else -((-n) % 255)) + 255) = (if 0 ≤ n then n % 255 else -((-n) % 255)) + 255 := by
    unfold wrap64; split <;> omega
  rw [h2, Int.tmod_eq_emod_of_nonneg (by split <;> omega)]
  split <;> omega
theorem gf_pow_zz (b : Nat) (w : World) (h : GfAt w b) :
    Calls Try.prog 44 #[fp b, .int .u8 0, .int .i64 0] w fun e w' => e = .returned (.tuple #[.int .u8 1, .int .i64 0]) ∧ ∃ n, w' = w.drewN n := by
  unfold fp
  have h1 : w.cell? ⟨b, 510, none⟩ = some (.int .i64 0) := h.l 0 (by omega)
  have h3 : w.cell? ⟨b, 0, none⟩ = some (.int .u8 1) := h.e 0 (by omega)
  clear h
  go_enter Try.func44, Try.ntmps44
  go_wp2
  go_quiet (fail)
  go_wp2
  go_ret2
  exact ⟨rfl, _, rfl⟩
theorem gf_pow_nz (b : Nat) (x : F) (n : Int) (hx : x ≠ 0) (w : World) (h : GfAt w b) :
    Calls Try.prog 44 #[fp b, .int .u8 x.n, .int .i64 n] w fun e w' => e = .returned (.tuple #[.int .u8 (F.g (x.log * (n % 255).toNat)).n, .int .i64 0]) ∧ ∃ n, w' = w.drewN n := by
  unfold fp
  have h1 : w.cell? ⟨b, 510 + x.n, none⟩ = some (.int .i64 x.log) := h.l x.n x.lt
  have l1 := x.lt
  have l2 := F.log_lt x
  obtain ⟨m, hm⟩ : ∃ m : Nat, m = (n % 255).toNat := ⟨_, rfl⟩
  have lm : m < 255 := by omega
  have hp := pow_arith n
  rw [← hm] at hp ⊢
  rw [F.n_g]
  have n0 := F.n_ne_zero.2 hx
  have e1 : ((x.n : Int) == 0) = false := by simp; omega
  generalize x.log = k2 at *
  generalize x.n = k at *
  have h3 := h.e (k2 * m % 255) (by omega)
  rw [Nat.mod_mod] at h3
  have hmul : k2 * m ≤ 254 * 254 := Nat.mul_le_mul (by omega) (by omega)
  have s1 : IntKind.i64.wrap ((k2 : Int) * (m : Int)) = ((k2 * m : Nat) : Int) := by
    rw [IntKind.wrap_i64, ← Int.natCast_mul]; omega
  have s2 : ((k2 * m : Nat) : Int).tmod 255 = ((k2 * m % 255 : Nat) : Int) := by
    rw [Int.tmod_eq_emod_of_nonneg (by omega)]; omega
  have s3 : k2 * m % 255 < 510 := by omega
  clear hm hmul h hx
  go_enter Try.func44, Try.ntmps44
  go_wp2
  go_quiet (fail)
  go_wp2
  go_ret2
  exact ⟨rfl, _, rfl⟩

/-- what Pow answers -/
def powR (x : F) (n : Int) : F × Int := if x = 0 then (if n < 0 then (0, 10) else if 0 < n then (0, 0) else (1, 0)) else (F.g (x.log * (n % 255).toNat), 0)
theorem gf_pow (b : Nat) (x : F) (n : Int) (w : World) (h : GfAt w b) :
    Calls Try.prog 44 #[fp b, .int .u8 x.n, .int .i64 n] w fun e w' => e = .returned (.tuple #[.int .u8 (powR x n).1.n, .int .i64 (powR x n).2]) ∧ ∃ n, w' = w.drewN n := by
  unfold powR
  by_cases hx : x = 0
  · rw [if_pos hx]; subst hx
    rcases Int.lt_trichotomy n 0 with hn | hn | hn
    · rw [if_pos hn]; exact (gf_pow_zneg b n hn w).mono fun e w' ⟨he, hw⟩ => ⟨he, 0, hw.symm⟩
    · subst hn; rw [if_neg (by omega), if_neg (by omega)]; exact gf_pow_zz b w h
    · rw [if_neg (by omega), if_pos hn]; exact (gf_pow_zpos b n hn w).mono fun e w' ⟨he, hw⟩ => ⟨he, 0, hw.symm⟩
  · rw [if_neg hx]; exact gf_pow_nz b x n hx w h
theorem powR_inv (x : F) : powR x (-1) = (F.inv x, if x = 0 then 10 else 0) := by
  unfold powR F.inv
  by_cases hx : x = 0
  · simp [hx]
  · simp only [if_neg hx]
    congr 1
    have e : (((-1 : Int) % 255).toNat) = 254 := by decide
    rw [e, ← F.g_mod, ← F.g_mod (255 - x.log)]
    have := F.log_lt x
    congr 1; omega
theorem gf_inv (b : Nat) (x : F) (w : World) (h : GfAt w b) :
    Calls Try.prog 29 #[fp b, .int .u8 x.n] w fun e w' => e = .returned (.tuple #[.int .u8 (F.inv x).n, .int .i64 (if x = 0 then 10 else 0)]) ∧ ∃ n, w' = w.drewN n := by
  have hp := gf_pow b x (-1) w h
  rw [powR_inv] at hp
  have H := Lib.hid hp
  clear hp
  clear h
  generalize (if x = 0 then (10 : Int) else 0) = q at *
  generalize fp b = f at *
  go_enter Try.func29, Try.ntmps29
  go_wp2_with (go_at_call 44; refine H.out.mono ?_; rintro e w' ⟨rfl, n, rfl⟩)
  go_ret2
  exact ⟨rfl, _, rfl⟩
theorem gf_inv_nil (a : Int) (w : World) :
    Calls Try.prog 29 #[.pointer none, .int .u8 a] w fun e w' => e = .returned (.tuple #[.int .u8 0, .int .i64 1]) ∧ w = w' := by
  go_enter Try.func29, Try.ntmps29
  go_wp2_with (go_at_call 44; refine (gf_pow_nil _ _ _).mono ?_; rintro e w' ⟨rfl, rfl⟩)
  go_ret2
  exact ⟨rfl, rfl⟩
def zeroCells : Array Value := Array.replicate 510 (.int .u8 0) ++ Array.replicate 256 (.int .i64 0)
theorem zeroField (w : World) : (zeroValue 52).run Try.prog w = .ok (.agg zeroCells) w := by kernel_rfl
theorem wrapu8 (x : Nat) (h : x < 256) : IntKind.u8.wrap (x : Int) = x := by
  simp [IntKind.wrap, IntKind.bits, IntKind.signed]; omega

/-- the cells of a field of which i powers are there -/
structure Up (i : Nat) (c : Array Value) : Prop where
  sz : c.size = 766
  a : ∀ j, j < i → c[j]? = some (.int .u8 (ex j))
  b : ∀ j, j < i → c[j + 255]? = some (.int .u8 (ex j))
  l : ∀ j, j < i → c[510 + ex j]? = some (.int .i64 j)
  z : c[510]? = some (.int .i64 0)
theorem ex_inj {i j : Nat} (hi : i < 255) (hj : j < 255) (h : ex i = ex j) : i = j := by
  rw [← lg_ex hi, ← lg_ex hj, h]
theorem Up.zero : Up 0 zeroCells := ⟨by simp [zeroCells], fun j h => absurd h (Nat.not_lt_zero _), fun j h => absurd h (Nat.not_lt_zero _), fun j h => absurd h (Nat.not_lt_zero _), by simp [zeroCells]⟩
theorem set_eq (c : Array Value) (i : Nat) (v : Value) (h : i < c.size) : (c.setIfInBounds i v)[i]? = some v := by simp [h]
theorem set_ne (c : Array Value) (i k : Nat) (v : Value) (h : i ≠ k) : (c.setIfInBounds i v)[k]? = c[k]? := by simp [h]
theorem Up.step {i : Nat} {c : Array Value} (h : Up i c) (hi : i < 255) :
    Up (i + 1) (((c.setIfInBounds i (.int .u8 (ex i))).setIfInBounds (i + 255) (.int .u8 (ex i))).setIfInBounds (510 + ex i) (.int .i64 i)) := by
  have hs := h.sz
  have h1 := ex_lt hi
  have h2 := ex_pos hi
  refine ⟨by simpa using hs, fun j hj => ?_, fun j hj => ?_, fun j hj => ?_, ?_⟩
  · rw [set_ne _ _ _ _ (by omega)]
    by_cases e : j = i
    · subst e; rw [set_ne _ _ _ _ (by omega), set_eq _ _ _ (by omega)]
    · rw [set_ne _ _ _ _ (by omega), set_ne _ _ _ _ (by omega)]; exact h.a j (by omega)
  · rw [set_ne _ _ _ _ (by omega)]
    by_cases e : j = i
    · subst e; rw [set_eq _ _ _ (by simp; omega)]
    · rw [set_ne _ _ _ _ (by omega), set_ne _ _ _ _ (by omega)]; exact h.b j (by omega)
  · by_cases e : j = i
    · subst e; rw [set_eq _ _ _ (by simp; omega)]
    · have hne : ex j ≠ ex i := fun e2 => e (ex_inj (by omega) hi e2)
      have h3 := ex_pos (i := j) (by omega)
      rw [set_ne _ _ _ _ (by omega), set_ne _ _ _ _ (by omega), set_ne _ _ _ _ (by omega)]; exact h.l j (by omega)
  · rw [set_ne _ _ _ _ (by omega), set_ne _ _ _ _ (by omega), set_ne _ _ _ _ (by omega)]; exact h.z
theorem Up.get {i : Nat} {c : Array Value} (h : Up i c) (k : Nat) (hk : k < 766) : ∃ v, c[k]? = some v := ⟨_, Array.getElem?_eq_getElem (by rw [h.sz]; exact hk)⟩
theorem Up.done {w : World} {b : Nat} {c : Array Value} (h : Up 255 c) (hc : w.heap[b]? = some (.cells c 52 (0, 0))) : GfAt w b := by
  refine ⟨?_, fun i hi => ?_, fun x hx => ?_⟩
  · rcases Nat.lt_or_ge b w.heap.size with h' | h'
    · exact h'
    · simp [Array.getElem?_eq_none h'] at hc
  · simp only [World.cell?, hc, Option.isSome_none, Bool.false_eq_true, if_false]
    rcases Nat.lt_or_ge i 255 with h' | h'
    · rw [h.a i h', Nat.mod_eq_of_lt h']
    · have := h.b (i - 255) (by omega)
      rw [show i - 255 + 255 = i by omega] at this
      rw [this, show i % 255 = i - 255 by omega]
  · simp only [World.cell?, hc, Option.isSome_none, Bool.false_eq_true, if_false]
    by_cases h0 : x = 0
    · subst h0; exact h.z
    · have := h.l (lg x) (lg_lt hx)
      rwa [ex_lg hx h0] at this

set_option maxHeartbeats 400000 in
theorem put_calls (b b1 : Nat) (i x : Nat) (w : World) (hi : i < 255) (hx : x < 256) (hne : b ≠ b1) (v1 v2 v3 : Value)
    (hp : w.cell? ⟨b1, 0, none⟩ = some (.pointer (some ⟨b, 0, none⟩)))
    (h1 : w.cell? ⟨b, i, none⟩ = some v1) (h2 : w.cell? ⟨b, i + 255, none⟩ = some v2) (h3 : w.cell? ⟨b, 510 + x, none⟩ = some v3)
    (f1 : w.frozen? ⟨b, i, none⟩ = false) (f2 : w.frozen? ⟨b, i + 255, none⟩ = false) (f3 : w.frozen? ⟨b, 510 + x, none⟩ = false) :
    Calls Try.prog 24 #[.int .i64 i, .int .i64 x, .pointer (some ⟨b1, 0, none⟩)] w fun e w' => e = .returned (.tuple #[]) ∧ ∃ n, w' = (((w.setCell ⟨b, i, none⟩ (.int .u8 x)).setCell ⟨b, i + 255, none⟩ (.int .u8 x)).setCell ⟨b, 510 + x, none⟩ (.int .i64 i)).drewN n := by
  go_enter Try.func24, Try.ntmps24
  go_wp2
  go_region
  all_goals (go_wp2; go_end0; exact ⟨rfl, 1, rfl⟩)

theorem cells_of {w : World} {b : Nat} {c : Array Value} {t : TypeId} (hc : w.heap[b]? = some (.cells c t (0, 0))) (o : Nat) : w.cell? ⟨b, o, none⟩ = c[o]? := by simp [World.cell?, hc]
theorem free_of {w : World} {b : Nat} {c : Array Value} {t : TypeId} (hc : w.heap[b]? = some (.cells c t (0, 0))) (o : Nat) : w.frozen? ⟨b, o, none⟩ = false := by simp [World.frozen?, hc]
theorem block_lt {w : World} {b : Nat} {o : Obj} (h : w.heap[b]? = some o) : b < w.heap.size := by
  rcases Nat.lt_or_ge b w.heap.size with h' | h'
  · exact h'
  · simp [Array.getElem?_eq_none h'] at h
theorem block_set {w : World} {b : Nat} {c : Array Value} {t : TypeId} (hc : w.heap[b]? = some (.cells c t (0, 0))) (o : Nat) (u : Value) : (w.setCell ⟨b, o, none⟩ u).heap[b]? = some (.cells (c.setIfInBounds o u) t (0, 0)) := by
  have hlt := block_lt hc
  have h' : w.heap[b] = .cells c t (0, 0) := by simpa [Array.getElem?_eq_getElem hlt] using hc
  show (w.heap.modify b _)[b]? = _
  rw [Array.getElem?_eq_getElem (by simpa using hlt), Array.getElem_modify_self, h']
  rfl
/-- one power more -/
theorem put_up (b b1 : Nat) (i : Nat) (c : Array Value) (w : World) (hi : i < 255) (hne : b ≠ b1) (h : Up i c) (hc : w.heap[b]? = some (.cells c 52 (0, 0)))
    (hp : w.cell? ⟨b1, 0, none⟩ = some (.pointer (some ⟨b, 0, none⟩))) :
    Calls Try.prog 24 #[.int .i64 i, .int .i64 (ex i), .pointer (some ⟨b1, 0, none⟩)] w fun e w' => e = .returned (.tuple #[]) ∧
      (∃ c', Up (i + 1) c' ∧ w'.heap[b]? = some (.cells c' 52 (0, 0))) ∧ w'.heap.size = w.heap.size ∧ w'.os = w.os ∧ w'.tape = w.tape ∧ w'.output = w.output ∧ (∀ k, k ≠ b → w'.heap[k]? = w.heap[k]?) := by
  have h1 := ex_lt hi
  obtain ⟨v1, hv1⟩ := h.get i (by omega)
  obtain ⟨v2, hv2⟩ := h.get (i + 255) (by omega)
  obtain ⟨v3, hv3⟩ := h.get (510 + ex i) (by omega)
  refine (put_calls b b1 i (ex i) w hi h1 hne v1 v2 v3 hp ((cells_of hc _).trans hv1) ((cells_of hc _).trans hv2) ((cells_of hc _).trans hv3) (free_of hc _) (free_of hc _) (free_of hc _)).mono ?_
  rintro e w' ⟨rfl, n, rfl⟩
  refine ⟨rfl, ⟨_, h.step hi, ?_⟩, by simp [World.setCell], rfl, rfl, rfl, fun k hk => ?_⟩
  · exact block_set (block_set (block_set hc _ _) _ _) _ _
  · show ((((w.setCell _ _).setCell _ _).setCell _ _)).heap[k]? = _
    rw [Below.heap_setCell _ _ _ _ hk, Below.heap_setCell _ _ _ _ hk, Below.heap_setCell _ _ _ _ hk]
theorem xt_int (a : Nat) (ha : a < 256) : (if 255 < a * 2 then (a * 2) ^^^ 285 else a * 2) = xt a := by
  unfold xt
  by_cases h : a < 128
  · rw [if_neg (by omega), if_pos h]; omega
  · rw [if_pos (by omega), if_neg h, Nat.mul_comm]

def pw (i : Nat) : Nat := ex (i % 255)
theorem pw_succ {i : Nat} (h : i < 255) : pw (i + 1) = xt (pw i) := by
  unfold pw
  rcases Nat.lt_or_ge i 254 with h1 | h1
  · rw [Nat.mod_eq_of_lt h, Nat.mod_eq_of_lt (by omega), ex_succ h1]
  · have e : i = 254 := by omega
    subst e; exact ex_wrap.symm
theorem pw_lt (i : Nat) : pw i < 256 := ex_lt (Nat.mod_lt _ (by omega))
theorem ofInt_i64 (a : Nat) (ha : a < 9223372036854775808) : (BitVec.ofInt 64 (a : Int)).toNat = a := by
  rw [BitVec.ofInt_natCast, BitVec.toNat_ofNat]; exact Nat.mod_eq_of_lt (by omega)
theorem i64_xor_nat (a b : Nat) (ha : a < 9223372036854775808) (hb : b < 9223372036854775808) : bits .xor .i64 (a : Int) (b : Int) = ((a ^^^ b : Nat) : Int) := by
  have hx : a ^^^ b < 2 ^ 63 := Nat.xor_lt_two_pow (by omega) (by omega)
  show IntKind.i64.wrap ((BitVec.ofInt 64 (a : Int) ^^^ BitVec.ofInt 64 (b : Int)).toNat : Int) = _
  rw [BitVec.toNat_xor, ofInt_i64 a ha, ofInt_i64 b hb, IntKind.wrap_i64]
  omega

set_option maxRecDepth 100000 in
set_option maxHeartbeats 400000 in
theorem new_any (w : World) :
    Calls Try.prog 6 #[] w fun e w' => e = .returned (fp w.heap.size) ∧ Below w.heap.size w w' ∧ GfAt w' w.heap.size := by
  have hbd := zeroField
  unfold fp
  go_enter Try.func6, Try.ntmps6
  go_wp2
  go_loopw [8, 3] (fun k x wr => ∃ i : Nat, i ≤ 255 ∧ k = .int .i64 i ∧ x = .int .i64 (pw i) ∧ (∃ c, Up i c ∧ wr.heap[w.heap.size]? = some (.cells c 52 (0, 0))) ∧ wr.cell? ⟨w.heap.size + 1, 0, none⟩ = some (.pointer (some ⟨w.heap.size, 0, none⟩)) ∧ Below w.heap.size w wr) (fun k _ _ => 255 - (intOf k).toNat)
  case atStart =>
    refine ⟨0, by omega, rfl, rfl, ⟨_, Up.zero, ?_⟩, ?_, ?_⟩
    · exact (Below.heap_alloc _ _ _ (by simp)).trans (heap_alloc_new _ _)
    · go_simp
    · exact ((Below.refl _ _).alloc (Nat.le_refl _) _).alloc (by simp) _
  case round =>
    obtain ⟨i, hi, rfl, rfl, ⟨c, hup, hc⟩, hp, hb⟩ := hrel
    have hlt := block_lt hc
    have hx := pw_lt i
    by_cases hi2 : i < 255
    · have hpu := put_up w.heap.size (w.heap.size + 1) i c wr hi2 (by omega) hup hc hp
      have e1 : ex i = pw i := by unfold pw; rw [Nat.mod_eq_of_lt hi2]
      rw [e1] at hpu
      have hs := pw_succ hi2
      have HX := Lib.hid (xt_int (pw i) hx)
      have HS := Lib.hid hs
      have HB := Lib.hid hb
      have HP := Lib.hid hpu
      clear hs hb hpu e1 hup hc hlt
      by_cases hg : 255 < pw i * 2
      · have e2 : bits .xor .i64 ((pw i : Int) * 2) 285 = ((pw (i + 1) : Nat) : Int) := by
          have hxor := i64_xor_nat (pw i * 2) 285 (by omega) (by omega)
          rw [HS.out, ← HX.out, if_pos hg, ← hxor]; simp
        have E2 := Lib.hid e2
        clear e2
        go_wp2_with (go_at_call 24; refine HP.out.mono ?_; rintro e w' ⟨rfl, hh⟩; have HH := Lib.hid hh; clear hh)
        obtain ⟨⟨c', hu', hc'⟩, hsz, hos, htp, hou, hbl⟩ := HH.out
        have hb' : Below w.heap.size w w' := HB.out.trans ⟨hos, htp, hou, by omega, fun k hk => hbl k (by omega)⟩
        have hp' := (World.cell?_of_block (a := ⟨w.heap.size + 1, 0, none⟩) (hbl (w.heap.size + 1) (by omega))).trans hp
        go_roundw
        case rel => exact ⟨i + 1, by omega, by go_num, by rw [E2.out], ⟨c', hu', hc'⟩, hp', hb'⟩
        case measure => simp [intOf]; omega
      · have e2 : ((pw i : Int) * 2) = ((pw (i + 1) : Nat) : Int) := by
          rw [HS.out, ← HX.out, if_neg hg]; simp
        have E2 := Lib.hid e2
        clear e2
        go_wp2_with (go_at_call 24; refine HP.out.mono ?_; rintro e w' ⟨rfl, hh⟩; have HH := Lib.hid hh; clear hh)
        obtain ⟨⟨c', hu', hc'⟩, hsz, hos, htp, hou, hbl⟩ := HH.out
        have hb' : Below w.heap.size w w' := HB.out.trans ⟨hos, htp, hou, by omega, fun k hk => hbl k (by omega)⟩
        have hp' := (World.cell?_of_block (a := ⟨w.heap.size + 1, 0, none⟩) (hbl (w.heap.size + 1) (by omega))).trans hp
        go_roundw
        case rel => exact ⟨i + 1, by omega, by go_num, by rw [E2.out], ⟨c', hu', hc'⟩, hp', hb'⟩
        case measure => simp [intOf]; omega
    · have hi3 : i = 255 := by omega
      subst hi3
      have hd := hup.done hc
      have HD := Lib.hid hd
      clear hd
      go_wp2
      go_ret
      exact ⟨rfl, hb, HD.out⟩
end Go.Proofs.Ytbepadepepoilaa
