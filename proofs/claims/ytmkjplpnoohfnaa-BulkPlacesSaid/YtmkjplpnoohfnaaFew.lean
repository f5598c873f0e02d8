/- aumbrylaw06.Few, walked; what the laws on shards know of memory. -/
import Derived.Test.YtmkjplpnoohfnaaRowW
import Derived.Test.YtmkjplpnoohfnaaOpen2
namespace Go.Proofs.Ytmkjplpnoohfnaa
open Go.RowKit
set_option linter.unusedVariables false
set_option linter.unusedSimpArgs false
theorem Rr.below {w w' : World} {A : Option Addr} {c : Nat} {ls : List (List F)} (h : Rr w A c ls) (hb : Below w.heap.size w w') : Rr w' A c ls := by
  obtain ⟨vs, h1, h2⟩ := h.ex
  exact ⟨vs, h1.below hb, h2.below hb⟩
theorem Rr.nil (w : World) : Rr w none 0 [] := ⟨[], Sl.nil w, Bss.nil w⟩
theorem MadeR.rr {w w' : World} {A : Option Addr} {n c : Nat} {rs : List Row} {ls : List (List F)} (h : MadeR w w' A n c rs) (hl : lsts rs = ls) : Rr w' A c ls := ⟨vals rs, h.sl, by rw [← hl]; exact h.gr.bss⟩
theorem MadeR.len {w w' : World} {A : Option Addr} {n c : Nat} {rs : List Row} {ls : List (List F)} (h : MadeR w w' A n c rs) (hl : lsts rs = ls) : n = ls.length := by
  have := own_len h.sp
  rw [length_vals] at this
  rw [← hl, length_lsts]; exact this.symm
/-- what a law knows: since when; the field; lists of shards; lists of bytes -/
structure Lk (w W : World) (f : Option Nat) (rr : List (Option Addr × Nat × List (List F))) (ss : List (Option Addr × Nat × List F)) : Prop where
  since : Below w.heap.size w W
  f : ∀ b, f = some b → GfAt W b
  r : ∀ x, x ∈ rr → Rr W x.1 x.2.1 x.2.2
  s : ∀ x, x ∈ ss → Bs W x.1 x.2.1 x.2.2
section
variable {w W W' : World} {f : Option Nat} {rr : List (Option Addr × Nat × List (List F))} {ss : List (Option Addr × Nat × List F)}
theorem Lk.below (h : Lk w W f rr ss) (hb : Below W.heap.size W W') : Lk w W' f rr ss :=
  ⟨h.since.trans (hb.mono h.since.size), fun b e => (h.f b e).below hb, fun x hx => (h.r x hx).below hb, fun x hx => Sl.below (h.s x hx) hb⟩
theorem Lk.alloc (h : Lk w W f rr ss) (o : Obj) : Lk w (W.alloc o) f rr ss := h.below (below_alloc W o)
theorem Lk.drewN (h : Lk w W f rr ss) (n : Nat) : Lk w (W.drewN n) f rr ss := h.below (below_drew0 W n)
theorem Lk.drew (h : Lk w W f rr ss) : Lk w W.drew f rr ss := h.below (below_drew0 W 1)
theorem Lk.start (w : World) : Lk w w none [] [] := ⟨Below.refl _ _, (fun b h => by cases h), (fun x h => by cases h), (fun x h => by cases h)⟩
theorem Lk.rr' (h : Lk w W f rr ss) {A : Option Addr} {c : Nat} {ls : List (List F)} (hr : Rr W A c ls) : Lk w W f ((A, c, ls) :: rr) ss :=
  ⟨h.since, h.f, fun x hx => by
    rcases List.mem_cons.1 hx with e | e
    · subst e; exact hr
    · exact h.r x e, h.s⟩
theorem Lk.bs' (h : Lk w W f rr ss) {A : Option Addr} {c : Nat} {l : List F} (hs : Bs W A c l) : Lk w W f rr ((A, c, l) :: ss) :=
  ⟨h.since, h.f, h.r, fun x hx => by
    rcases List.mem_cons.1 hx with e | e
    · subst e; exact hs
    · exact h.s x e⟩
theorem Lk.withF (h : Lk w W f rr ss) {b : Nat} (hg : GfAt W b) : Lk w W (some b) rr ss := ⟨h.since, (fun b' e => by cases e; exact hg), h.r, h.s⟩
theorem Lk.gf {b : Nat} (h : Lk w W (some b) rr ss) : GfAt W b := h.f b rfl
theorem Lk.at {A : Option Addr} {c : Nat} {ls : List (List F)} (h : Lk w W f rr ss) (hx : (A, c, ls) ∈ rr) : Rr W A c ls := h.r _ hx
theorem Lk.sat {A : Option Addr} {c : Nat} {l : List F} (h : Lk w W f rr ss) (hx : (A, c, l) ∈ ss) : Bs W A c l := h.s _ hx
end
def FewP (k m : Int) (ls : List (List F)) : Prop := ls.length ≤ 32 ∧ (∀ i, i < ls.length → lenAt ls i ≤ 30) ∧ (okkm k m → k + m ≤ 30)
theorem FewP.le {k m : Int} {ls : List (List F)} (h : FewP k m ls) : ∀ l, l ∈ ls → l.length ≤ 100000 := fun l hl => by
  obtain ⟨i, hi, rfl⟩ := List.mem_iff_getElem.1 hl
  have := h.2.1 i hi
  unfold lenAt at this
  rw [List.getD_eq_getElem?_getD, List.getElem?_eq_getElem hi] at this
  exact Nat.le_trans this (by decide)
set_option maxRecDepth 1000000 in
theorem few_any (k m : Int) (A : Option Addr) (c : Nat) (ls : List (List F)) (r : Bool) (w : World) (hk : i64ok k) (hm : i64ok m) (ha : Rr w A c ls) (hr : r = true ↔ FewP k m ls) :
    Calls Try.prog 70 #[.int .i64 k, .int .i64 m, .slice A ls.length c] w fun e w' => e = .returned (.bool r) ∧ Below w.heap.size w w' := by
  obtain ⟨vs, h1, h2⟩ := ha.ex
  have hlc : ls.length ≤ c := by have := h1.le; rw [h2.1] at this; exact this
  have hcm := h1.mx
  unfold maxLen at hcm
  have HA := Lib.hid h1
  have HB := Lib.hid h2
  have YES : Hid (FewP k m ls → r = true) := hr.2
  have NO : Hid (¬ FewP k m ls → r = false) := fun h => by
    cases r with
    | true => exact absurd (hr.1 rfl) h
    | false => rfl
  clear ha h1 h2 hr
  obtain ⟨n, hn⟩ : ∃ n, ls.length = n := ⟨_, rfl⟩
  rw [hn] at hlc ⊢
  have HN := Lib.hid hn
  clear hn
  by_cases h32 : n ≤ 32
  rotate_left
  · have R : Hid (r = false) := NO.out fun h => h32 (by rw [← HN.out]; exact h.1)
    have d0 : (32 : Int) < (n : Int) := by omega
    go_enter Try.func70, Try.ntmps70
    go_wp2
    go_ret
    exact ⟨by rw [R.out]; rfl, Below.refl _ _⟩
  have d0 : ¬ (32 : Int) < (n : Int) := by omega
  go_enter Try.func70, Try.ntmps70
  go_wp2
  go_loopw [7] (fun v wr => ∃ i : Nat, i ≤ n ∧ v = .int .i64 i ∧ (∀ j, j < i → lenAt ls j ≤ 30) ∧ wr = w) (fun v _ => n - (intOf v).toNat)
  case atStart => exact ⟨0, Nat.zero_le _, rfl, fun j h => absurd h (Nat.not_lt_zero j), rfl⟩
  case round =>
    obtain ⟨i, hi, rfl, hal, rfl⟩ := hrel
    have HAL := Lib.hid hal
    clear hal
    by_cases hlt : i < n
    · obtain ⟨A2, c2, h2, _⟩ := HB.out.len (i := i) (by rw [HN.out]; exact hlt)
      obtain ⟨b, o, hA, _, hc⟩ := Sl.at' HA.out (by rw [HB.out.1, HN.out]; omega)
      subst hA
      have y2 := hc i _ h2
      have hit : (i : Int) < (n : Int) := by omega
      clear hc h2
      by_cases he : lenAt ls i ≤ 30
      · have HAL2 : Hid (∀ j, j < i + 1 → lenAt ls j ≤ 30) := fun j hj => by
          rcases Nat.lt_or_ge j i with h | h
          · exact HAL.out j h
          · rw [show j = i by omega]; exact he
        have e0 : ¬ (30 : Int) < (lenAt ls i : Int) := by omega
        go_wp2
        go_roundw
        case rel => exact ⟨i + 1, by omega, by go_num, HAL2.out, by first | rfl | trivial⟩
        case measure => simp [intOf]; omega
      · have R : Hid (r = false) := NO.out fun h => he (h.2.1 i (by rw [HN.out]; exact hlt))
        have e0 : (30 : Int) < (lenAt ls i : Int) := by omega
        go_wp2
        go_ret
        exact ⟨by rw [R.out]; rfl, Below.refl _ _⟩
    · obtain rfl : i = n := by omega
      have hge : ¬ (i : Int) < (i : Int) := by omega
      have HAL2 : Hid (∀ j, j < ls.length → lenAt ls j ≤ 30) := fun j hj => HAL.out j (by rw [← HN.out]; exact hj)
      by_cases hok : okkm k m
      · have CK : Hid (∀ w, Calls Try.prog 38 #[.int .i64 k, .int .i64 m] w fun e w' => e = .returned (.int .i64 0) ∧ w = w') := fun w => cauchy_check_ok k m hok w
        have hs : k + m ≤ 256 := hok.2.2
        have hs1 : 1 ≤ k := hok.1
        have hs2 : 0 ≤ m := hok.2.1
        have R : Hid (r = decide (k + m ≤ 30)) := by
          by_cases h : k + m ≤ 30
          · show _ = _; rw [YES.out ⟨by rw [HN.out]; exact h32, HAL2.out, fun _ => h⟩, decide_eq_true h]
          · show _ = _; rw [NO.out fun q => h (q.2.2 hok), decide_eq_false h]
        clear hok
        go_wp2_with (go_at_call 38; (with_reducible refine (CK.out _).mono ?_); rintro e w1 ⟨rfl, rfl⟩)
        go_ret
        exact ⟨by rw [R.out]; rfl, Below.refl _ _⟩
      · have CK : Hid (∀ w, Calls Try.prog 38 #[.int .i64 k, .int .i64 m] w fun e w' => e = .returned (.int .i64 50) ∧ w = w') := fun w => cauchy_check_bad k m hk hm hok w
        have R : Hid (r = true) := YES.out ⟨by rw [HN.out]; exact h32, HAL2.out, fun h => absurd h hok⟩
        clear hok
        go_wp2_with (go_at_call 38; (with_reducible refine (CK.out _).mono ?_); rintro e w1 ⟨rfl, rfl⟩)
        go_ret
        exact ⟨by rw [R.out]; rfl, Below.refl _ _⟩
end Go.Proofs.Ytmkjplpnoohfnaa
