/- aumbrylaw06.Few, walked; what the laws on shards know of memory. What bulk's calls and the document's answer: at any input, in the laws' words. Lists of shards: what their cells hold; literals. -/
import Derived.Test.YtbepadepepoilaaRowc
import Derived.Test.YtbepadepepoilaaOpen2
namespace Go.Proofs.Ytbepadepepoilaa
/-! aumbrylaw06.Few, walked; what the laws on shards know of memory. -/
section
open Go.RowKit
set_option linter.unusedVariables false
set_option linter.unusedSimpArgs false
theorem Rr.below {w w' : World} {A : Option Addr} {c : Nat} {ls : List (List F)} (h : Rr w A c ls) (hb : Below w.heap.size w w') : Rr w' A c ls := by
  obtain ⟨vs, h1, h2⟩ := h.ex
  exact ⟨vs, h1.below hb, h2.below hb⟩
theorem Rr.nil (w : World) : Rr w none 0 [] := ⟨[], Sl.nil w, Bss.nil w⟩
theorem MadeR.rr {w w' : World} {A : Option Addr} {n c : Nat} {rs : List Row} {ls : List (List F)} (h : MadeR w w' A n c rs) (hl : lsts rs = ls) : Rr w' A c ls := ⟨vals rs, h.sl, by rw [← hl]; exact h.gr.bss⟩
theorem MadeR.len {w w' : World} {A : Option Addr} {n c : Nat} {rs : List Row} {ls : List (List F)} (h : MadeR w w' A n c rs) (hl : lsts rs = ls) : n = ls.length := by
  have := own_len h.sp
  rw [length_vals] at this
  rw [← hl, length_lsts]; exact this.symm
/-- what a law knows: since when; the field; lists of shards; lists of bytes -/
structure Lk (w W : World) (f : Option Nat) (rr : List (Option Addr × Nat × List (List F))) (ss : List (Option Addr × Nat × List F)) : Prop where
  since : Below w.heap.size w W
  f : ∀ b, f = some b → GfAt W b
  r : ∀ x, x ∈ rr → Rr W x.1 x.2.1 x.2.2
  s : ∀ x, x ∈ ss → Bs W x.1 x.2.1 x.2.2
section
variable {w W W' : World} {f : Option Nat} {rr : List (Option Addr × Nat × List (List F))} {ss : List (Option Addr × Nat × List F)}
theorem Lk.below (h : Lk w W f rr ss) (hb : Below W.heap.size W W') : Lk w W' f rr ss :=
  ⟨h.since.trans (hb.mono h.since.size), fun b e => (h.f b e).below hb, fun x hx => (h.r x hx).below hb, fun x hx => Sl.below (h.s x hx) hb⟩
theorem Lk.alloc (h : Lk w W f rr ss) (o : Obj) : Lk w (W.alloc o) f rr ss := h.below (below_alloc W o)
theorem Lk.drewN (h : Lk w W f rr ss) (n : Nat) : Lk w (W.drewN n) f rr ss := h.below (below_drew0 W n)
theorem Lk.drew (h : Lk w W f rr ss) : Lk w W.drew f rr ss := h.below (below_drew0 W 1)
theorem Lk.start (w : World) : Lk w w none [] [] := ⟨Below.refl _ _, (fun b h => by cases h), (fun x h => by cases h), (fun x h => by cases h)⟩
theorem Lk.rr' (h : Lk w W f rr ss) {A : Option Addr} {c : Nat} {ls : List (List F)} (hr : Rr W A c ls) : Lk w W f ((A, c, ls) :: rr) ss :=
  ⟨h.since, h.f, fun x hx => by
    rcases List.mem_cons.1 hx with e | e
    · subst e; exact hr
    · exact h.r x e, h.s⟩
theorem Lk.bs' (h : Lk w W f rr ss) {A : Option Addr} {c : Nat} {l : List F} (hs : Bs W A c l) : Lk w W f rr ((A, c, l) :: ss) :=
  ⟨h.since, h.f, h.r, fun x hx => by
    rcases List.mem_cons.1 hx with e | e
    · subst e; exact hs
    · exact h.s x e⟩
theorem Lk.withF (h : Lk w W f rr ss) {b : Nat} (hg : GfAt W b) : Lk w W (some b) rr ss := ⟨h.since, (fun b' e => by cases e; exact hg), h.r, h.s⟩
theorem Lk.gf {b : Nat} (h : Lk w W (some b) rr ss) : GfAt W b := h.f b rfl
theorem Lk.at {A : Option Addr} {c : Nat} {ls : List (List F)} (h : Lk w W f rr ss) (hx : (A, c, ls) ∈ rr) : Rr W A c ls := h.r _ hx
theorem Lk.sat {A : Option Addr} {c : Nat} {l : List F} (h : Lk w W f rr ss) (hx : (A, c, l) ∈ ss) : Bs W A c l := h.s _ hx
end
def FewP (k m : Int) (ls : List (List F)) : Prop := ls.length ≤ 32 ∧ (∀ i, i < ls.length → lenAt ls i ≤ 30) ∧ (okkm k m → k + m ≤ 30)
theorem FewP.le {k m : Int} {ls : List (List F)} (h : FewP k m ls) : ∀ l, l ∈ ls → l.length ≤ 100000 := fun l hl => by
  obtain ⟨i, hi, rfl⟩ := List.mem_iff_getElem.1 hl
  have := h.2.1 i hi
  unfold lenAt at this
  rw [List.getD_eq_getElem?_getD, List.getElem?_eq_getElem hi] at this
  exact Nat.le_trans this (by decide)
set_option maxRecDepth 1000000 in
theorem few_any (k m : Int) (A : Option Addr) (c : Nat) (ls : List (List F)) (r : Bool) (w : World) (hk : i64ok k) (hm : i64ok m) (ha : Rr w A c ls) (hr : r = true ↔ FewP k m ls) :
    Calls Try.prog 20 #[.int .i64 k, .int .i64 m, .slice A ls.length c] w fun e w' => e = .returned (.bool r) ∧ Below w.heap.size w w' := by
  obtain ⟨vs, h1, h2⟩ := ha.ex
  have hlc : ls.length ≤ c := by have := h1.le; rw [h2.1] at this; exact this
  have hcm := h1.mx
  unfold maxLen at hcm
  have HA := Lib.hid h1
  have HB := Lib.hid h2
  have YES : Hid (FewP k m ls → r = true) := hr.2
  have NO : Hid (¬ FewP k m ls → r = false) := fun h => by
    cases r with
    | true => exact absurd (hr.1 rfl) h
    | false => rfl
  clear ha h1 h2 hr
  obtain ⟨n, hn⟩ : ∃ n, ls.length = n := ⟨_, rfl⟩
  rw [hn] at hlc ⊢
  have HN := Lib.hid hn
  clear hn
  by_cases h32 : n ≤ 32
  rotate_left
  · have R : Hid (r = false) := NO.out fun h => h32 (by rw [← HN.out]; exact h.1)
    have d0 : (32 : Int) < (n : Int) := by omega
    go_enter Try.func20, Try.ntmps20
    go_wp2
    go_ret
    exact ⟨by rw [R.out]; rfl, Below.refl _ _⟩
  have d0 : ¬ (32 : Int) < (n : Int) := by omega
  go_enter Try.func20, Try.ntmps20
  go_wp2
  go_loopw [7] (fun v wr => ∃ i : Nat, i ≤ n ∧ v = .int .i64 i ∧ (∀ j, j < i → lenAt ls j ≤ 30) ∧ wr = w) (fun v _ => n - (intOf v).toNat)
  case atStart => exact ⟨0, Nat.zero_le _, rfl, fun j h => absurd h (Nat.not_lt_zero j), rfl⟩
  case round =>
    obtain ⟨i, hi, rfl, hal, rfl⟩ := hrel
    have HAL := Lib.hid hal
    clear hal
    by_cases hlt : i < n
    · obtain ⟨A2, c2, h2, _⟩ := HB.out.len (i := i) (by rw [HN.out]; exact hlt)
      obtain ⟨b, o, hA, _, hc⟩ := Sl.at' HA.out (by rw [HB.out.1, HN.out]; omega)
      subst hA
      have y2 := hc i _ h2
      have hit : (i : Int) < (n : Int) := by omega
      clear hc h2
      by_cases he : lenAt ls i ≤ 30
      · have HAL2 : Hid (∀ j, j < i + 1 → lenAt ls j ≤ 30) := fun j hj => by
          rcases Nat.lt_or_ge j i with h | h
          · exact HAL.out j h
          · rw [show j = i by omega]; exact he
        have e0 : ¬ (30 : Int) < (lenAt ls i : Int) := by omega
        go_wp2
        go_roundw
        case rel => exact ⟨i + 1, by omega, by go_num, HAL2.out, by first | rfl | trivial⟩
        case measure => simp [intOf]; omega
      · have R : Hid (r = false) := NO.out fun h => he (h.2.1 i (by rw [HN.out]; exact hlt))
        have e0 : (30 : Int) < (lenAt ls i : Int) := by omega
        go_wp2
        go_ret
        exact ⟨by rw [R.out]; rfl, Below.refl _ _⟩
    · obtain rfl : i = n := by omega
      have hge : ¬ (i : Int) < (i : Int) := by omega
      have HAL2 : Hid (∀ j, j < ls.length → lenAt ls j ≤ 30) := fun j hj => HAL.out j (by rw [← HN.out]; exact hj)
      by_cases hok : okkm k m
      · have CK : Hid (∀ w, Calls Try.prog 36 #[.int .i64 k, .int .i64 m] w fun e w' => e = .returned (.int .i64 0) ∧ w = w') := fun w => cauchy_check_ok k m hok w
        have hs : k + m ≤ 256 := hok.2.2
        have hs1 : 1 ≤ k := hok.1
        have hs2 : 0 ≤ m := hok.2.1
        have R : Hid (r = decide (k + m ≤ 30)) := by
          by_cases h : k + m ≤ 30
          · show _ = _; rw [YES.out ⟨by rw [HN.out]; exact h32, HAL2.out, fun _ => h⟩, decide_eq_true h]
          · show _ = _; rw [NO.out fun q => h (q.2.2 hok), decide_eq_false h]
        clear hok
        go_wp2_with (go_at_call 36; (with_reducible refine (CK.out _).mono ?_); rintro e w1 ⟨rfl, rfl⟩)
        go_ret
        exact ⟨by rw [R.out]; rfl, Below.refl _ _⟩
      · have CK : Hid (∀ w, Calls Try.prog 36 #[.int .i64 k, .int .i64 m] w fun e w' => e = .returned (.int .i64 50) ∧ w = w') := fun w => cauchy_check_bad k m hk hm hok w
        have R : Hid (r = true) := YES.out ⟨by rw [HN.out]; exact h32, HAL2.out, fun h => absurd h hok⟩
        clear hok
        go_wp2_with (go_at_call 36; (with_reducible refine (CK.out _).mono ?_); rintro e w1 ⟨rfl, rfl⟩)
        go_ret
        exact ⟨by rw [R.out]; rfl, Below.refl _ _⟩
end
/-! What bulk's calls and the document's answer: at any input, in the laws' words. -/
section
open Go.RowKit
set_option linter.unusedVariables false
set_option linter.unusedSimpArgs false
/-- shards and an error are handed back -/
def ShR (w : World) (L : List (List F)) (E : Int) (e : Ending) (w' : World) : Prop := ∃ A c, e = .returned (.tuple #[.slice A L.length c, .int .i64 E]) ∧ Rr w' A c L ∧ Below w.heap.size w w'
/-- shards alone -/
def ShO (w : World) (L : List (List F)) (e : Ending) (w' : World) : Prop := ∃ A c, e = .returned (.slice A L.length c) ∧ Rr w' A c L ∧ Below w.heap.size w w'
def EncCase (k m : Int) (ls : List (List F)) (L : List (List F)) (E : Int) : Prop := (okkm k m ∧ Alk ls k ∧ E = 0 ∧ L = enc k.toNat m.toNat ls) ∨ (okkm k m ∧ ¬ Alk ls k ∧ E = 60 ∧ L = []) ∨ (¬ okkm k m ∧ E = 50 ∧ L = [])
theorem okkm_nat {k m : Int} (h : okkm k m) : ∃ k' m' : Nat, k = k' ∧ m = m' := by
  obtain ⟨h1, h2, _⟩ := h
  exact ⟨k.toNat, m.toNat, by omega, by omega⟩
theorem length_enc {k m : Nat} {ls : List (List F)} (h : ls.length = k) : (enc k m ls).length = k + m := by unfold enc; rw [List.length_append, length_accR, h]
theorem MadeR.shr {w w' : World} {A : Option Addr} {n c : Nat} {rs : List Row} {ls : List (List F)} (h : MadeR w w' A n c rs) (hl : lsts rs = ls) (E : Int) : ShR w ls E (.returned (.tuple #[.slice A n c, .int .i64 E])) w' := by
  have hn := h.len hl
  subst hn
  exact ⟨A, c, rfl, h.rr hl, h.bel⟩
theorem shr_nil {w w' : World} (E : Int) (h : Below w.heap.size w w') : ShR w [] E (.returned (.tuple #[.slice none 0 0, .int .i64 E])) w' := ⟨none, 0, rfl, Rr.nil _, h⟩
theorem enc_out (k m : Int) (ls : List (List F)) (hk : i64ok k) (hm : i64ok m) (hn : ls.length ≤ 900) (hl : ∀ l, l ∈ ls → l.length ≤ 100000) : ∃ L E, EncCase k m ls L E ∧
    (∀ b A c w, GfAt w b → Rr w A c ls → Calls Try.prog 40 #[fp b, .int .i64 k, .int .i64 m, .slice A ls.length c] w (ShR w L E)) ∧
    (∀ A c w, Rr w A c ls → Calls Try.prog 43 #[.int .i64 k, .int .i64 m, .slice A ls.length c] w (ShR w L E)) := by
  by_cases hkm : okkm k m
  · obtain ⟨k', m', rfl, rfl⟩ := okkm_nat hkm
    by_cases ha : Alk ls k'
    · refine ⟨enc k' m' ls, 0, .inl ⟨hkm, ha, rfl, rfl⟩, fun b A c w hg hr => ?_, fun A c w hr => ?_⟩
      · obtain ⟨vs, h1, h2⟩ := hr.ex
        have hlen : ls.length = k' := by have := ha.1; omega
        rw [hlen]
        exact (bulk_encode b k' m' A c vs ls w hkm hg h1 h2 ha hl).mono fun e w' ⟨A', c', rs, he, h3, h4⟩ => by rw [he]; exact h4.shr h3 0
      · obtain ⟨vs, h1, h2⟩ := hr.ex
        have hlen : ls.length = k' := by have := ha.1; omega
        rw [hlen]
        exact (ref06_encode k' m' A c vs ls w hkm h1 h2 ha hl).mono fun e w' ⟨A', c', rs, he, h3, h4⟩ => by rw [he]; exact h4.shr h3 0
    · refine ⟨[], 60, .inr (.inl ⟨hkm, ha, rfl, rfl⟩), fun b A c w hg hr => ?_, fun A c w hr => ?_⟩
      · obtain ⟨vs, h1, h2⟩ := hr.ex
        exact (bulk_encode_no b k' m' A _ c vs ls w hkm hg h1 h2 rfl (by omega) ha).mono fun e w' ⟨he, hb⟩ => by rw [he]; exact shr_nil 60 hb
      · obtain ⟨vs, h1, h2⟩ := hr.ex
        exact (ref06_encode_no k' m' A _ c vs ls w hkm h1 h2 rfl (by omega) ha).mono fun e w' ⟨he, hb⟩ => by rw [he]; exact shr_nil 60 hb
  · refine ⟨[], 50, .inr (.inr ⟨hkm, rfl, rfl⟩), fun b A c w hg hr => ?_, fun A c w hr => ?_⟩
    · exact (bulk_encode_bad b k m A _ c w hk hm hkm).mono fun e w' ⟨he, hb⟩ => by rw [he]; exact shr_nil 50 hb
    · exact (ref06_encode_bad k m A _ c w hk hm hkm).mono fun e w' ⟨he, hb⟩ => by rw [he]; exact shr_nil 50 hb
/-- a bool and an error -/
def BoR (w : World) (r : Bool) (E : Int) (e : Ending) (w' : World) : Prop := e = .returned (.tuple #[.bool r, .int .i64 E]) ∧ Below w.heap.size w w'
def FitCase (k m : Int) (ls : List (List F)) (r : Bool) (E : Int) : Prop := (okkm k m ∧ Alk ls (k + m) ∧ E = 0 ∧ (r = true ↔ enc k.toNat m.toNat (ls.take k.toNat) = ls)) ∨ (okkm k m ∧ ¬ Alk ls (k + m) ∧ E = 60 ∧ r = false) ∨ (¬ okkm k m ∧ E = 50 ∧ r = false)
def UpdCase (k m j : Int) (l1 l2 : List F) (ls : List (List F)) (L : List (List F)) (E : Int) : Prop := (okkm k m ∧ (Alk (l1 :: l2 :: ls) (m + 2) ∧ 0 ≤ j ∧ j < k) ∧ E = 0 ∧ L = updR k.toNat j.toNat l1 l2 ls) ∨ (okkm k m ∧ ¬ (Alk (l1 :: l2 :: ls) (m + 2) ∧ 0 ≤ j ∧ j < k) ∧ E = 60 ∧ L = []) ∨ (¬ okkm k m ∧ E = 50 ∧ L = [])
theorem copied_out (ls : List (List F)) (hn : ls.length ≤ 900) (hl : ∀ l, l ∈ ls → l.length ≤ 100000) (A : Option Addr) (c : Nat) (w : World) (hr : Rr w A c ls) : Calls Try.prog 58 #[.slice A ls.length c] w (ShO w ls) := by
  obtain ⟨vs, h1, h2⟩ := hr.ex
  exact (ref06_copied A _ c vs ls w h1 h2 rfl (by omega) hl).mono fun e w' ⟨A', c', rs, he, h3, h4⟩ => ⟨A', c', he, h4.rr h3, h4.bel⟩
theorem same_out (ls ls' : List (List F)) (r : Bool) (hr : r = true ↔ ls = ls') (hn : ls.length ≤ 900) (A : Option Addr) (c : Nat) (A' : Option Addr) (c' : Nat) (w : World) (h : Rr w A c ls) (h' : Rr w A' c' ls') : Calls Try.prog 23 #[.slice A ls.length c, .slice A' ls'.length c'] w fun e w' => e = .returned (.bool r) ∧ Below w.heap.size w w' := by
  obtain ⟨vs, h1, h2⟩ := h.ex
  obtain ⟨vs', h3, h4⟩ := h'.ex
  exact ref06_same A _ c vs ls A' _ c' vs' ls' r w h1 h2 h3 h4 rfl rfl (by omega) hr
end
/-! Lists of shards: what their cells hold; literals. -/
section
open Go.RowKit
set_option linter.unusedVariables false
theorem Rr.get {w : World} {A : Option Addr} {c : Nat} {ls : List (List F)} (h : Rr w A c ls) {i : Nat} (hi : i < ls.length) : ∃ b o A2 c2, A = some ⟨b, o, none⟩ ∧ w.cell? ⟨b, o + i, none⟩ = some (.slice A2 (lenAt ls i) c2) ∧ Bs w A2 c2 (ls.getD i []) := by
  obtain ⟨vs, h1, h2⟩ := h.ex
  obtain ⟨A2, c2, h3, h4⟩ := h2.len hi
  obtain ⟨b, o, hA, _, hc⟩ := Sl.at' h1 (by rw [h2.1]; omega)
  exact ⟨b, o, A2, c2, hA, hc i _ h3, h4⟩
theorem Rr.le {w : World} {A : Option Addr} {c : Nat} {ls : List (List F)} (h : Rr w A c ls) : ls.length ≤ c ∧ c ≤ maxLen := by
  obtain ⟨vs, h1, h2⟩ := h.ex
  exact ⟨by have := h1.le; rwa [h2.1] at this, h1.mx⟩
theorem Rr.take {w : World} {A : Option Addr} {c : Nat} {ls : List (List F)} (h : Rr w A c ls) (k : Nat) : Rr w A c (ls.take k) := by
  obtain ⟨vs, h1, h2⟩ := h.ex
  exact ⟨vs.take k, h1.take k, h2.take k⟩
theorem Rr.drop {w : World} {A : Option Addr} {c : Nat} {ls : List (List F)} (h : Rr w A c ls) {k : Nat} (hk : k ≤ ls.length) : Rr w (rowA A c k) (c - k) (ls.drop k) := by
  obtain ⟨vs, h1, h2⟩ := h.ex
  have := h1.row (lo := k) (m := vs.length - k) (by have := h2.1; omega)
  rw [List.take_of_length_le (by rw [List.length_drop]; exact Nat.le_refl _)] at this
  exact ⟨vs.drop k, this, h2.drop k⟩
theorem lit1 {w : World} {n : Nat} {v : Value} {a : F} (h : n = w.heap.size) (hv : v = bv a) : Bs (w.alloc (.cells #[v] 5)) (some ⟨n, 0, none⟩) 1 [a] := by
  subst hv
  exact lit_bs (l := [a]) h rfl rfl (Nat.le_of_ble_eq_true rfl)
theorem lit_spine {w : World} {n : Nat} (vs : List Value) (cs : Array Value) (hn : n = w.heap.size) (hcs : cs = vs.toArray) (hl : vs.length ≤ 1000) : Sl (w.alloc (.cells cs 22)) (some ⟨n, 0, none⟩) vs.length vs := by
  subst hn hcs
  exact own_sl (own_lit w vs vs.length rfl hl)
theorem lit_rr1 {w : World} {n1 n2 : Nat} {a : F} {v : Value} (h1 : n1 = w.heap.size) (h2 : n2 = w.heap.size + 1) (hv : v = bv a) : Rr ((w.alloc (.cells #[v] 5)).alloc (.cells #[.slice (some ⟨n1, 0, none⟩) 1 1] 22)) (some ⟨n2, 0, none⟩) 1 [[a]] := by
  subst hv
  refine ⟨[.slice (some ⟨n1, 0, none⟩) 1 1], lit_spine _ _ (by rw [size_alloc']; exact h2) rfl (by simp), ?_⟩
  exact (Bss.nil _).cons (n := 1) (Sl.alloc (lit1 h1 rfl) _) rfl
theorem lit_rr2 {w : World} {n1 n2 n3 : Nat} {a b : F} {u v : Value} (h1 : n1 = w.heap.size) (h2 : n2 = w.heap.size + 1) (h3 : n3 = w.heap.size + 2) (hu : u = bv a) (hv : v = bv b) : Rr (((w.alloc (.cells #[u] 5)).alloc (.cells #[v] 5)).alloc (.cells #[.slice (some ⟨n1, 0, none⟩) 1 1, .slice (some ⟨n2, 0, none⟩) 1 1] 22)) (some ⟨n3, 0, none⟩) 2 [[a], [b]] := by
  subst hu hv
  refine ⟨[.slice (some ⟨n1, 0, none⟩) 1 1, .slice (some ⟨n2, 0, none⟩) 1 1], lit_spine _ _ (by rw [size_alloc', size_alloc']; exact h3) rfl (by simp), ?_⟩
  exact ((Bss.nil _).cons (n := 1) (Sl.alloc (lit1 (by rw [size_alloc']; exact h2) rfl) _) rfl).cons (n := 1) (Sl.alloc (Sl.alloc (lit1 h1 rfl) _) _) rfl
end
end Go.Proofs.Ytbepadepepoilaa
