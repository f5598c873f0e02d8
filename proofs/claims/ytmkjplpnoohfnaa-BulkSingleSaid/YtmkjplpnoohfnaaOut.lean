/- What bulk's calls and the document's answer: at any input, in the laws' words. -/
import Derived.Test.YtmkjplpnoohfnaaFew
namespace Go.Proofs.Ytmkjplpnoohfnaa
open Go.RowKit
set_option linter.unusedVariables false
set_option linter.unusedSimpArgs false
/-- shards and an error are handed back -/
def ShR (w : World) (L : List (List F)) (E : Int) (e : Ending) (w' : World) : Prop := ∃ A c, e = .returned (.tuple #[.slice A L.length c, .int .i64 E]) ∧ Rr w' A c L ∧ Below w.heap.size w w'
/-- shards alone -/
def ShO (w : World) (L : List (List F)) (e : Ending) (w' : World) : Prop := ∃ A c, e = .returned (.slice A L.length c) ∧ Rr w' A c L ∧ Below w.heap.size w w'
def EncCase (k m : Int) (ls : List (List F)) (L : List (List F)) (E : Int) : Prop := (okkm k m ∧ Alk ls k ∧ E = 0 ∧ L = enc k.toNat m.toNat ls) ∨ (okkm k m ∧ ¬ Alk ls k ∧ E = 60 ∧ L = []) ∨ (¬ okkm k m ∧ E = 50 ∧ L = [])
theorem okkm_nat {k m : Int} (h : okkm k m) : ∃ k' m' : Nat, k = k' ∧ m = m' := by
  obtain ⟨h1, h2, _⟩ := h
  exact ⟨k.toNat, m.toNat, by omega, by omega⟩
theorem length_enc {k m : Nat} {ls : List (List F)} (h : ls.length = k) : (enc k m ls).length = k + m := by unfold enc; rw [List.length_append, length_accR, h]
theorem MadeR.shr {w w' : World} {A : Option Addr} {n c : Nat} {rs : List Row} {ls : List (List F)} (h : MadeR w w' A n c rs) (hl : lsts rs = ls) (E : Int) : ShR w ls E (.returned (.tuple #[.slice A n c, .int .i64 E])) w' := by
  have hn := h.len hl
  subst hn
  exact ⟨A, c, rfl, h.rr hl, h.bel⟩
theorem shr_nil {w w' : World} (E : Int) (h : Below w.heap.size w w') : ShR w [] E (.returned (.tuple #[.slice none 0 0, .int .i64 E])) w' := ⟨none, 0, rfl, Rr.nil _, h⟩
theorem enc_out (k m : Int) (ls : List (List F)) (hk : i64ok k) (hm : i64ok m) (hn : ls.length ≤ 900) (hl : ∀ l, l ∈ ls → l.length ≤ 100000) : ∃ L E, EncCase k m ls L E ∧
    (∀ b A c w, GfAt w b → Rr w A c ls → Calls Try.prog 71 #[fp b, .int .i64 k, .int .i64 m, .slice A ls.length c] w (ShR w L E)) ∧
    (∀ A c w, Rr w A c ls → Calls Try.prog 72 #[.int .i64 k, .int .i64 m, .slice A ls.length c] w (ShR w L E)) := by
  by_cases hkm : okkm k m
  · obtain ⟨k', m', rfl, rfl⟩ := okkm_nat hkm
    by_cases ha : Alk ls k'
    · refine ⟨enc k' m' ls, 0, .inl ⟨hkm, ha, rfl, rfl⟩, fun b A c w hg hr => ?_, fun A c w hr => ?_⟩
      · obtain ⟨vs, h1, h2⟩ := hr.ex
        have hlen : ls.length = k' := by have := ha.1; omega
        rw [hlen]
        exact (bulk_encode b k' m' A c vs ls w hkm hg h1 h2 ha hl).mono fun e w' ⟨A', c', rs, he, h3, h4⟩ => by rw [he]; exact h4.shr h3 0
      · obtain ⟨vs, h1, h2⟩ := hr.ex
        have hlen : ls.length = k' := by have := ha.1; omega
        rw [hlen]
        exact (ref06_encode k' m' A c vs ls w hkm h1 h2 ha hl).mono fun e w' ⟨A', c', rs, he, h3, h4⟩ => by rw [he]; exact h4.shr h3 0
    · refine ⟨[], 60, .inr (.inl ⟨hkm, ha, rfl, rfl⟩), fun b A c w hg hr => ?_, fun A c w hr => ?_⟩
      · obtain ⟨vs, h1, h2⟩ := hr.ex
        exact (bulk_encode_no b k' m' A _ c vs ls w hkm hg h1 h2 rfl (by omega) ha).mono fun e w' ⟨he, hb⟩ => by rw [he]; exact shr_nil 60 hb
      · obtain ⟨vs, h1, h2⟩ := hr.ex
        exact (ref06_encode_no k' m' A _ c vs ls w hkm h1 h2 rfl (by omega) ha).mono fun e w' ⟨he, hb⟩ => by rw [he]; exact shr_nil 60 hb
  · refine ⟨[], 50, .inr (.inr ⟨hkm, rfl, rfl⟩), fun b A c w hg hr => ?_, fun A c w hr => ?_⟩
    · exact (bulk_encode_bad b k m A _ c w hk hm hkm).mono fun e w' ⟨he, hb⟩ => by rw [he]; exact shr_nil 50 hb
    · exact (ref06_encode_bad k m A _ c w hk hm hkm).mono fun e w' ⟨he, hb⟩ => by rw [he]; exact shr_nil 50 hb
/-- a bool and an error -/
def BoR (w : World) (r : Bool) (E : Int) (e : Ending) (w' : World) : Prop := e = .returned (.tuple #[.bool r, .int .i64 E]) ∧ Below w.heap.size w w'
def FitCase (k m : Int) (ls : List (List F)) (r : Bool) (E : Int) : Prop := (okkm k m ∧ Alk ls (k + m) ∧ E = 0 ∧ (r = true ↔ enc k.toNat m.toNat (ls.take k.toNat) = ls)) ∨ (okkm k m ∧ ¬ Alk ls (k + m) ∧ E = 60 ∧ r = false) ∨ (¬ okkm k m ∧ E = 50 ∧ r = false)
theorem fits_out (k m : Int) (ls : List (List F)) (hk : i64ok k) (hm : i64ok m) (hn : ls.length ≤ 900) (hl : ∀ l, l ∈ ls → l.length ≤ 100000) : ∃ r E, FitCase k m ls r E ∧
    (∀ b A c w, GfAt w b → Rr w A c ls → Calls Try.prog 73 #[fp b, .int .i64 k, .int .i64 m, .slice A ls.length c] w (BoR w r E)) ∧
    (∀ A c w, Rr w A c ls → Calls Try.prog 74 #[.int .i64 k, .int .i64 m, .slice A ls.length c] w (BoR w r E)) := by
  by_cases hkm : okkm k m
  · obtain ⟨k', m', rfl, rfl⟩ := okkm_nat hkm
    by_cases ha : Alk ls ((k' : Int) + (m' : Int))
    · refine ⟨decide (enc k' m' (ls.take k') = ls), 0, .inl ⟨hkm, ha, rfl, by simp⟩, fun b A c w hg hr => ?_, fun A c w hr => ?_⟩
      · obtain ⟨vs, h1, h2⟩ := hr.ex
        exact bulk_fits b k' m' A _ c vs ls _ w hkm hg h1 h2 ha rfl hl (by simp)
      · obtain ⟨vs, h1, h2⟩ := hr.ex
        exact ref06_fits k' m' A _ c vs ls _ w hkm h1 h2 ha rfl hl (by simp)
    · refine ⟨false, 60, .inr (.inl ⟨hkm, ha, rfl, rfl⟩), fun b A c w hg hr => ?_, fun A c w hr => ?_⟩
      · obtain ⟨vs, h1, h2⟩ := hr.ex
        exact bulk_fits_no b k' m' A _ c vs ls w hkm hg h1 h2 rfl (by omega) ha
      · obtain ⟨vs, h1, h2⟩ := hr.ex
        exact ref06_fits_no k' m' A _ c vs ls w hkm h1 h2 rfl (by omega) ha
  · refine ⟨false, 50, .inr (.inr ⟨hkm, rfl, rfl⟩), fun b A c w hg hr => ?_, fun A c w hr => ?_⟩
    · exact bulk_fits_bad b k m A _ c w hk hm hkm
    · exact ref06_fits_bad k m A _ c w hk hm hkm
def UpdCase (k m j : Int) (l1 l2 : List F) (ls : List (List F)) (L : List (List F)) (E : Int) : Prop := (okkm k m ∧ (Alk (l1 :: l2 :: ls) (m + 2) ∧ 0 ≤ j ∧ j < k) ∧ E = 0 ∧ L = updR k.toNat j.toNat l1 l2 ls) ∨ (okkm k m ∧ ¬ (Alk (l1 :: l2 :: ls) (m + 2) ∧ 0 ≤ j ∧ j < k) ∧ E = 60 ∧ L = []) ∨ (¬ okkm k m ∧ E = 50 ∧ L = [])
theorem upd_out (k m j : Int) (l1 l2 : List F) (ls : List (List F)) (hk : i64ok k) (hm : i64ok m) (hj : i64ok j) (hn : ls.length ≤ 900) (hl1 : l1.length ≤ 100000) : ∃ L E, UpdCase k m j l1 l2 ls L E ∧
    (∀ b A1 c1 A2 c2 A c w, GfAt w b → Bs w A1 c1 l1 → Bs w A2 c2 l2 → Rr w A c ls → Calls Try.prog 76 #[fp b, .int .i64 k, .int .i64 m, .int .i64 j, .slice A1 l1.length c1, .slice A2 l2.length c2, .slice A ls.length c] w (ShR w L E)) ∧
    (∀ A1 c1 A2 c2 A c w, Bs w A1 c1 l1 → Bs w A2 c2 l2 → Rr w A c ls → Calls Try.prog 77 #[.int .i64 k, .int .i64 m, .int .i64 j, .slice A1 l1.length c1, .slice A2 l2.length c2, .slice A ls.length c] w (ShR w L E)) := by
  by_cases hkm : okkm k m
  · obtain ⟨k', m', rfl, rfl⟩ := okkm_nat hkm
    by_cases ha : Alk (l1 :: l2 :: ls) ((m' : Int) + 2) ∧ 0 ≤ j ∧ j < (k' : Int)
    · obtain ⟨j', rfl⟩ := Int.eq_ofNat_of_zero_le ha.2.1
      have hlen : ls.length = m' := by have := ha.1.1; simp only [List.length_cons] at this; omega
      have hl2 : l2.length = l1.length := ha.1.2 1 (by simp only [List.length_cons]; omega)
      refine ⟨updR k' j' l1 l2 ls, 0, .inl ⟨hkm, ha, rfl, rfl⟩, fun b A1 c1 A2 c2 A c w hg h1 h2 hr => ?_, fun A1 c1 A2 c2 A c w h1 h2 hr => ?_⟩
      · obtain ⟨vs, h3, h4⟩ := hr.ex
        rw [hlen, hl2]
        exact (bulk_update b k' m' j' _ A1 c1 l1 A2 c2 l2 A c vs ls w hkm hg h1 h2 h3 h4 (by omega) ha.1 rfl hl1).mono fun e w' ⟨A', c', rs, he, h3, h4⟩ => by rw [he]; exact h4.shr h3 0
      · obtain ⟨vs, h3, h4⟩ := hr.ex
        rw [hlen, hl2]
        exact (ref06_update k' m' j' _ A1 c1 l1 A2 c2 l2 A c vs ls w hkm h1 h2 h3 h4 (by omega) ha.1 rfl hl1).mono fun e w' ⟨A', c', rs, he, h3, h4⟩ => by rw [he]; exact h4.shr h3 0
    · refine ⟨[], 60, .inr (.inl ⟨hkm, ha, rfl, rfl⟩), fun b A1 c1 A2 c2 A c w hg h1 h2 hr => ?_, fun A1 c1 A2 c2 A c w h1 h2 hr => ?_⟩
      · obtain ⟨vs, h3, h4⟩ := hr.ex
        exact (bulk_update_no b k' m' j A1 _ c1 l1 A2 _ c2 l2 A _ c vs ls w hkm hj hg h1 h2 h3 h4 rfl hn rfl rfl ha).mono fun e w' ⟨he, hb⟩ => by rw [he]; exact shr_nil 60 hb
      · obtain ⟨vs, h3, h4⟩ := hr.ex
        exact (ref06_update_no k' m' j A1 _ c1 l1 A2 _ c2 l2 A _ c vs ls w hkm h1 h2 h3 h4 rfl hn rfl rfl ha).mono fun e w' ⟨he, hb⟩ => by rw [he]; exact shr_nil 60 hb
  · refine ⟨[], 50, .inr (.inr ⟨hkm, rfl, rfl⟩), fun b A1 c1 A2 c2 A c w hg h1 h2 hr => ?_, fun A1 c1 A2 c2 A c w h1 h2 hr => ?_⟩
    · obtain ⟨vs, h3, h4⟩ := hr.ex
      exact (bulk_update_bad b k m j A1 _ c1 l1 A2 _ c2 l2 A _ c vs ls w hk hm hkm h3 h4 rfl hn).mono fun e w' ⟨he, hb⟩ => by rw [he]; exact shr_nil 50 hb
    · exact (ref06_update_bad k m j A1 _ c1 A2 _ c2 A _ c w hk hm hkm).mono fun e w' ⟨he, hb⟩ => by rw [he]; exact shr_nil 50 hb
theorem copied_out (ls : List (List F)) (hn : ls.length ≤ 900) (hl : ∀ l, l ∈ ls → l.length ≤ 100000) (A : Option Addr) (c : Nat) (w : World) (hr : Rr w A c ls) : Calls Try.prog 79 #[.slice A ls.length c] w (ShO w ls) := by
  obtain ⟨vs, h1, h2⟩ := hr.ex
  exact (ref06_copied A _ c vs ls w h1 h2 rfl (by omega) hl).mono fun e w' ⟨A', c', rs, he, h3, h4⟩ => ⟨A', c', he, h4.rr h3, h4.bel⟩
theorem same_out (ls ls' : List (List F)) (r : Bool) (hr : r = true ↔ ls = ls') (hn : ls.length ≤ 900) (A : Option Addr) (c : Nat) (A' : Option Addr) (c' : Nat) (w : World) (h : Rr w A c ls) (h' : Rr w A' c' ls') : Calls Try.prog 75 #[.slice A ls.length c, .slice A' ls'.length c'] w fun e w' => e = .returned (.bool r) ∧ Below w.heap.size w w' := by
  obtain ⟨vs, h1, h2⟩ := h.ex
  obtain ⟨vs', h3, h4⟩ := h'.ex
  exact ref06_same A _ c vs ls A' _ c' vs' ls' r w h1 h2 h3 h4 rfl rfl (by omega) hr
end Go.Proofs.Ytmkjplpnoohfnaa
