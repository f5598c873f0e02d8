/- BulkLinear, BulkScales, walked. -/
import Derived.Test.YtbepadepepoilaaEnc
import Derived.Deep.QuietTactic
import Derived.BigQuiet
namespace Go.Proofs.Ytbepadepepoilaa
open Go.RowKit
set_option linter.unusedVariables false
set_option linter.unusedSimpArgs false
theorem EncCase.ok {k m : Int} {ls L : List (List F)} (h : EncCase k m ls L 0) : ∃ k' m' : Nat, k = k' ∧ m = m' ∧ okkm k' m' ∧ Alk ls k' ∧ L = enc k' m' ls ∧ 1 ≤ k' ∧ k' + m' ≤ 256 := by
  rcases h with ⟨h1, h2, _, h3⟩ | ⟨_, _, h, _⟩ | ⟨_, h, _⟩
  · obtain ⟨k', m', rfl, rfl⟩ := okkm_nat h1
    obtain ⟨a, b, c⟩ := id h1
    exact ⟨k', m', rfl, rfl, h1, h2, h3, by omega, by omega⟩
  · exact absurd h (by decide)
  · exact absurd h (by decide)
theorem EncCase.ok' {k m : Nat} {ls L : List (List F)} (h : EncCase k m ls L 0) : Alk ls k ∧ L = enc k m ls := by
  rcases h with ⟨h1, h2, _, h3⟩ | ⟨_, _, h, _⟩ | ⟨_, h, _⟩
  · exact ⟨h2, h3⟩
  · exact absurd h (by decide)
  · exact absurd h (by decide)
theorem EncCase.zero {k m : Nat} {ls L : List (List F)} {E : Int} (h : EncCase k m ls L E) (hkm : okkm k m) (ha : Alk ls k) : E = 0 ∧ L = enc k m ls := by
  rcases h with ⟨_, _, h, h'⟩ | ⟨_, h, _⟩ | ⟨h, _⟩
  · exact ⟨h, h'⟩
  · exact absurd ha h
  · exact absurd hkm h
/-- bulk.Encode, where shards fit -/
theorem enc_yes {k m : Nat} {ls : List (List F)} (hkm : okkm k m) (ha : Alk ls k) (hl : ∀ l, l ∈ ls → l.length ≤ 100000) (b : Nat) (A : Option Addr) (c : Nat) (w : World) (hg : GfAt w b) (hr : Rr w A c ls) : Calls Try.prog 40 #[fp b, .int .i64 k, .int .i64 m, .slice A ls.length c] w (ShR w (enc k m ls) 0) := by
  obtain ⟨h1, h2, h3⟩ := id hkm
  have h4 := ha.1
  obtain ⟨L, E, hc, hb, _⟩ := enc_out k m ls ⟨by omega, by omega⟩ ⟨by omega, by omega⟩ (by omega) hl
  obtain ⟨rfl, rfl⟩ := hc.zero hkm ha
  exact hb b A c w hg hr
theorem le_mapR {f : Nat → Nat → F → F} {ls : List (List F)} {B : Nat} (h : ∀ l, l ∈ ls → l.length ≤ B) : ∀ l, l ∈ mapR f ls → l.length ≤ B := fun l hm => by
  obtain ⟨i, hi⟩ := List.mem_iff_getElem?.1 hm
  unfold mapR at hi
  rw [List.getElem?_mapIdx] at hi
  cases e : ls[i]? with
  | none => rw [e] at hi; cases hi
  | some l' =>
    rw [e] at hi
    simp only [Option.map_some, Option.some.injEq] at hi
    rw [← hi, length_tab]
    exact h _ (List.mem_of_getElem? e)
theorem scale_case {k m : Int} {la X Y : List (List F)} {E G : Int} (y : F) (h : EncCase k m la X E) (h' : EncCase k m (mulL la y) Y G) : G = E ∧ Y = mulL X y := by
  have hiff : Alk (mulL la y) k ↔ Alk la k := alk_mapR _
  rcases h with ⟨h1, h2, rfl, rfl⟩ | ⟨h1, h2, rfl, rfl⟩ | ⟨h1, rfl, rfl⟩
  · rcases h' with ⟨_, _, rfl, rfl⟩ | ⟨_, k2, _⟩ | ⟨k1, _⟩
    · obtain ⟨k', m', rfl, rfl⟩ := okkm_nat h1
      obtain ⟨g1, _, _⟩ := h1
      exact ⟨rfl, enc_mulL y h2.eql (by omega)⟩
    · exact absurd (hiff.2 h2) k2
    · exact absurd h1 k1
  · rcases h' with ⟨_, k2, _⟩ | ⟨_, _, rfl, rfl⟩ | ⟨k1, _⟩
    · exact absurd (hiff.1 k2) h2
    · exact ⟨rfl, rfl⟩
    · exact absurd h1 k1
  · rcases h' with ⟨k1, _⟩ | ⟨k1, _⟩ | ⟨_, rfl, rfl⟩
    · exact absurd k1 h1
    · exact absurd k1 h1
    · exact ⟨rfl, rfl⟩
theorem EncCase.le {k m : Int} {ls X : List (List F)} {E : Int} (h : EncCase k m ls X E) (hl : ∀ l, l ∈ ls → l.length ≤ 100000) : ∀ l, l ∈ X → l.length ≤ 100000 := by
  rcases h with ⟨h1, h2, rfl, rfl⟩ | ⟨_, _, _, rfl⟩ | ⟨_, _, rfl⟩
  · obtain ⟨k', m', rfl, rfl⟩ := okkm_nat h1
    obtain ⟨g1, g2, g3⟩ := h1
    have q := h2.eql
    refine (q.enc (by omega) m').le ?_
    refine hl _ ?_
    rw [List.getD_eq_getElem?_getD, List.getElem?_eq_getElem (by rw [q.len]; omega)]
    exact List.getElem_mem _
  · intro l h; cases h
  · intro l h; cases h
end Go.Proofs.Ytbepadepepoilaa
