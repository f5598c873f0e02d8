/- erase.Decode at any input. -/
import Derived.Test.YtbepadepepoilaaErd
namespace Go.Proofs.Ytbepadepepoilaa
open Go.RowKit
set_option linter.unusedVariables false
set_option linter.unusedSimpArgs false
theorem dec_out (k m : Int) (has : List Bool) (ls : List (List F)) (hk : i64ok k) (hm : i64ok m) (hl : ∀ l, l ∈ ls → l.length ≤ 100000) : ∃ X E, DecCase k m has ls X E ∧
    ∀ b Ah ch A c w, GfAt w b → Sl w Ah ch (has.map Value.bool) → Rr w A c ls → Calls Try.prog 21 #[fp b, .int .i64 k, .int .i64 m, .slice Ah has.length ch, .slice A ls.length c] w (ShR w X E) := by
  by_cases hkm : okkm k m
  rotate_left
  · exact ⟨[], 50, .inl ⟨hkm, rfl, rfl⟩, fun b Ah ch A c w _ _ _ => (decode_bad b k m Ah _ ch A _ c w hk hm hkm).mono fun e w' ⟨he, hb⟩ => by rw [he]; exact shr_nil 50 hb⟩
  obtain ⟨k, m, rfl, rfl⟩ := okkm_nat hkm
  obtain ⟨g1, g2, g3⟩ := id hkm
  by_cases hn : (has.length : Int) = (k : Int) + (m : Int) ∧ (ls.length : Int) = (k : Int) + (m : Int)
  rotate_left
  · exact ⟨[], 60, .inr (.inl ⟨hkm, hn, rfl, rfl⟩), fun b Ah ch A c w hg _ _ => (decode_len b k m Ah _ ch A _ c w hkm hg hn).mono fun e w' ⟨he, hb⟩ => by rw [he]; exact shr_nil 60 hb⟩
  have hn1 : has.length = k + m := by omega
  have hn2 : ls.length = k + m := by omega
  have FD : ∀ Ah ch A c w, Sl w Ah ch (has.map Value.bool) → Rr w A c ls → Calls Try.prog 38 #[.int .i64 k, .slice Ah (k + m) ch, .slice A (k + m) c] w fun e w' => ∃ L E, FndCase k has ls L E ∧ ∃ A' c', e = .returned (.tuple #[.slice A' L.length c', .int .i64 E]) ∧ Sl w' A' c' (nvs L) ∧ Below w.heap.size w w' := fun Ah ch A c w h1 h2 =>
    erase_found k Ah ch has A c ls (k + m) w h1 h2 hn1 hn2 (by omega) (by omega)
  by_cases hs : SameL has ls has.length
  rotate_left
  · refine ⟨[], 60, .inr (.inr (.inl ⟨hkm, hn, hs, rfl, rfl⟩)), fun b Ah ch A c w hg h1 h2 => ?_⟩
    rw [hn1, hn2]
    refine (decode_fail b k m (k + m) Ah ch has A c ls w hkm hg h1 h2 60 (by decide) rfl fun w' hw => (FD Ah ch A c w' (h1.below hw) (h2.below hw)).mono ?_).mono fun e w' ⟨he, hb⟩ => by rw [he]; exact shr_nil 60 hb
    rintro e w'' ⟨L, E, ⟨_, rfl, rfl⟩ | ⟨h, _⟩ | ⟨h, _⟩, A', c', he, h3, hb⟩
    · exact ⟨A', c', he, hb⟩
    · exact absurd h hs
    · exact absurd h hs
  by_cases hc : k ≤ (idx has has.length).length
  rotate_left
  · refine ⟨[], 70, .inr (.inr (.inr (.inl ⟨hkm, hn, hs, by omega, rfl, rfl⟩))), fun b Ah ch A c w hg h1 h2 => ?_⟩
    rw [hn1, hn2]
    refine (decode_fail b k m (k + m) Ah ch has A c ls w hkm hg h1 h2 70 (by decide) rfl fun w' hw => (FD Ah ch A c w' (h1.below hw) (h2.below hw)).mono ?_).mono fun e w' ⟨he, hb⟩ => by rw [he]; exact shr_nil 70 hb
    rintro e w'' ⟨L, E, ⟨h, _⟩ | ⟨_, _, rfl, rfl⟩ | ⟨_, h, _⟩, A', c', he, h3, hb⟩
    · exact absurd hs h
    · exact ⟨A', c', he, hb⟩
    · exact absurd h hc
  have hL := fst_len (k := k) hc
  have hlt : ∀ x, x ∈ fst k has → x < k + m := fun x hx => by rw [← hn1]; exact fst_lt hx
  have hgi : ∀ i, i < k → (fst k has).getD i 0 ∈ fst k has := fun i hi => getD_mem (by omega)
  have hrow : ∀ i, i < k → lenAt ls ((fst k has).getD i 0) = lenAt ls ((fst k has).getD 0 0) := fun i hi => hs _ _ (fst_mem (hgi i hi)) (fst_mem (hgi 0 (by omega)))
  obtain ⟨Len, hLen⟩ : ∃ Len, lenAt ls ((fst k has).getD 0 0) = Len := ⟨_, rfl⟩
  rw [hLen] at hrow
  have hLb : Len ≤ 100000 := by
    have h0 := hlt _ (hgi 0 (by omega))
    rw [← hLen]
    unfold lenAt
    rw [List.getD_eq_getElem?_getD (l := ls), List.getElem?_eq_getElem (by omega)]
    exact hl _ (List.getElem_mem _)
  obtain ⟨V, hV⟩ := pk_inv (k := k) (Ls := fst k has) (by omega) hL (fst_nodup k has) fun x hx => by have := hlt x hx; omega
  refine ⟨enc k m (decD k Len V ls (fst k has)), 0, .inr (.inr (.inr (.inr ⟨hkm, hn, hs, by omega, rfl, decD k Len V ls (fst k has), Len, eql_decD _ _ _ _ _, rfl, hLb, hrow, fun i hi x hx => dec_agree hV (by omega) (fun i hi => hlt _ (hgi i hi)) hi hx⟩))), fun b Ah ch A c w hg h1 h2 => ?_⟩
  rw [hn1, hn2]
  refine decode_main b k m (k + m) Ah ch has A c ls w hkm hg h1 h2 (fst k has) Len V hV rfl hn2 hL (fst_nodup k has) hlt hrow hLb fun w' hw => (FD Ah ch A c w' (h1.below hw) (h2.below hw)).mono ?_
  rintro e w'' ⟨L, E, ⟨h, _⟩ | ⟨_, h, _⟩ | ⟨_, _, rfl, rfl⟩, A', c', he, h3, hb⟩
  · exact absurd hs h
  · omega
  · have hL' : ((idx has has.length).take k).length = k := hL
    rw [hL'] at he
    exact ⟨A', c', he, h3, hb⟩
theorem DecCase.len {k m : Int} {has : List Bool} {ls X : List (List F)} {E : Int} (h : DecCase k m has ls X E) : X.length ≤ 900 := by
  rcases h with ⟨_, _, rfl⟩ | ⟨_, _, _, rfl⟩ | ⟨_, _, _, _, rfl⟩ | ⟨_, _, _, _, _, rfl⟩ | ⟨⟨h1, h2, h3⟩, _, _, _, _, D, L, q1, rfl, _⟩
  · exact Nat.zero_le _
  · exact Nat.zero_le _
  · exact Nat.zero_le _
  · exact Nat.zero_le _
  · rw [length_enc q1.len]; omega
/-- an answer is told by the shards that are there, and by nothing else -/
theorem DecCase.same {k m : Int} {has : List Bool} {ls ls' X X' : List (List F)} {E E' : Int} (h : DecCase k m has ls X E) (h' : DecCase k m has ls' X' E') (hn : ls.length = ls'.length) (hl : ∀ i, i ∈ idx has has.length → lenAt ls i = lenAt ls' i) (hx : ∀ i, i ∈ fst k.toNat has → ∀ x, x < lenAt ls i → at2 ls i x = at2 ls' i x) : E = E' ∧ X = X' := by
  have hS : SameL has ls has.length ↔ SameL has ls' has.length :=
    ⟨fun h i j hi hj => by rw [← hl i hi, ← hl j hj]; exact h i j hi hj, fun h i j hi hj => by rw [hl i hi, hl j hj]; exact h i j hi hj⟩
  rcases h with ⟨a, rfl, rfl⟩ | ⟨a, b, rfl, rfl⟩ | ⟨a, b, c, rfl, rfl⟩ | ⟨a, b, c, d, rfl, rfl⟩ | ⟨a, b, c, d, rfl, hd⟩
  · rcases h' with ⟨_, rfl, rfl⟩ | ⟨a', _⟩ | ⟨a', _⟩ | ⟨a', _⟩ | ⟨a', _⟩
    · exact ⟨rfl, rfl⟩
    all_goals exact absurd a' a
  · rcases h' with ⟨a', _⟩ | ⟨_, _, rfl, rfl⟩ | ⟨_, b', _⟩ | ⟨_, b', _⟩ | ⟨_, b', _⟩
    · exact absurd a a'
    · exact ⟨rfl, rfl⟩
    all_goals exact absurd ⟨b'.1, by rw [hn]; exact b'.2⟩ b
  · rcases h' with ⟨a', _⟩ | ⟨_, b', _⟩ | ⟨_, _, _, rfl, rfl⟩ | ⟨_, _, c', _⟩ | ⟨_, _, c', _⟩
    · exact absurd a a'
    · exact absurd ⟨b.1, by rw [← hn]; exact b.2⟩ b'
    · exact ⟨rfl, rfl⟩
    all_goals exact absurd (hS.2 c') c
  · rcases h' with ⟨a', _⟩ | ⟨_, b', _⟩ | ⟨_, _, c', _⟩ | ⟨_, _, _, _, rfl, rfl⟩ | ⟨_, _, _, d', _⟩
    · exact absurd a a'
    · exact absurd ⟨b.1, by rw [← hn]; exact b.2⟩ b'
    · exact absurd (hS.1 c) c'
    · exact ⟨rfl, rfl⟩
    · omega
  · rcases h' with ⟨a', _⟩ | ⟨_, b', _⟩ | ⟨_, _, c', _⟩ | ⟨_, _, _, d', _⟩ | ⟨_, _, _, _, rfl, hd'⟩
    · exact absurd a a'
    · exact absurd ⟨b.1, by rw [← hn]; exact b.2⟩ b'
    · exact absurd (hS.1 c) c'
    · omega
    · refine ⟨rfl, ?_⟩
      obtain ⟨k, m, rfl, rfl⟩ := okkm_nat a
      obtain ⟨g1, g2, g3⟩ := a
      obtain ⟨D, L, q1, rfl, q3, q4, q5⟩ := hd
      obtain ⟨D', L', p1, rfl, p3, p4, p5⟩ := hd'
      simp only [Int.toNat_natCast] at q1 q4 q5 p1 p4 p5 hx ⊢
      have hL : (fst k has).length = k := fst_len (by omega)
      have hm0 : ∀ i, i < k → (fst k has).getD i 0 ∈ fst k has := fun i hi => getD_mem (by omega)
      have e : L' = L := by rw [← p4 0 (by omega), ← q4 0 (by omega), hl _ (fst_mem (hm0 0 (by omega)))]
      subst e
      rw [dec_unique (m := m) q1 p1 (by omega) (by omega) hL (fst_nodup k has) (fun x hx => by have := fst_lt hx; omega) fun i hi x hxx => by
        have e1 := q5 i hi x hxx
        have e2 := p5 i hi x hxx
        rw [e1, e2]
        exact hx _ (hm0 i hi) x (by rw [q4 i hi]; exact hxx)]
end Go.Proofs.Ytbepadepepoilaa
