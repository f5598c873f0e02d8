/- Layer 7: awake, EraseNames, walked. -/
import Derived.Test.YtbepadepepoilaaEro
namespace Go.Proofs.Ytbepadepepoilaa
open Go.RowKit
set_option linter.unusedVariables false
set_option linter.unusedSimpArgs false
theorem lit_any {w : World} {n : Nat} {t : TypeId} (vs : List Value) (cs : Array Value) (hn : n = w.heap.size) (hcs : cs = vs.toArray) (hl : vs.length ≤ 1000) : Sl (w.alloc (.cells cs t)) (some ⟨n, 0, none⟩) vs.length vs := by
  subst hn hcs
  refine ⟨Nat.le_refl _, by unfold maxLen; omega, .inr ⟨w.heap.size, 0, rfl, by simp, fun i v hv => ?_⟩⟩
  rw [Nat.zero_add, World.cell?_alloc_new]
  simpa using hv
theorem lit_rr3 {w : World} {n1 n2 n3 : Nat} {a b : F} {u v : Value} (h1 : n1 = w.heap.size) (h2 : n2 = w.heap.size + 1) (h3 : n3 = w.heap.size + 2) (hu : u = bv a) (hv : v = bv b) : Rr (((w.alloc (.cells #[u] 5)).alloc (.cells #[v] 5)).alloc (.cells #[.slice (some ⟨n1, 0, none⟩) 1 1, .slice none 0 0, .slice (some ⟨n2, 0, none⟩) 1 1] 22)) (some ⟨n3, 0, none⟩) 3 [[a], [], [b]] := by
  subst hu hv
  refine ⟨[.slice (some ⟨n1, 0, none⟩) 1 1, .slice none 0 0, .slice (some ⟨n2, 0, none⟩) 1 1], lit_spine _ _ (by rw [size_alloc', size_alloc']; exact h3) rfl (by simp), ?_⟩
  exact (((Bss.nil _).cons (n := 1) (Sl.alloc (lit1 (by rw [size_alloc']; exact h2) rfl) _) rfl).cons (n := 0) (Bs.nil _) rfl).cons (n := 1) (Sl.alloc (Sl.alloc (lit1 h1 rfl) _) _) rfl
theorem lit_rr3' {w : World} {n1 n2 : Nat} {a : F} {v : Value} (h1 : n1 = w.heap.size) (h2 : n2 = w.heap.size + 1) (hv : v = bv a) : Rr ((w.alloc (.cells #[v] 5)).alloc (.cells #[.slice (some ⟨n1, 0, none⟩) 1 1, .slice none 0 0, .slice none 0 0] 22)) (some ⟨n2, 0, none⟩) 3 [[a], [], []] := by
  subst hv
  refine ⟨[.slice (some ⟨n1, 0, none⟩) 1 1, .slice none 0 0, .slice none 0 0], lit_spine _ _ (by rw [size_alloc']; exact h2) rfl (by simp), ?_⟩
  exact (((Bss.nil _).cons (n := 0) (Bs.nil _) rfl).cons (n := 0) (Bs.nil _) rfl).cons (n := 1) (Sl.alloc (lit1 h1 rfl) _) rfl
theorem Dec.eq {k m L' : Nat} {has : List Bool} {ls X D' : List (List F)} (h : Dec k m has ls X) (h1 : 1 ≤ k) (hkm : k + m ≤ 256) (hn : has.length = k + m) (hc : k ≤ (idx has has.length).length) (hD : Eql D' k L') (hl : ∀ i, i < k → lenAt ls ((fst k has).getD i 0) = L') (hx : ∀ i, i < k → ∀ x, x < L' → at2 (enc k m D') ((fst k has).getD i 0) x = at2 ls ((fst k has).getD i 0) x) : X = enc k m D' := by
  obtain ⟨D, L, q1, rfl, q3, q4, q5⟩ := h
  have e : L' = L := by rw [← hl 0 (by omega), q4 0 (by omega)]
  subst e
  rw [dec_unique (m := m) q1 hD h1 hkm (fst_len hc) (fst_nodup k has) (fun x hx => by rw [← hn]; exact fst_lt hx) fun i hi x hxx => by rw [q5 i hi x hxx, hx i hi x hxx]]
set_option maxRecDepth 1000000 in
set_option maxHeartbeats 4000000 in
theorem awake7 (w : World) : Calls Try.prog 19 #[] w fun e w' => e = .returned (.bool true) ∧ Below w.heap.size w w' := by
  have D1 : Hid (∀ b Ah ch A c w, GfAt w b → Sl w Ah ch [Value.bool true, Value.bool false, Value.bool true] → Rr w A c [[F.of 1], [], [F.of 123]] → Calls Try.prog 21 #[fp b, .int .i64 2, .int .i64 1, .slice Ah 3 ch, .slice A 3 c] w fun e w' => ∃ A' c', e = .returned (.tuple #[.slice A' 3 c', .int .i64 0]) ∧ Rr w' A' c' [[F.of 1], [F.of 2], [F.of 123]] ∧ Below w.heap.size w w') := fun b Ah ch A c w hg hh hr => by
    obtain ⟨X, E, hc, h⟩ := dec_out 2 1 [true, false, true] [[F.of 1], [], [F.of 123]] ⟨by decide, by decide⟩ ⟨by decide, by decide⟩ (short_le (by decide +kernel))
    have hi : idx [true, false, true] 3 = [0, 2] := by decide
    have hf : fst 2 [true, false, true] = [0, 2] := by decide
    have hs : SameL [true, false, true] [[F.of 1], [], [F.of 123]] 3 := fun i j hi hj => by
      rw [show idx [true, false, true] 3 = [0, 2] from by decide] at hi hj
      simp only [List.mem_cons, List.not_mem_nil, or_false] at hi hj
      rcases hi with rfl | rfl <;> rcases hj with rfl | rfl <;> decide +kernel
    have hk : okkm 2 1 := ⟨by decide, by decide, by decide⟩
    rcases hc with ⟨q, _⟩ | ⟨_, q, _⟩ | ⟨_, _, q, _⟩ | ⟨_, _, _, q, _⟩ | ⟨_, _, _, _, rfl, hd⟩
    · exact absurd hk q
    · exact absurd ⟨by decide, by decide⟩ q
    · exact absurd hs q
    · exact absurd q (by decide)
    have hX := Dec.eq (D' := [[F.of 1], [F.of 2]]) (L' := 1) (k := 2) (m := 1) hd (by decide) (by decide) rfl (by decide) ⟨rfl, by decide +kernel⟩ (by
      rw [hf]; decide +kernel) (by rw [hf]; decide +kernel)
    rw [show enc 2 1 [[F.of 1], [F.of 2]] = [[F.of 1], [F.of 2], [F.of 123]] from by decide +kernel] at hX
    subst hX
    exact h b Ah ch A c w hg hh hr
  have D2 : Hid (∀ b Ah ch A c w, GfAt w b → Sl w Ah ch [Value.bool true, Value.bool false, Value.bool false] → Rr w A c [[F.of 1], [], []] → Calls Try.prog 21 #[fp b, .int .i64 2, .int .i64 1, .slice Ah 3 ch, .slice A 3 c] w fun e w' => ∃ A' c', e = .returned (.tuple #[.slice A' 0 c', .int .i64 70]) ∧ Rr w' A' c' [] ∧ Below w.heap.size w w') := fun b Ah ch A c w hg hh hr => by
    obtain ⟨X, E, hc, h⟩ := dec_out 2 1 [true, false, false] [[F.of 1], [], []] ⟨by decide, by decide⟩ ⟨by decide, by decide⟩ (short_le (by decide +kernel))
    have hs : SameL [true, false, false] [[F.of 1], [], []] 3 := fun i j hi hj => by
      rw [show idx [true, false, false] 3 = [0] from by decide] at hi hj
      simp only [List.mem_cons, List.not_mem_nil, or_false] at hi hj
      subst hi hj; rfl
    have hk : okkm 2 1 := ⟨by decide, by decide, by decide⟩
    rcases hc with ⟨q, _⟩ | ⟨_, q, _⟩ | ⟨_, _, q, _⟩ | ⟨_, _, _, q, rfl, rfl⟩ | ⟨_, _, _, q, _⟩
    · exact absurd hk q
    · exact absurd ⟨by decide, by decide⟩ q
    · exact absurd hs q
    · exact h b Ah ch A c w hg hh hr
    · exact absurd q (by decide)
  have K := Lib.hid (Lk.start w)
  go_enter Try.func19, Try.ntmps19
  go_wp2_with (first
    | (go_at_call 6; (with_reducible refine (new_any _).mono ?_); rintro e w1 ⟨rfl, hbel, hg⟩; (first | replace K := Lib.hid (K.out.below hbel) | replace K := Lib.hid ((K.out.alloc _).below hbel) | replace K := Lib.hid (((K.out.alloc _).alloc _).below hbel) | replace K := Lib.hid ((((K.out.alloc _).alloc _).alloc _).below hbel) | replace K := Lib.hid (((((K.out.alloc _).alloc _).alloc _).alloc _).below hbel) | replace K := Lib.hid (K.out.drew.below hbel) | replace K := Lib.hid ((K.out.drewN _).below hbel)); clear hbel; replace K := Lib.hid (K.out.withF hg); clear hg)
    | (go_at_call 21; (with_reducible refine (D1.out _ _ _ _ _ _ ?_ ?_ ?_).mono ?_); (first | exact K.out.gf | exact (K.out.alloc _).gf | exact K.out.drew.gf | exact ((K.out.alloc _).alloc _).gf | exact (((K.out.alloc _).alloc _).alloc _).gf | exact (((((K.out.alloc _).alloc _).alloc _).alloc _)).gf); (refine Sl.alloc (Sl.alloc (Sl.alloc (lit_any [Value.bool true, Value.bool false, Value.bool true] _ ?_ rfl ?_) _) _) _ <;> (first | rfl | simp)); (refine lit_rr3 ?_ ?_ ?_ rfl rfl <;> (first | rfl | simp)); rintro e w2 ⟨Aa, ca, rfl, hr, hbel⟩; (first | replace K := Lib.hid (K.out.below hbel) | replace K := Lib.hid ((K.out.alloc _).below hbel) | replace K := Lib.hid (((K.out.alloc _).alloc _).below hbel) | replace K := Lib.hid ((((K.out.alloc _).alloc _).alloc _).below hbel) | replace K := Lib.hid (((((K.out.alloc _).alloc _).alloc _).alloc _).below hbel) | replace K := Lib.hid (K.out.drew.below hbel) | replace K := Lib.hid ((K.out.drewN _).below hbel)); replace K := Lib.hid (K.out.rr' hr); clear hr; clear hbel)
    | (go_at_call 21; (with_reducible refine (D2.out _ _ _ _ _ _ ?_ ?_ ?_).mono ?_); (first | exact K.out.gf | exact (K.out.alloc _).gf | exact K.out.drew.gf | exact ((K.out.alloc _).alloc _).gf | exact (((K.out.alloc _).alloc _).alloc _).gf | exact (((((K.out.alloc _).alloc _).alloc _).alloc _)).gf); (refine Sl.alloc (Sl.alloc (lit_any [Value.bool true, Value.bool false, Value.bool false] _ ?_ rfl ?_) _) _ <;> (first | rfl | simp)); (refine lit_rr3' ?_ ?_ rfl <;> (first | rfl | simp)); rintro e w3 ⟨Ao, co, rfl, hr, hbel⟩; (first | replace K := Lib.hid (K.out.below hbel) | replace K := Lib.hid ((K.out.alloc _).below hbel) | replace K := Lib.hid (((K.out.alloc _).alloc _).below hbel) | replace K := Lib.hid ((((K.out.alloc _).alloc _).alloc _).below hbel) | replace K := Lib.hid (((((K.out.alloc _).alloc _).alloc _).alloc _).below hbel) | replace K := Lib.hid (K.out.drew.below hbel) | replace K := Lib.hid ((K.out.drewN _).below hbel)); replace K := Lib.hid (K.out.rr' hr); clear hr; clear hbel; obtain ⟨b1, o1, A1, c1, hA, y1, hb1⟩ := (K.out.at (.tail _ (.head _))).get (i := 1) (by decide); subst hA; obtain ⟨b2, o2, hA, _, hc⟩ := Bs.at' hb1 (by decide); subst hA; have y2 := hc 0 (by decide); clear hc hb1; rw [Nat.add_zero] at y2; have L1 : lenAt [[F.of 1], [F.of 2], [F.of 123]] 1 = 1 := (by decide +kernel); rw [L1] at y1; clear L1; have E2 : (((([[F.of 1], [F.of 2], [F.of 123]]).getD 1 []).getD 0 0).n : Int) = 2 := (by decide +kernel); rw [E2] at y2; clear E2))
  go_ret
  exact ⟨rfl, K.out.since⟩
end Go.Proofs.Ytbepadepepoilaa
