/- erase.found, walked. -/
import Derived.Test.YtbepadepepoilaaLaw06c
namespace Go.Proofs.Ytbepadepepoilaa
open Go.RowKit
set_option linter.unusedVariables false
set_option linter.unusedSimpArgs false
/-- the places below n that are there -/
def idx (has : List Bool) (n : Nat) : List Nat := (List.range n).filter fun i => has.getD i false
theorem idx_succ (has : List Bool) (n : Nat) : idx has (n + 1) = idx has n ++ if has.getD n false = true then [n] else [] := by
  unfold idx
  rw [List.range_succ, List.filter_append]
  cases h : has.getD n false <;> simp only [List.filter, h] <;> rfl
theorem idx_lt {has : List Bool} {n i : Nat} (h : i ∈ idx has n) : i < n := by
  unfold idx at h
  exact List.mem_range.1 (List.mem_filter.1 h).1
theorem idx_nodup (has : List Bool) (n : Nat) : (idx has n).Nodup := List.Nodup.sublist List.filter_sublist List.nodup_range
/-- shards that are there are of one length -/
def SameL (has : List Bool) (ls : List (List F)) (n : Nat) : Prop := ∀ i j, i ∈ idx has n → j ∈ idx has n → lenAt ls i = lenAt ls j
abbrev nvs (l : List Nat) : List Value := l.map fun (i : Nat) => (.int .i64 (i : Int) : Value)
def FndCase (k : Nat) (has : List Bool) (ls : List (List F)) (L : List Nat) (E : Int) : Prop :=
  (¬ SameL has ls has.length ∧ E = 60 ∧ L = []) ∨ (SameL has ls has.length ∧ (idx has has.length).length < k ∧ E = 70 ∧ L = []) ∨ (SameL has ls has.length ∧ k ≤ (idx has has.length).length ∧ E = 0 ∧ L = (idx has has.length).take k)
theorem info_int1 : (Try.prog.info? 3).map (fun i => (i.zero, i.size, i.bytes)) = some (some (.int .i64 0), 1, 8) := by kernel_rfl
theorem app_int {ops : Array Oper} {rest : List Oper} {o : Oper} {a : Act} {Q : Exit → Act → World → Prop} (w : World) (hg : o.guard = none) (s x : Operand)
    (ho : o.op = .call { callee := .builtin .append, args := #[s, x], argTypes := #[25, 25] })
    (B : Nat) (A1 : Option Addr) (c1 n : Nat) (xs : List Value) (hs : a.eval s = .slice A1 n c1) (hown : w.ownsRow B 3 1 (.slice A1 n c1) n xs)
    (A : Option Addr) (c : Nat) (u : Value) (hx : a.eval x = .slice A 1 c) (hl : Sl w A c [u]) (hu : u.oneCell' = true) (hN : n ≤ 100000) (hB : B ≤ w.heap.size)
    (hK : ∀ A' c' w', w'.ownsRow B 3 1 (.slice A' (n + 1) c') (n + 1) (xs ++ [u]) → Below B w w' → wpList Try.prog ops Q rest (a.put o.dst (.slice A' (n + 1) c')) w') : wpList Try.prog ops Q (o :: rest) a w := by
  refine app_sl w hg s x 25 ho B 3 (.int .i64 0) 8 Try.underlying25 info_int1 rfl _ n xs hs hown A c [u] (by simpa using hx) hl (fun v hv => by simp at hv; subst hv; exact hu) (by decide) (by simp; omega) hB ?_
  intro v' w' h1 h2
  simp only [List.length_singleton] at h1
  obtain ⟨A', c', rfl⟩ := own_form h1
  exact hK A' c' w' h1 (own_grow (Below.refl _ _) hown h2 hB)
theorem lit_int {w : World} {n : Nat} (u : Value) (hn : n = w.heap.size) : Sl (w.alloc (.cells #[u] 3)) (some ⟨n, 0, none⟩) 1 [u] := by
  subst hn
  exact ⟨by simp, by unfold maxLen; omega, .inr ⟨w.heap.size, 0, rfl, by simp, fun i v hv => by
    rw [Nat.zero_add, World.cell?_alloc_new]
    simpa using hv⟩⟩
/-- the length that is known so far: none, or that of all shards that are there -/
def SzP (has : List Bool) (ls : List (List F)) (i : Nat) (s : Int) : Prop := (idx has i = [] ∧ s = -1) ∨ (idx has i ≠ [] ∧ 0 ≤ s ∧ ∀ a, a ∈ idx has i → (lenAt ls a : Int) = s)
theorem SzP.skip {has : List Bool} {ls : List (List F)} {i : Nat} {s : Int} (h : SzP has ls i s) (hi : ¬ has.getD i false = true) : SzP has ls (i + 1) s := by
  unfold SzP
  rw [idx_succ, if_neg hi, List.append_nil]
  exact h
theorem SzP.first {has : List Bool} {ls : List (List F)} {i : Nat} {s : Int} (h : SzP has ls i s) (hs : s < 0) (hi : has.getD i false = true) : SzP has ls (i + 1) (lenAt ls i) := by
  rcases h with ⟨h, _⟩ | ⟨_, h, _⟩
  · right
    rw [idx_succ, if_pos hi, h]
    exact ⟨by simp, by omega, fun a ha => by simp at ha; rw [ha]⟩
  · omega
theorem SzP.more {has : List Bool} {ls : List (List F)} {i : Nat} {s : Int} (h : SzP has ls i s) (hs : 0 ≤ s) (hi : has.getD i false = true) (he : (lenAt ls i : Int) = s) : SzP has ls (i + 1) s := by
  rcases h with ⟨_, h⟩ | ⟨h1, h2, h3⟩
  · omega
  · right
    rw [idx_succ, if_pos hi]
    refine ⟨by simp, h2, fun a ha => ?_⟩
    rcases List.mem_append.1 ha with ha | ha
    · exact h3 a ha
    · simp at ha; rw [ha]; exact he
theorem SzP.bad {has : List Bool} {ls : List (List F)} {i : Nat} {s : Int} (h : SzP has ls i s) (hs : 0 ≤ s) (hi : has.getD i false = true) (hn : i < has.length) (he : (lenAt ls i : Int) ≠ s) : ¬ SameL has ls has.length := fun hsm => by
  rcases h with ⟨_, h⟩ | ⟨h1, h2, h3⟩
  · omega
  · obtain ⟨a, l, e⟩ := List.exists_cons_of_ne_nil h1
    have ha : a ∈ idx has i := by rw [e]; simp
    have hai := idx_lt ha
    have m1 : ∀ x, x ∈ idx has i → x ∈ idx has has.length := fun x hx => by
      unfold idx at hx ⊢
      have := List.mem_filter.1 hx
      exact List.mem_filter.2 ⟨List.mem_range.2 (by have := List.mem_range.1 this.1; omega), this.2⟩
    have m2 : i ∈ idx has has.length := by
      unfold idx
      exact List.mem_filter.2 ⟨List.mem_range.2 hn, hi⟩
    have := hsm i a m2 (m1 a ha)
    have := h3 a ha
    omega
theorem SzP.same {has : List Bool} {ls : List (List F)} {n : Nat} {s : Int} (h : SzP has ls n s) : SameL has ls n := fun i j hi hj => by
  rcases h with ⟨h, _⟩ | ⟨_, _, h⟩
  · rw [h] at hi; cases hi
  · have := h i hi
    have := h j hj
    omega
theorem take_push {l : List Nat} {x k : Nat} (h : (l.take k).length < k) : (l ++ [x]).take k = l.take k ++ [x] := by
  rw [List.length_take] at h
  rw [List.take_of_length_le (by rw [List.length_append]; simp; omega), List.take_of_length_le (by omega)]
theorem take_full {l : List Nat} {x k : Nat} (h : ¬ (l.take k).length < k) : (l ++ [x]).take k = l.take k := by
  rw [List.length_take] at h
  rw [List.take_append_of_le_length (by omega)]
set_option maxRecDepth 1000000 in
set_option maxHeartbeats 4000000 in
theorem erase_found (k : Nat) (Ah : Option Addr) (ch : Nat) (has : List Bool) (A : Option Addr) (c : Nat) (ls : List (List F)) (n : Nat) (w : World) (hh : Sl w Ah ch (has.map Value.bool)) (hr : Rr w A c ls) (hn : has.length = n) (hn2 : ls.length = n) (hnb : n ≤ 256) (hkb : k ≤ 256) :
    Calls Try.prog 38 #[.int .i64 k, .slice Ah n ch, .slice A n c] w fun e w' => ∃ L E, FndCase k has ls L E ∧ ∃ A' c', e = .returned (.tuple #[.slice A' L.length c', .int .i64 E]) ∧ Sl w' A' c' (nvs L) ∧ Below w.heap.size w w' := by
  have HH := Lib.hid hh
  have HR := Lib.hid hr
  have HN := Lib.hid hn
  have HN2 := Lib.hid hn2
  have LB : Hid (∀ i, i < n → lenAt ls i ≤ 9223372036854775807) := fun i hi => by
    obtain ⟨_, _, _, _, _, _, h6⟩ := hr.get (i := i) (by omega)
    have h3 := h6.len
    have h4 := h6.mx
    unfold maxLen at h4
    unfold lenAt
    omega
  clear hh hr hn hn2
  have S0 : Hid (SzP has ls 0 (-1)) := .inl ⟨rfl, rfl⟩
  go_enter Try.func38, Try.ntmps38
  go_wp2
  go_step3
  go_wp2
  go_step3
  go_wp2
  go_loopw [8, 9, 14] (fun u v x wr => ∃ (i : Nat) (s : Int) (A5 : Option Addr) (c5 : Nat), i ≤ n ∧ x = .int .i64 i ∧ v = .int .i64 s ∧ u = .slice A5 ((idx has i).take k).length c5 ∧ (-1 ≤ s ∧ s ≤ 9223372036854775807) ∧ SzP has ls i s ∧ wr.ownsRow w.heap.size 3 1 (.slice A5 ((idx has i).take k).length c5) ((idx has i).take k).length (nvs ((idx has i).take k)) ∧ Below w.heap.size w wr) (fun _ _ x _ => n - (intOf x).toNat)
  case atStart => exact ⟨0, -1, none, 0, Nat.zero_le _, rfl, rfl, by simp [idx], ⟨by omega, by omega⟩, S0.out, by simp only [idx, List.range_zero, List.filter_nil, List.take_nil]; exact World.ownsRow_nil _ _ _ _, Below.refl _ _⟩
  case round =>
    clear S0
    obtain ⟨i, s, A5, c5, hi, rfl, rfl, rfl, hs, hsz, ho, hbel⟩ := hrel
    have SZ := Lib.hid hsz
    have HO := Lib.hid ho
    have HB := Lib.hid hbel
    obtain ⟨t, ht⟩ : ∃ t, ((idx has i).take k).length = t := ⟨_, rfl⟩
    have HT := Lib.hid ht
    have htn : t ≤ n := by
      rw [← ht, List.length_take]
      have : (idx has i).length ≤ i := by unfold idx; exact Nat.le_trans (List.length_filter_le _ _) (by simp)
      omega
    have htk : t ≤ k := by rw [← ht, List.length_take]; omega
    rw [ht] at HO ⊢
    clear hsz ho hbel ht
    obtain ⟨hs1, hs2⟩ := hs
    by_cases hlt : i < n
    · have hit : (i : Int) < (n : Int) := by omega
      obtain ⟨b1, o1, hA1, _, hc1⟩ := Sl.at' (HH.out.below HB.out) (by rw [List.length_map, HN.out]; omega)
      subst hA1
      obtain ⟨q, hq⟩ : ∃ q, has.getD i false = q := ⟨_, rfl⟩
      have y1 := hc1 i (.bool q) (by rw [List.getElem?_map, List.getElem?_eq_getElem (by rw [HN.out]; exact hlt), ← hq, List.getD_eq_getElem?_getD, List.getElem?_eq_getElem (by rw [HN.out]; exact hlt)]; rfl)
      have HQ := Lib.hid hq
      clear hc1 hq
      cases q with
      | false =>
        go_wp2
        go_roundw
        case rel =>
          have e : idx has (i + 1) = idx has i := by rw [idx_succ, if_neg (by rw [HQ.out]; decide), List.append_nil]
          refine ⟨i + 1, s, A5, c5, by omega, by go_num, rfl, by rw [e, HT.out], ⟨hs1, hs2⟩, SZ.out.skip (by rw [HQ.out]; decide), by rw [e, HT.out]; exact HO.out, HB.out⟩
        case measure => simp [intOf]; omega
      | true =>
        obtain ⟨b2, o2, A2, c2, hA, y2, _⟩ := (HR.out.below HB.out).get (i := i) (by rw [HN2.out]; exact hlt)
        subst hA
        have hlb := LB.out i hlt
        by_cases hs0 : s < 0
        · have ZZ := Lib.hid (SZ.out.first hs0 HQ.out)
          obtain ⟨z, hz⟩ : ∃ z, lenAt ls i = z := ⟨_, rfl⟩
          rw [hz] at y2 ZZ hlb
          clear hz
          have hdec : decide (s < 0) = true := decide_eq_true hs0
          by_cases htk2 : t < k
          · have htt : (t : Int) < (k : Int) := by omega
            go_wp2_with (at_builtin; refine app_int _ rfl _ _ rfl w.heap.size A5 c5 t (nvs ((idx has i).take k)) rfl (HO.out.alloc _) _ 1 (.int .i64 i) rfl (lit_int _ rfl) rfl (by omega) ?hb ?_; (case hb => exact Nat.le_trans HB.out.size (by simp)); intro A6 c6 w6 ho6 hb6; have HO6 := Lib.hid ho6; have HB6 : Hid (Below w.heap.size w w6) := (HB.out.alloc HB.out.size _).trans hb6; clear ho6 hb6)
            go_roundw
            case rel =>
              have e : (idx has (i + 1)).take k = (idx has i).take k ++ [i] := by rw [idx_succ, if_pos HQ.out]; exact take_push (by rw [HT.out]; exact htk2)
              have el : ((idx has (i + 1)).take k).length = t + 1 := by rw [e, List.length_append, HT.out]; rfl
              refine ⟨i + 1, z, A6, c6, by omega, by go_num, rfl, by rw [el], ⟨by omega, by omega⟩, ZZ.out, ?_, HB6.out⟩
              rw [el, e]
              have := HO6.out
              unfold nvs at this ⊢
              rw [List.map_append]
              exact this
            case measure => simp [intOf]; omega
          · have htt : ¬ (t : Int) < (k : Int) := by omega
            go_wp2
            go_roundw
            case rel =>
              have e : (idx has (i + 1)).take k = (idx has i).take k := by rw [idx_succ, if_pos HQ.out]; exact take_full (by rw [HT.out]; exact htk2)
              refine ⟨i + 1, z, A5, c5, by omega, by go_num, rfl, by rw [e, HT.out], ⟨by omega, by omega⟩, ZZ.out, by rw [e, HT.out]; exact HO.out, HB.out⟩
            case measure => simp [intOf]; omega
        · have hdec : decide (s < 0) = false := decide_eq_false hs0
          have h0s : 0 ≤ s := by omega
          by_cases he : (lenAt ls i : Int) = s
          · have ZZ := Lib.hid (SZ.out.more h0s HQ.out he)
            have d0 : (s == (lenAt ls i : Int)) = true := by rw [beq_iff_eq]; exact he.symm
            have d1 : (s != (lenAt ls i : Int)) = false := by rw [bne_eq_false_iff_eq]; exact he.symm
            clear he
            generalize lenAt ls i = z at *
            by_cases htk2 : t < k
            · have htt : (t : Int) < (k : Int) := by omega
              go_wp2_with (at_builtin; refine app_int _ rfl _ _ rfl w.heap.size A5 c5 t (nvs ((idx has i).take k)) rfl (HO.out.alloc _) _ 1 (.int .i64 i) rfl (lit_int _ rfl) rfl (by omega) ?hb ?_; (case hb => exact Nat.le_trans HB.out.size (by simp)); intro A6 c6 w6 ho6 hb6; have HO6 := Lib.hid ho6; have HB6 : Hid (Below w.heap.size w w6) := (HB.out.alloc HB.out.size _).trans hb6; clear ho6 hb6)
              go_roundw
              case rel =>
                have e : (idx has (i + 1)).take k = (idx has i).take k ++ [i] := by rw [idx_succ, if_pos HQ.out]; exact take_push (by rw [HT.out]; exact htk2)
                have el : ((idx has (i + 1)).take k).length = t + 1 := by rw [e, List.length_append, HT.out]; rfl
                refine ⟨i + 1, s, A6, c6, by omega, by go_num, rfl, by rw [el], ⟨by omega, by omega⟩, ZZ.out, ?_, HB6.out⟩
                rw [el, e]
                have := HO6.out
                unfold nvs at this ⊢
                rw [List.map_append]
                exact this
              case measure => simp [intOf]; omega
            · have htt : ¬ (t : Int) < (k : Int) := by omega
              go_wp2
              go_roundw
              case rel =>
                have e : (idx has (i + 1)).take k = (idx has i).take k := by rw [idx_succ, if_pos HQ.out]; exact take_full (by rw [HT.out]; exact htk2)
                refine ⟨i + 1, s, A5, c5, by omega, by go_num, rfl, by rw [e, HT.out], ⟨by omega, by omega⟩, ZZ.out, by rw [e, HT.out]; exact HO.out, HB.out⟩
              case measure => simp [intOf]; omega
          · have BAD : Hid (¬ SameL has ls has.length) := SZ.out.bad h0s HQ.out (by rw [HN.out]; exact hlt) he
            have d0 : (s == (lenAt ls i : Int)) = false := by rw [beq_eq_false_iff_ne]; exact fun e => he e.symm
            have d1 : (s != (lenAt ls i : Int)) = true := by rw [bne_iff_ne]; exact fun e => he e.symm
            clear he
            generalize lenAt ls i = z at *
            go_wp2
            go_ret2
            exact ⟨[], 60, .inl ⟨BAD.out, rfl, rfl⟩, none, 0, rfl, Sl.nil _, HB.out⟩
    · obtain rfl : i = n := by omega
      have hit : ¬ (i : Int) < (i : Int) := by omega
      have SM : Hid (SameL has ls has.length) := by show SameL _ _ _; rw [HN.out]; exact SZ.out.same
      by_cases htk2 : t < k
      · have htt : (t : Int) < (k : Int) := by omega
        go_wp2
        go_ret2
        refine ⟨[], 70, .inr (.inl ⟨SM.out, ?_, rfl, rfl⟩), none, 0, rfl, Sl.nil _, HB.out⟩
        have := HT.out
        rw [List.length_take] at this
        rw [HN.out]; omega
      · have htt : ¬ (t : Int) < (k : Int) := by omega
        go_wp2
        go_ret2
        refine ⟨(idx has i).take k, 0, .inr (.inr ⟨SM.out, ?_, rfl, by rw [HN.out]⟩), A5, c5, by rw [HT.out]; rfl, own_sl HO.out, HB.out⟩
        have := HT.out
        rw [List.length_take] at this
        rw [HN.out]; omega
end Go.Proofs.Ytbepadepepoilaa
