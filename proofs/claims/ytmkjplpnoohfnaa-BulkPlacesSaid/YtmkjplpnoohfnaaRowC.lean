/- slices.Clone, bulk.own, aumbryref06.Copied, walked. -/
import Derived.Test.YtmkjplpnoohfnaaRow
import Derived.Lib.SliceRun
namespace Go.Proofs.Ytmkjplpnoohfnaa
open Go.RowKit
set_option linter.unusedVariables false
set_option linter.unusedSimpArgs false
theorem own_empty (w : World) : (w.alloc (.cells #[] 5)).ownsRow w.heap.size 5 1 (.slice (some ⟨w.heap.size, 0, none⟩) 0 0) 0 (([] : List F).map bv) :=
  ⟨rfl, .inr ⟨w.heap.size, 0, #[], rfl, Nat.le_refl _, heap_alloc_new w _, Nat.le_refl _, Nat.zero_le _, rfl, rfl⟩⟩
set_option maxRecDepth 1000000 in
theorem clone_bytes (A : Option Addr) (n c : Nat) (l : List F) (w : World) (ha : Bs w A c l) (hn : l.length = n) (hm : n ≤ 140737488351232) :
    Calls Try.prog 121 #[.slice A n c] w fun e w' => ∃ A' c', e = .returned (.slice A' n c') ∧ w'.ownsRow w.heap.size 5 1 (.slice A' n c') n (l.map bv) ∧ Below w.heap.size w w' := by
  have HA := Lib.hid ha
  have HN := Lib.hid hn
  have q : ∀ (w : World) (a : Option Addr) (n c : Nat), (binOp .eql 28 (.slice a n c) (.slice none 0 0)).run Try.prog w = .ok (.bool a.isNone) w := fun w a n c => Lib.run_eql_slice_nil w _ _ a n c 0 0 Try.underlying28
  cases A with
  | none =>
    have h0 : l = [] := by
      rcases ha.cells with h | ⟨b, o, h, _⟩
      · exact List.map_eq_nil_iff.1 h
      · cases h
    subst h0
    simp at hn
    subst hn
    clear HA HN ha hm
    go_enter Try.func121, Try.ntmps121
    go_wp2
    go_ret
    exact ⟨none, 0, rfl, World.ownsRow_nil _ _ _ _, Below.refl _ _⟩
  | some a =>
    clear ha hn
    go_enter Try.func121, Try.ntmps121
    have HE := Lib.hid (own_empty w)
    go_wp2_with (at_builtin; refine app_bytes _ rfl _ _ rfl w.heap.size (some ⟨w.heap.size, 0, none⟩) 0 0 [] rfl HE.out (some a) c n l rfl (HA.out.alloc _) HN.out (by omega) (by simp) ?_; intro A3 c3 w3 hown3 hb3; have HO3 := Lib.hid hown3; have HB3 : Hid (Below w.heap.size w w3) := (below_alloc w _).trans hb3; clear hown3 hb3)
    go_ret
    refine ⟨A3, c3, rfl, ?_, HB3.out⟩
    have := HO3.out
    rwa [Nat.zero_add, List.nil_append] at this
theorem make_rows {ops : Array Oper} {rest : List Oper} {o : Oper} {a : Act} {Q : Exit → Act → World → Prop} (w : World) (hg : o.guard = none) (l c : Operand) (hop : o.op = Op.makeSlice 61 l c)
    (kl kc : IntKind) (L C : Int) (N : Nat) (hl : a.eval l = .int kl L) (hc : a.eval c = .int kc C) (hL : L = (N : Int)) (hC : C = (N : Int)) (hN : N ≤ 1000000)
    (hK : ∀ w', w'.ownsRow w.heap.size 28 1 (.slice (some ⟨w.heap.size, 0, none⟩) N N) N (List.replicate N (.slice none 0 0)) → Below w.heap.size w w' → wpList Try.prog ops Q rest (a.put o.dst (.slice (some ⟨w.heap.size, 0, none⟩) N N)) w') : wpList Try.prog ops Q (o :: rest) a w := by
  obtain ⟨i0, hi0, hz0, hz1, hz2⟩ := info_parts info_row
  refine wpList_make_full w hg l c 61 hop w.heap.size 28 i0 _ 1 Try.underlying61 hi0 hz0 hz1 kl kc L C N hl hc hL hC (by rw [hz2]; omega) (by unfold maxLen; omega) (Nat.le_refl _) ?_
  intro w1 hown hgr
  refine hK w1 ?_ ((Below.refl _ _).grown hgr (Nat.le_refl _) (by simp))
  have e : (madeCells (Value.slice none 0 0).cells (N * 1)).toList = List.replicate N (.slice none 0 0) := by
    rw [show (Value.slice none 0 0).cells = #[.slice none 0 0] from rfl, Nat.mul_one, toList_madeCells_one]
  rw [e] at hown
  exact hown
def nilV : Value := .slice none 0 0
/-- a spine while it is filled -/
def spine (rs : List Row) (n : Nat) : List Value := vals rs ++ List.replicate (n - rs.length) nilV
theorem spine_zero (n : Nat) : spine [] n = List.replicate n nilV := rfl
theorem spine_all {rs : List Row} {n : Nat} (h : rs.length = n) : spine rs n = vals rs := by
  subst h; unfold spine; rw [Nat.sub_self]; simp
theorem length_spine {rs : List Row} {n : Nat} (h : rs.length ≤ n) : (spine rs n).length = n := by
  unfold spine; rw [List.length_append, length_vals, List.length_replicate]; omega
theorem spine_snoc {rs : List Row} {n : Nat} (h : rs.length < n) (r : Row) : (spine rs n).set rs.length (rowV r) = spine (rs ++ [r]) n := by
  unfold spine vals
  rw [List.set_append_right _ _ (by rw [List.length_map]; exact Nat.le_refl _), List.length_map, Nat.sub_self]
  obtain ⟨k, hk⟩ : ∃ k, n - rs.length = k + 1 := ⟨n - rs.length - 1, by omega⟩
  rw [hk, List.replicate_succ, List.set_cons_zero, List.map_append, List.length_append, List.length_singleton, show n - (rs.length + 1) = k by omega, List.append_assoc]
  rfl
theorem spine_at {rs : List Row} {n : Nat} (h : rs.length < n) : (spine rs n)[rs.length]? = some nilV := by
  unfold spine vals
  rw [List.getElem?_append_right (by rw [List.length_map]; exact Nat.le_refl _), List.length_map, Nat.sub_self]
  obtain ⟨k, hk⟩ : ∃ k, n - rs.length = k + 1 := ⟨n - rs.length - 1, by omega⟩
  rw [hk]; rfl
theorem Bss.at' {w : World} {vs : List Value} {ls : List (List F)} (h : Bss w vs ls) {i : Nat} (hi : i < ls.length) : ∃ A c l, ls[i]? = some l ∧ vs[i]? = some (.slice A l.length c) ∧ Bs w A c l := by
  obtain ⟨A, c, h1, h2⟩ := h.2 i ls[i] (List.getElem?_eq_getElem hi)
  exact ⟨A, c, _, List.getElem?_eq_getElem hi, h1, h2⟩
theorem lsts_snoc {rs : List Row} {ls : List (List F)} {i : Nat} {l : List F} {A : Option Addr} {c : Nat} (h : lsts rs = ls.take i) (hl : ls[i]? = some l) : lsts (rs ++ [(A, c, l)]) = ls.take (i + 1) := by
  unfold lsts at *
  rw [List.map_append, h, List.take_add_one, hl]
  rfl
/-- what a call has made: a spine and rows of its own -/
structure MadeR (w w' : World) (A : Option Addr) (n c : Nat) (rs : List Row) : Prop where
  sp : w'.ownsRow w.heap.size 28 1 (.slice A n c) n (vals rs)
  gr : Grid w' w.heap.size rs
  bel : Below w.heap.size w w'
set_option maxRecDepth 1000000 in
set_option maxHeartbeats 2000000 in
theorem bulk_own (A : Option Addr) (n c : Nat) (vs : List Value) (ls : List (List F)) (w : World) (ha : Sl w A c vs) (hb : Bss w vs ls) (hn : ls.length = n) (hm : n ≤ 1000) (hl : ∀ l, l ∈ ls → l.length ≤ 100000) :
    Calls Try.prog 110 #[.slice A n c] w fun e w' => ∃ A' c' rs, e = .returned (.slice A' n c') ∧ lsts rs = ls ∧ MadeR w w' A' n c' rs := by
  have HA := Lib.hid ha
  have HB := Lib.hid hb
  have HN := Lib.hid hn
  have HL := Lib.hid hl
  clear ha hb hn hl
  go_enter Try.func110, Try.ntmps110
  go_wp2_with (refine make_rows _ rfl _ _ rfl .i64 .i64 (n : Int) (n : Int) n rfl rfl rfl rfl ?b ?_; (case b => omega); intro w1 ho hb; have HO := Lib.hid ho; have HW := Lib.hid hb; clear ho hb)
  go_loopw [11] (fun v wr => ∃ rs : List Row, rs.length ≤ n ∧ v = .int .i64 rs.length ∧ lsts rs = ls.take rs.length ∧ wr.ownsRow w.heap.size 28 1 (.slice (some ⟨w.heap.size, 0, none⟩) n n) n (spine rs n) ∧ Grid wr w.heap.size rs ∧ Below w.heap.size w wr) (fun v _ => n - (intOf v).toNat)
  case atStart => exact ⟨[], Nat.zero_le _, rfl, rfl, by rw [spine_zero]; exact HO.out, Grid.nil _ _, HW.out⟩
  case round =>
    clear HO HW
    obtain ⟨rs, hi, rfl, hls, hsp, hgr, hbel⟩ := hrel
    have HLS := Lib.hid hls
    have HS := Lib.hid hsp
    have HG := Lib.hid hgr
    have HW := Lib.hid hbel
    clear hls hsp hgr hbel
    obtain ⟨i, hi0⟩ : ∃ i, rs.length = i := ⟨_, rfl⟩
    have HI := Lib.hid hi0
    rw [hi0] at hi ⊢
    clear hi0
    by_cases hlt : i < n
    · obtain ⟨A2, c2, l2, h1, h2, h3⟩ := (HB.out.below HW.out).at' (i := i) (by rw [HN.out]; exact hlt)
      obtain ⟨b, o, hA, _, hc⟩ := Sl.at' (HA.out.below HW.out) (by rw [HB.out.1, HN.out]; omega)
      subst hA
      have y := hc i _ h2
      have hle := HL.out l2 (List.mem_of_getElem? h1)
      have CL : Hid (∀ w', Below wr.heap.size wr w' → Calls Try.prog 121 #[.slice A2 l2.length c2] w' fun e w'' => ∃ A' c', e = .returned (.slice A' l2.length c') ∧ w''.ownsRow w'.heap.size 5 1 (.slice A' l2.length c') l2.length (l2.map bv) ∧ Below w'.heap.size w' w'') := fun w' hb => clone_bytes A2 l2.length c2 l2 w' (h3.below hb) rfl (by omega)
      have H1 := Lib.hid h1
      clear hc h1 h2 h3 hle
      have hit : (i : Int) < (n : Int) := by omega
      go_wp2_with (go_at_call 121; (with_reducible refine (CL.out _ ?_).mono ?_); (first | exact Below.refl _ _ | exact below_drew0 _ _); rintro e w3 ⟨A3, c3, rfl, ho3, hb3⟩; have HS3 := Lib.hid (own_below HS.out hb3); have hcl := HS3.out.cellAt i (by omega); have hfz := HS3.out.frozenAt i; rw [← HI.out, spine_at (by rw [HI.out]; exact hlt), HI.out] at hcl; unfold nilV at hcl; have HO3 := Lib.hid ho3; have HB3 := Lib.hid hb3; clear ho3 hb3)
      go_roundw
      case rel =>
        have hg3 := HG.out.snoc HB3.out (r := (A3, c3, l2)) HO3.out HW.out.size
        have hst := (HS3.out.stored i (.slice A3 l2.length c3)).1
        rw [show (spine rs n).set i (.slice A3 l2.length c3) = spine (rs ++ [(A3, c3, l2)]) n by rw [← HI.out]; exact spine_snoc (by rw [HI.out]; exact hlt) (A3, c3, l2)] at hst
        refine ⟨rs ++ [(A3, c3, l2)], by rw [List.length_append, HI.out, List.length_singleton]; omega, by rw [List.length_append, HI.out, List.length_singleton]; go_num, by rw [List.length_append, List.length_singleton, HI.out]; exact lsts_snoc (by rw [← HI.out]; exact HLS.out) H1.out, hst, hg3.beside ((Beside.refl w.heap.size w3).setCell i _) fun j r hr => ?_, (HW.out.trans (HB3.out.mono HW.out.size)).setCell (Nat.le_refl _) _⟩
        intro hx
        rcases own_ne (hg3.own j r hr) HS3.out (by decide) with h | h
        · rw [h] at hx; cases hx
        · exact h hx
      case measure => simp [intOf]; omega
    · have hie : i = n := by omega
      subst hie
      go_wp2
      go_ret
      refine ⟨_, _, rs, rfl, ?_, ?_, HG.out, HW.out⟩
      · rw [HLS.out, HI.out]; exact List.take_of_length_le (by rw [HN.out]; exact Nat.le_refl _)
      · have := HS.out
        rwa [spine_all HI.out] at this
end Go.Proofs.Ytmkjplpnoohfnaa
