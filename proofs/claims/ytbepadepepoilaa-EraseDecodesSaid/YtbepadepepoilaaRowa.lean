/- Slices of slices of the call's own: a spine and rows, each in a block of its own. slices.Clone, bulk.own, aumbryref06.Copied, walked. Appends to a spine; aumbryref06.Copied, walked. aumbryref06.Alike, walked: n shards, all of one length. bulk.checked, walked. bulk.checked, where the numbers may not be. aumbryref06.Same, of lists that are alike. Rows whose numbers are turned, one behind the other. The closure of bulk.adder, walked. bulk.Encode: what it is made of. -/
import Derived.Test.YtbepadepepoilaaKn
import Derived.Lib.SliceRun
import Derived.Test.YtbepadepepoilaaCauBad
import Derived.Test.YtbepadepepoilaaSame
import Derived.Test.YtbepadepepoilaaMatL
import Derived.Test.YtbepadepepoilaaMxA
namespace Go.Proofs.Ytbepadepepoilaa
/-! Slices of slices of the call's own: a spine and rows, each in a block of its own. -/
section
open Go.RowKit
/-- a row: where it lies, its capacity, its bytes -/
abbrev Row := Option Addr × Nat × List F
def rowV (r : Row) : Value := .slice r.1 r.2.2.length r.2.1
def vals (rs : List Row) : List Value := rs.map rowV
def lsts (rs : List Row) : List (List F) := rs.map fun r => r.2.2
theorem length_vals (rs : List Row) : (vals rs).length = rs.length := List.length_map ..
theorem length_lsts (rs : List Row) : (lsts rs).length = rs.length := List.length_map ..
def ownR (w : World) (B : Nat) (r : Row) : Prop := w.ownsRow B 5 1 (rowV r) r.2.2.length (r.2.2.map bv)
structure Grid (w : World) (B : Nat) (rs : List Row) : Prop where
  own : ∀ (i : Nat) (r : Row), rs[i]? = some r → ownR w B r
  sep : ∀ (i j : Nat) (r s : Row), rs[i]? = some r → rs[j]? = some s → i ≠ j → ∀ g, (rowV r).ownBlock = some g → (rowV s).ownBlock ≠ some g
theorem Grid.nil (w : World) (B : Nat) : Grid w B [] := ⟨fun i r h => (by simp at h), fun i j r s h => (by simp at h)⟩
theorem Grid.below {w w' : World} {B : Nat} {rs : List Row} (h : Grid w B rs) (hb : Below w.heap.size w w') : Grid w' B rs := ⟨fun i r hr => own_below (h.own i r hr) hb, h.sep⟩
theorem Grid.mono {w : World} {B B' : Nat} {rs : List Row} (h : Grid w B rs) (hB : B' ≤ B) : Grid w B' rs := ⟨fun i r hr => own_mono (h.own i r hr) hB, h.sep⟩
theorem own_block_lt {w : World} {B e : Nat} {v : Value} {n : Nat} {xs : List Value} (h : w.ownsRow B e 1 v n xs) {g : Nat} (hg : v.ownBlock = some g) : B ≤ g ∧ g < w.heap.size := by
  rcases h.2 with ⟨h1, _⟩ | ⟨g', cap, cur, h1, hB, hk, _⟩
  · subst h1; simp [Value.ownBlock] at hg
  · subst h1
    simp only [Value.ownBlock, Option.some.injEq] at hg
    subst hg
    exact ⟨hB, block_lt hk⟩
/-- a row that was made behind all that is known -/
theorem Grid.snoc {w w' : World} {B : Nat} {rs : List Row} (h : Grid w B rs) (hb : Below w.heap.size w w') {r : Row} (hr : ownR w' w.heap.size r) (hB : B ≤ w.heap.size) : Grid w' B (rs ++ [r]) := by
  refine ⟨fun i s hs => ?_, fun i j s t hs ht hij g hg hg' => ?_⟩
  · rcases Nat.lt_or_ge i rs.length with h1 | h1
    · rw [List.getElem?_append_left h1] at hs
      exact own_below (h.own i s hs) hb
    · rw [List.getElem?_append_right h1] at hs
      cases hi : i - rs.length with
      | zero => rw [hi] at hs; simp at hs; subst hs; exact own_mono hr hB
      | succ k => rw [hi] at hs; simp at hs
  · rcases Nat.lt_or_ge i rs.length with h1 | h1
    · rw [List.getElem?_append_left h1] at hs
      have l1 := (own_block_lt (h.own i s hs) hg).2
      rcases Nat.lt_or_ge j rs.length with h2 | h2
      · rw [List.getElem?_append_left h2] at ht
        exact h.sep i j s t hs ht hij g hg hg'
      · rw [List.getElem?_append_right h2] at ht
        cases hi : j - rs.length with
        | zero => rw [hi] at ht; simp at ht; subst ht; have := (own_block_lt hr hg').1; omega
        | succ k => rw [hi] at ht; simp at ht
    · rw [List.getElem?_append_right h1] at hs
      cases hi : i - rs.length with
      | succ k => rw [hi] at hs; simp at hs
      | zero =>
        rw [hi] at hs; simp at hs; subst hs
        have l1 := (own_block_lt hr hg).1
        rcases Nat.lt_or_ge j rs.length with h2 | h2
        · rw [List.getElem?_append_left h2] at ht
          have := (own_block_lt (h.own j t ht) hg').2
          omega
        · rw [List.getElem?_append_right h2] at ht
          cases hj : j - rs.length with
          | zero => omega
          | succ k => rw [hj] at ht; simp at ht
/-- a row is written; the others stay -/
theorem Grid.write {w w' : World} {B : Nat} {rs : List Row} (h : Grid w B rs) {i : Nat} {r : Row} (hr : rs[i]? = some r) {g : Nat} (hg : (rowV r).ownBlock = some g) {l : List F} (hl : l.length = r.2.2.length) (hb : Beside g w w') (ho : ownR w' B (r.1, r.2.1, l)) : Grid w' B (rs.set i (r.1, r.2.1, l)) := by
  have hi : i < rs.length := by
    rcases Nat.lt_or_ge i rs.length with h1 | h1
    · exact h1
    · rw [List.getElem?_eq_none h1] at hr; cases hr
  have hv : rowV (r.1, r.2.1, l) = rowV r := by unfold rowV; rw [hl]
  refine ⟨fun j s hs => ?_, fun j k s t hs ht hjk x hx => ?_⟩
  · by_cases e : i = j
    · subst e
      rw [List.getElem?_set_self hi] at hs
      cases hs
      exact ho
    · rw [List.getElem?_set_ne e] at hs
      have hne := h.sep i j r s hr hs e g hg
      have hos := h.own j s hs
      obtain ⟨h1, h2⟩ := hos
      refine ⟨h1, ?_⟩
      rcases h2 with h2 | ⟨g', cap, cur, e1, hB, hk, q⟩
      · exact .inl h2
      · refine .inr ⟨g', cap, cur, e1, hB, ?_, q⟩
        rw [hb.block g' (block_lt hk) ?_]
        · exact hk
        · rw [e1] at hne
          exact hne
  · have key : ∀ j s, (rs.set i (r.1, r.2.1, l))[j]? = some s → ∃ s', rs[j]? = some s' ∧ rowV s' = rowV s := fun j s hs => by
      by_cases e : i = j
      · subst e
        rw [List.getElem?_set_self hi] at hs
        cases hs
        exact ⟨r, hr, hv.symm⟩
      · rw [List.getElem?_set_ne e] at hs
        exact ⟨s, hs, rfl⟩
    obtain ⟨s', hs', e1⟩ := key j s hs
    obtain ⟨t', ht', e2⟩ := key k t ht
    rw [← e1] at hx
    rw [← e2]
    exact h.sep j k s' t' hs' ht' hjk x hx
theorem Grid.bss {w : World} {B : Nat} {rs : List Row} (h : Grid w B rs) : Bss w (vals rs) (lsts rs) := by
  refine ⟨by rw [length_vals, length_lsts], fun i l hl => ?_⟩
  unfold lsts at hl
  rw [List.getElem?_map] at hl
  cases hr : rs[i]? with
  | none => rw [hr] at hl; cases hl
  | some r =>
    rw [hr] at hl
    simp only [Option.map_some, Option.some.injEq] at hl
    subst hl
    exact ⟨r.1, r.2.1, by unfold vals; rw [List.getElem?_map, hr]; rfl, own_sl (h.own i r hr)⟩
/-- the spine grows, or is written: the rows stay -/
theorem Grid.beside {w w' : World} {B : Nat} {rs : List Row} (h : Grid w B rs) {g : Nat} (hb : Beside g w w') (hne : ∀ (i : Nat) (r : Row), rs[i]? = some r → (rowV r).ownBlock ≠ some g) : Grid w' B rs := by
  refine ⟨fun j s hs => ?_, h.sep⟩
  have hne' := hne j s hs
  obtain ⟨h1, h2⟩ := h.own j s hs
  refine ⟨h1, ?_⟩
  rcases h2 with h2 | ⟨g', cap, cur, e1, hB, hk, q⟩
  · exact .inl h2
  · refine .inr ⟨g', cap, cur, e1, hB, ?_, q⟩
    rw [hb.block g' (block_lt hk) ?_]
    · exact hk
    · rw [e1] at hne'
      exact hne'
theorem Grid.grown {w w' : World} {B B' e m : Nat} {u : Value} {ys : List Value} {rs : List Row} (h : Grid w B rs) (hu : w.ownsRow B' e 1 u m ys) (he : (5 : Nat) ≠ e) (hg : w.grownBy w' u.ownBlock) : Grid w' B rs :=
  ⟨fun i r hr => (h.own i r hr).kept hg (own_ne (h.own i r hr) hu he), h.sep⟩
end
/-! slices.Clone, bulk.own, aumbryref06.Copied, walked. -/
section
open Go.RowKit
set_option linter.unusedVariables false
set_option linter.unusedSimpArgs false
theorem own_empty (w : World) : (w.alloc (.cells #[] 5)).ownsRow w.heap.size 5 1 (.slice (some ⟨w.heap.size, 0, none⟩) 0 0) 0 (([] : List F).map bv) :=
  ⟨rfl, .inr ⟨w.heap.size, 0, #[], rfl, Nat.le_refl _, heap_alloc_new w _, Nat.le_refl _, Nat.zero_le _, rfl, rfl⟩⟩
set_option maxRecDepth 1000000 in
theorem clone_bytes (A : Option Addr) (n c : Nat) (l : List F) (w : World) (ha : Bs w A c l) (hn : l.length = n) (hm : n ≤ 140737488351232) :
    Calls Try.prog 61 #[.slice A n c] w fun e w' => ∃ A' c', e = .returned (.slice A' n c') ∧ w'.ownsRow w.heap.size 5 1 (.slice A' n c') n (l.map bv) ∧ Below w.heap.size w w' := by
  have HA := Lib.hid ha
  have HN := Lib.hid hn
  have q : ∀ (w : World) (a : Option Addr) (n c : Nat), (binOp .eql 22 (.slice a n c) (.slice none 0 0)).run Try.prog w = .ok (.bool a.isNone) w := fun w a n c => Lib.run_eql_slice_nil w _ _ a n c 0 0 Try.underlying22
  cases A with
  | none =>
    have h0 : l = [] := by
      rcases ha.cells with h | ⟨b, o, h, _⟩
      · exact List.map_eq_nil_iff.1 h
      · cases h
    subst h0
    simp at hn
    subst hn
    clear HA HN ha hm
    go_enter Try.func61, Try.ntmps61
    go_wp2
    go_ret
    exact ⟨none, 0, rfl, World.ownsRow_nil _ _ _ _, Below.refl _ _⟩
  | some a =>
    clear ha hn
    go_enter Try.func61, Try.ntmps61
    have HE := Lib.hid (own_empty w)
    go_wp2_with (at_builtin; refine app_bytes _ rfl _ _ rfl w.heap.size (some ⟨w.heap.size, 0, none⟩) 0 0 [] rfl HE.out (some a) c n l rfl (HA.out.alloc _) HN.out (by omega) (by simp) ?_; intro A3 c3 w3 hown3 hb3; have HO3 := Lib.hid hown3; have HB3 : Hid (Below w.heap.size w w3) := (below_alloc w _).trans hb3; clear hown3 hb3)
    go_ret
    refine ⟨A3, c3, rfl, ?_, HB3.out⟩
    have := HO3.out
    rwa [Nat.zero_add, List.nil_append] at this
theorem make_rows {ops : Array Oper} {rest : List Oper} {o : Oper} {a : Act} {Q : Exit → Act → World → Prop} (w : World) (hg : o.guard = none) (l c : Operand) (hop : o.op = Op.makeSlice 42 l c)
    (kl kc : IntKind) (L C : Int) (N : Nat) (hl : a.eval l = .int kl L) (hc : a.eval c = .int kc C) (hL : L = (N : Int)) (hC : C = (N : Int)) (hN : N ≤ 1000000)
    (hK : ∀ w', w'.ownsRow w.heap.size 22 1 (.slice (some ⟨w.heap.size, 0, none⟩) N N) N (List.replicate N (.slice none 0 0)) → Below w.heap.size w w' → wpList Try.prog ops Q rest (a.put o.dst (.slice (some ⟨w.heap.size, 0, none⟩) N N)) w') : wpList Try.prog ops Q (o :: rest) a w := by
  obtain ⟨i0, hi0, hz0, hz1, hz2⟩ := info_parts info_row
  refine wpList_make_full w hg l c 42 hop w.heap.size 22 i0 _ 1 Try.underlying42 hi0 hz0 hz1 kl kc L C N hl hc hL hC (by rw [hz2]; omega) (by unfold maxLen; omega) (Nat.le_refl _) ?_
  intro w1 hown hgr
  refine hK w1 ?_ ((Below.refl _ _).grown hgr (Nat.le_refl _) (by simp))
  have e : (madeCells (Value.slice none 0 0).cells (N * 1)).toList = List.replicate N (.slice none 0 0) := by
    rw [show (Value.slice none 0 0).cells = #[.slice none 0 0] from rfl, Nat.mul_one, toList_madeCells_one]
  rw [e] at hown
  exact hown
def nilV : Value := .slice none 0 0
/-- a spine while it is filled -/
def spine (rs : List Row) (n : Nat) : List Value := vals rs ++ List.replicate (n - rs.length) nilV
theorem spine_zero (n : Nat) : spine [] n = List.replicate n nilV := rfl
theorem spine_all {rs : List Row} {n : Nat} (h : rs.length = n) : spine rs n = vals rs := by
  subst h; unfold spine; rw [Nat.sub_self]; simp
theorem length_spine {rs : List Row} {n : Nat} (h : rs.length ≤ n) : (spine rs n).length = n := by
  unfold spine; rw [List.length_append, length_vals, List.length_replicate]; omega
theorem spine_snoc {rs : List Row} {n : Nat} (h : rs.length < n) (r : Row) : (spine rs n).set rs.length (rowV r) = spine (rs ++ [r]) n := by
  unfold spine vals
  rw [List.set_append_right _ _ (by rw [List.length_map]; exact Nat.le_refl _), List.length_map, Nat.sub_self]
  obtain ⟨k, hk⟩ : ∃ k, n - rs.length = k + 1 := ⟨n - rs.length - 1, by omega⟩
  rw [hk, List.replicate_succ, List.set_cons_zero, List.map_append, List.length_append, List.length_singleton, show n - (rs.length + 1) = k by omega, List.append_assoc]
  rfl
theorem spine_at {rs : List Row} {n : Nat} (h : rs.length < n) : (spine rs n)[rs.length]? = some nilV := by
  unfold spine vals
  rw [List.getElem?_append_right (by rw [List.length_map]; exact Nat.le_refl _), List.length_map, Nat.sub_self]
  obtain ⟨k, hk⟩ : ∃ k, n - rs.length = k + 1 := ⟨n - rs.length - 1, by omega⟩
  rw [hk]; rfl
theorem Bss.at' {w : World} {vs : List Value} {ls : List (List F)} (h : Bss w vs ls) {i : Nat} (hi : i < ls.length) : ∃ A c l, ls[i]? = some l ∧ vs[i]? = some (.slice A l.length c) ∧ Bs w A c l := by
  obtain ⟨A, c, h1, h2⟩ := h.2 i ls[i] (List.getElem?_eq_getElem hi)
  exact ⟨A, c, _, List.getElem?_eq_getElem hi, h1, h2⟩
theorem lsts_snoc {rs : List Row} {ls : List (List F)} {i : Nat} {l : List F} {A : Option Addr} {c : Nat} (h : lsts rs = ls.take i) (hl : ls[i]? = some l) : lsts (rs ++ [(A, c, l)]) = ls.take (i + 1) := by
  unfold lsts at *
  rw [List.map_append, h, List.take_add_one, hl]
  rfl
/-- what a call has made: a spine and rows of its own -/
structure MadeR (w w' : World) (A : Option Addr) (n c : Nat) (rs : List Row) : Prop where
  sp : w'.ownsRow w.heap.size 22 1 (.slice A n c) n (vals rs)
  gr : Grid w' w.heap.size rs
  bel : Below w.heap.size w w'
set_option maxRecDepth 1000000 in
set_option maxHeartbeats 2000000 in
theorem bulk_own (A : Option Addr) (n c : Nat) (vs : List Value) (ls : List (List F)) (w : World) (ha : Sl w A c vs) (hb : Bss w vs ls) (hn : ls.length = n) (hm : n ≤ 1000) (hl : ∀ l, l ∈ ls → l.length ≤ 100000) :
    Calls Try.prog 51 #[.slice A n c] w fun e w' => ∃ A' c' rs, e = .returned (.slice A' n c') ∧ lsts rs = ls ∧ MadeR w w' A' n c' rs := by
  have HA := Lib.hid ha
  have HB := Lib.hid hb
  have HN := Lib.hid hn
  have HL := Lib.hid hl
  clear ha hb hn hl
  go_enter Try.func51, Try.ntmps51
  go_wp2_with (refine make_rows _ rfl _ _ rfl .i64 .i64 (n : Int) (n : Int) n rfl rfl rfl rfl ?b ?_; (case b => omega); intro w1 ho hb; have HO := Lib.hid ho; have HW := Lib.hid hb; clear ho hb)
  go_loopw [11] (fun v wr => ∃ rs : List Row, rs.length ≤ n ∧ v = .int .i64 rs.length ∧ lsts rs = ls.take rs.length ∧ wr.ownsRow w.heap.size 22 1 (.slice (some ⟨w.heap.size, 0, none⟩) n n) n (spine rs n) ∧ Grid wr w.heap.size rs ∧ Below w.heap.size w wr) (fun v _ => n - (intOf v).toNat)
  case atStart => exact ⟨[], Nat.zero_le _, rfl, rfl, by rw [spine_zero]; exact HO.out, Grid.nil _ _, HW.out⟩
  case round =>
    clear HO HW
    obtain ⟨rs, hi, rfl, hls, hsp, hgr, hbel⟩ := hrel
    have HLS := Lib.hid hls
    have HS := Lib.hid hsp
    have HG := Lib.hid hgr
    have HW := Lib.hid hbel
    clear hls hsp hgr hbel
    obtain ⟨i, hi0⟩ : ∃ i, rs.length = i := ⟨_, rfl⟩
    have HI := Lib.hid hi0
    rw [hi0] at hi ⊢
    clear hi0
    by_cases hlt : i < n
    · obtain ⟨A2, c2, l2, h1, h2, h3⟩ := (HB.out.below HW.out).at' (i := i) (by rw [HN.out]; exact hlt)
      obtain ⟨b, o, hA, _, hc⟩ := Sl.at' (HA.out.below HW.out) (by rw [HB.out.1, HN.out]; omega)
      subst hA
      have y := hc i _ h2
      have hle := HL.out l2 (List.mem_of_getElem? h1)
      have CL : Hid (∀ w', Below wr.heap.size wr w' → Calls Try.prog 61 #[.slice A2 l2.length c2] w' fun e w'' => ∃ A' c', e = .returned (.slice A' l2.length c') ∧ w''.ownsRow w'.heap.size 5 1 (.slice A' l2.length c') l2.length (l2.map bv) ∧ Below w'.heap.size w' w'') := fun w' hb => clone_bytes A2 l2.length c2 l2 w' (h3.below hb) rfl (by omega)
      have H1 := Lib.hid h1
      clear hc h1 h2 h3 hle
      have hit : (i : Int) < (n : Int) := by omega
      go_wp2_with (go_at_call 61; (with_reducible refine (CL.out _ ?_).mono ?_); (first | exact Below.refl _ _ | exact below_drew0 _ _); rintro e w3 ⟨A3, c3, rfl, ho3, hb3⟩; have HS3 := Lib.hid (own_below HS.out hb3); have hcl := HS3.out.cellAt i (by omega); have hfz := HS3.out.frozenAt i; rw [← HI.out, spine_at (by rw [HI.out]; exact hlt), HI.out] at hcl; unfold nilV at hcl; have HO3 := Lib.hid ho3; have HB3 := Lib.hid hb3; clear ho3 hb3)
      go_roundw
      case rel =>
        have hg3 := HG.out.snoc HB3.out (r := (A3, c3, l2)) HO3.out HW.out.size
        have hst := (HS3.out.stored i (.slice A3 l2.length c3)).1
        rw [show (spine rs n).set i (.slice A3 l2.length c3) = spine (rs ++ [(A3, c3, l2)]) n by rw [← HI.out]; exact spine_snoc (by rw [HI.out]; exact hlt) (A3, c3, l2)] at hst
        refine ⟨rs ++ [(A3, c3, l2)], by rw [List.length_append, HI.out, List.length_singleton]; omega, by rw [List.length_append, HI.out, List.length_singleton]; go_num, by rw [List.length_append, List.length_singleton, HI.out]; exact lsts_snoc (by rw [← HI.out]; exact HLS.out) H1.out, hst, hg3.beside ((Beside.refl w.heap.size w3).setCell i _) fun j r hr => ?_, (HW.out.trans (HB3.out.mono HW.out.size)).setCell (Nat.le_refl _) _⟩
        intro hx
        rcases own_ne (hg3.own j r hr) HS3.out (by decide) with h | h
        · rw [h] at hx; cases hx
        · exact h hx
      case measure => simp [intOf]; omega
    · have hie : i = n := by omega
      subst hie
      go_wp2
      go_ret
      refine ⟨_, _, rs, rfl, ?_, ?_, HG.out, HW.out⟩
      · rw [HLS.out, HI.out]; exact List.take_of_length_le (by rw [HN.out]; exact Nat.le_refl _)
      · have := HS.out
        rwa [spine_all HI.out] at this
end
/-! Appends to a spine; aumbryref06.Copied, walked. -/
section
open Go.RowKit
set_option linter.unusedVariables false
set_option linter.unusedSimpArgs false
theorem lit_row {w : World} {n : Nat} (u : Value) (hn : n = w.heap.size) : Sl (w.alloc (.cells #[u] 22)) (some ⟨n, 0, none⟩) 1 [u] := by
  subst hn
  exact ⟨by simp, by unfold maxLen; omega, .inr ⟨w.heap.size, 0, rfl, by simp, fun i v hv => by
    rw [Nat.zero_add, World.cell?_alloc_new]
    simpa using hv⟩⟩
theorem app_spine {ops : Array Oper} {rest : List Oper} {o : Oper} {a : Act} {Q : Exit → Act → World → Prop} (w : World) (hg : o.guard = none) (s x : Operand)
    (ho : o.op = .call { callee := .builtin .append, args := #[s, x], argTypes := #[42, 42] })
    (B : Nat) (A1 : Option Addr) (c1 n : Nat) (xs : List Value) (hs : a.eval s = .slice A1 n c1) (hown : w.ownsRow B 22 1 (.slice A1 n c1) n xs)
    (A : Option Addr) (c : Nat) (u : Value) (hx : a.eval x = .slice A 1 c) (hl : Sl w A c [u]) (hu : u.oneCell' = true) (hN : n ≤ 100000) (hB : B ≤ w.heap.size)
    (hK : ∀ A' c' w', w'.ownsRow B 22 1 (.slice A' (n + 1) c') (n + 1) (xs ++ [u]) → w.grownBy w' (Value.slice A1 n c1).ownBlock → wpList Try.prog ops Q rest (a.put o.dst (.slice A' (n + 1) c')) w') : wpList Try.prog ops Q (o :: rest) a w := by
  refine app_sl w hg s x 42 ho B 22 (.slice none 0 0) 24 Try.underlying42 info_row rfl _ n xs hs hown A c [u] (by simpa using hx) hl (fun v hv => by simp at hv; subst hv; exact hu) (by decide) (by simp; omega) hB ?_
  intro v' w' h1 h2
  simp only [List.length_singleton] at h1
  obtain ⟨A', c', rfl⟩ := own_form h1
  exact hK A' c' w' h1 h2
theorem vals_snoc (rs : List Row) (r : Row) : vals rs ++ [rowV r] = vals (rs ++ [r]) := by unfold vals; rw [List.map_append]; rfl
set_option maxRecDepth 1000000 in
set_option maxHeartbeats 2000000 in
theorem ref06_copied (A : Option Addr) (n c : Nat) (vs : List Value) (ls : List (List F)) (w : World) (ha : Sl w A c vs) (hb : Bss w vs ls) (hn : ls.length = n) (hm : n ≤ 1000) (hl : ∀ l, l ∈ ls → l.length ≤ 100000) :
    Calls Try.prog 58 #[.slice A n c] w fun e w' => ∃ A' c' rs, e = .returned (.slice A' n c') ∧ lsts rs = ls ∧ MadeR w w' A' n c' rs := by
  have HA := Lib.hid ha
  have HB := Lib.hid hb
  have HN := Lib.hid hn
  have HL := Lib.hid hl
  clear ha hb hn hl
  go_enter Try.func58, Try.ntmps58
  go_wp2
  go_loopw [3, 4] (fun v x wr => ∃ (rs : List Row) (A' : Option Addr) (c' : Nat), rs.length ≤ n ∧ x = .int .i64 rs.length ∧ v = .slice A' rs.length c' ∧ lsts rs = ls.take rs.length ∧ wr.ownsRow w.heap.size 22 1 (.slice A' rs.length c') rs.length (vals rs) ∧ Grid wr w.heap.size rs ∧ Below w.heap.size w wr) (fun _ x _ => n - (intOf x).toNat)
  case atStart => exact ⟨[], none, 0, Nat.zero_le _, rfl, rfl, rfl, World.ownsRow_nil _ _ _ _, Grid.nil _ _, Below.refl _ _⟩
  case round =>
    obtain ⟨rs, A1, c1, hi, rfl, rfl, hls, hsp, hgr, hbel⟩ := hrel
    have HLS := Lib.hid hls
    have HS := Lib.hid hsp
    have HG := Lib.hid hgr
    have HW := Lib.hid hbel
    clear hls hsp hgr hbel
    obtain ⟨i, hi0⟩ : ∃ i, rs.length = i := ⟨_, rfl⟩
    have HI := Lib.hid hi0
    rw [hi0] at hi HS ⊢
    clear hi0
    by_cases hlt : i < n
    · obtain ⟨A2, c2, l2, h1, h2, h3⟩ := (HB.out.below HW.out).at' (i := i) (by rw [HN.out]; exact hlt)
      obtain ⟨b, o, hA, _, hc⟩ := Sl.at' ((HA.out.below HW.out).alloc (.cells #[] 5)) (by rw [HB.out.1, HN.out]; omega)
      subst hA
      have y := hc i _ h2
      have hle := HL.out l2 (List.mem_of_getElem? h1)
      have H1 := Lib.hid h1
      have H3 := Lib.hid (Sl.alloc h3 (.cells #[] 5))
      have HE := Lib.hid (own_empty wr)
      clear hc h1 h2 h3
      have hit : (i : Int) < (n : Int) := by omega
      go_wp2_with (first
        | (at_builtin; refine app_bytes _ rfl _ _ rfl wr.heap.size (some ⟨wr.heap.size, 0, none⟩) 0 0 [] rfl HE.out A2 c2 l2.length l2 rfl H3.out rfl (by omega) (by simp) ?_; intro A3 c3 w3 hown3 hb3; rw [Nat.zero_add, List.nil_append] at hown3; have HO3 := Lib.hid hown3; have HB3 : Hid (Below wr.heap.size wr w3) := (below_alloc wr _).trans hb3; clear hown3 hb3)
        | (at_builtin; refine app_spine _ rfl _ _ rfl w.heap.size A1 c1 i (vals rs) rfl (own_below HS.out (HB3.out.trans ((below_alloc w3 _).mono HB3.out.size))) _ 1 (.slice A3 l2.length c3) rfl (lit_row _ rfl) rfl (by omega) ?hb ?_; (case hb => exact Nat.le_trans HW.out.size (Nat.le_trans HB3.out.size (by simp))); intro A4 c4 w4 hown4 hgr4; have HO4 := Lib.hid hown4; have HG4 := Lib.hid hgr4; clear hown4 hgr4))
      go_roundw
      case rel =>
        have hb5 : Below wr.heap.size wr (w3.alloc (.cells #[.slice A3 l2.length c3] 22)) := HB3.out.trans ((below_alloc w3 _).mono HB3.out.size)
        have hs5 := own_below HS.out hb5
        have hg3 := (HG.out.snoc HB3.out (r := (A3, c3, l2)) HO3.out HW.out.size).below (below_alloc w3 (.cells #[.slice A3 l2.length c3] 22))
        have ho4 := HO4.out
        rw [show vals rs ++ [.slice A3 l2.length c3] = vals (rs ++ [(A3, c3, l2)]) from vals_snoc rs (A3, c3, l2)] at ho4
        have hlen : (rs ++ [(A3, c3, l2)]).length = i + 1 := by rw [List.length_append, HI.out, List.length_singleton]
        refine ⟨rs ++ [(A3, c3, l2)], A4, c4, by rw [hlen]; omega, by rw [hlen]; go_num, by rw [hlen], by rw [hlen]; exact lsts_snoc (by rw [← HI.out]; exact HLS.out) H1.out, by rw [hlen]; exact ho4, hg3.grown hs5 (by decide) HG4.out, own_grow (HW.out.trans (hb5.mono HW.out.size)) hs5 HG4.out (Nat.le_trans HW.out.size hb5.size)⟩
      case measure => simp [intOf]; omega
    · have hie : i = n := by omega
      subst hie
      go_wp2
      go_ret
      refine ⟨_, _, rs, rfl, ?_, HS.out, HG.out, HW.out⟩
      rw [HLS.out, HI.out]; exact List.take_of_length_le (by rw [HN.out]; exact Nat.le_refl _)
end
/-! aumbryref06.Alike, walked: n shards, all of one length. -/
section
open Go.RowKit
set_option linter.unusedVariables false
set_option linter.unusedSimpArgs false
def lenAt (ls : List (List F)) (i : Nat) : Nat := (ls.getD i []).length
def Alk (ls : List (List F)) (n : Int) : Prop := (ls.length : Int) = n ∧ ∀ i, i < ls.length → lenAt ls i = lenAt ls 0
theorem Bss.len {w : World} {vs : List Value} {ls : List (List F)} (h : Bss w vs ls) {i : Nat} (hi : i < ls.length) : ∃ A c, vs[i]? = some (.slice A (lenAt ls i) c) ∧ Bs w A c (ls.getD i []) := by
  obtain ⟨A, c, l, h1, h2, h3⟩ := h.at' hi
  have e : ls.getD i [] = l := by rw [List.getD_eq_getElem?_getD, h1]; rfl
  exact ⟨A, c, by unfold lenAt; rw [e]; exact h2, by rw [e]; exact h3⟩
set_option maxRecDepth 1000000 in
theorem ref06_alike (A : Option Addr) (n c : Nat) (vs : List Value) (ls : List (List F)) (N : Int) (w : World) (ha : Sl w A c vs) (hb : Bss w vs ls) (hn : ls.length = n) (hm : n ≤ 1000) :
    Calls Try.prog 57 #[.slice A n c, .int .i64 N] w fun e w' => (Alk ls N ∧ e = .returned (.bool true) ∨ ¬ Alk ls N ∧ e = .returned (.bool false)) ∧ Below w.heap.size w w' := by
  have HA := Lib.hid ha
  have HB := Lib.hid hb
  have HN := Lib.hid hn
  clear ha hb hn
  by_cases h0 : (n : Int) = N
  · subst h0
    have d0 : ((n : Int) == (n : Int)) = true := by rw [beq_iff_eq]
    have d1 : ((n : Int) != (n : Int)) = false := by rw [bne_self_eq_false]
    go_enter Try.func57, Try.ntmps57
    go_wp2
    go_loopw [5] (fun v wr => ∃ i : Nat, 1 ≤ i ∧ v = .int .i64 i ∧ i ≤ n + 1 ∧ (∀ j, j < i → j < n → lenAt ls j = lenAt ls 0) ∧ Since w wr) (fun v _ => n + 1 - (intOf v).toNat)
    case atStart => exact ⟨1, Nat.le_refl _, rfl, by omega, fun j h1 h2 => by rw [show j = 0 by omega], Since.refl _⟩
    case round =>
      obtain ⟨i, h1, rfl, hi, hal, hs⟩ := hrel
      have HAL := Lib.hid hal
      have S1 := Lib.hid hs
      clear hal hs
      by_cases hlt : i < n
      · obtain ⟨A2, c2, h2, _⟩ := (HB.out.below S1.out).len (i := i) (by rw [HN.out]; exact hlt)
        obtain ⟨A3, c3, h3, _⟩ := (HB.out.below S1.out).len (i := 0) (by rw [HN.out]; omega)
        obtain ⟨b, o, hA, _, hc⟩ := Sl.at' (HA.out.below S1.out) (by rw [HB.out.1, HN.out]; omega)
        subst hA
        have y2 := hc i _ h2
        have y3 := hc 0 _ h3
        rw [Nat.add_zero] at y3
        have hit : (i : Int) < (n : Int) := by omega
        have h0t : (0 : Int) < (n : Int) := by omega
        clear hc h2 h3
        by_cases he : lenAt ls i = lenAt ls 0
        · have e0 : ((lenAt ls i : Int) == (lenAt ls 0 : Int)) = true := by rw [beq_iff_eq, he]
          have e1 : ((lenAt ls i : Int) != (lenAt ls 0 : Int)) = false := by rw [bne_eq_false_iff_eq, he]
          have HAL2 : Hid (∀ j, j < i + 1 → j < n → lenAt ls j = lenAt ls 0) := fun j hj1 hj2 => by
            rcases Nat.lt_or_ge j i with h | h
            · exact HAL.out j h hj2
            · rw [show j = i by omega]; exact he
          clear he
          go_wp2
          go_quiet (fail)
          go_wp2
          go_roundw
          case rel => exact ⟨i + 1, by omega, by go_num, by omega, HAL2.out, S1.out.drewN _⟩
          case measure => simp [intOf]; omega
        · have e0 : ((lenAt ls i : Int) == (lenAt ls 0 : Int)) = false := by rw [beq_eq_false_iff_ne]; omega
          have e1 : ((lenAt ls i : Int) != (lenAt ls 0 : Int)) = true := by rw [bne_iff_ne]; omega
          have NG : Hid (¬ Alk ls (n : Int)) := fun h => he (h.2 i (by rw [HN.out]; exact hlt))
          clear he
          go_wp2
          go_quiet (fail)
          go_wp2
          go_ret
          refine ⟨?_, S1.out.drewN _⟩
          right
          exact ⟨NG.out, rfl⟩
      · have YG : Hid (Alk ls (n : Int)) := ⟨by rw [HN.out], fun j hj => HAL.out j (by rw [HN.out] at hj; omega) (by rw [HN.out] at hj; exact hj)⟩
        have hge : ¬ (i : Int) < (n : Int) := by omega
        go_wp2
        go_ret
        refine ⟨?_, S1.out⟩
        left
        exact ⟨YG.out, rfl⟩
  · have d0 : ((n : Int) == N) = false := by rw [beq_eq_false_iff_ne]; exact h0
    have d1 : ((n : Int) != N) = true := by rw [bne_iff_ne]; exact h0
    have NG : Hid (¬ Alk ls N) := fun h => h0 (by rw [← HN.out]; exact h.1)
    clear h0
    go_enter Try.func57, Try.ntmps57
    go_wp2
    go_ret
    refine ⟨?_, Below.refl _ _⟩
    right
    exact ⟨NG.out, rfl⟩
end
/-! bulk.checked, walked. -/
section
open Go.RowKit
set_option linter.unusedVariables false
set_option linter.unusedSimpArgs false
set_option maxRecDepth 1000000 in
set_option maxHeartbeats 2000000 in
theorem bulk_checked (b k m : Nat) (N : Int) (A : Option Addr) (n c : Nat) (vs : List Value) (ls : List (List F)) (w : World) (hkm : okkm k m) (hg : GfAt w b) (ha : Sl w A c vs) (hb : Bss w vs ls) (hn : ls.length = n) (hm : n ≤ 1000) :
    Calls Try.prog 50 #[fp b, .int .i64 k, .int .i64 m, .int .i64 N, .slice A n c] w fun e w' => ∃ A' c', (Alk ls N ∧ e = .returned (.tuple #[.agg #[.int .i64 (m : Int), .int .i64 (k : Int), .slice A' (m * k) c'], .int .i64 0]) ∨ ¬ Alk ls N ∧ e = .returned (.tuple #[.agg #[.int .i64 (m : Int), .int .i64 (k : Int), .slice A' (m * k) c'], .int .i64 60])) ∧ Bs w' A' c' (matL m k (parF k)) ∧ Below w.heap.size w w' := by
  have HA := Lib.hid ha
  have HB := Lib.hid hb
  have HN := Lib.hid hn
  have PA : Hid (∀ w, GfAt w b → Calls Try.prog 60 #[fp b, .int .i64 k, .int .i64 m] w fun e w' => ∃ A' c', e = .returned (.tuple #[.agg #[.int .i64 (m : Int), .int .i64 (k : Int), .slice A' (m * k) c'], .int .i64 0]) ∧ w'.ownsRow w.heap.size 5 1 (.slice A' (m * k) c') (m * k) ((matL m k (parF k)).map bv) ∧ Below w.heap.size w w') := fun w hg => cauchy_Parity b k m hkm w hg
  have HG := Lib.hid (hg.alloc (.cells #[.int .i64 0, .int .i64 0, .slice none 0 0] 24))
  clear ha hb hn hg hkm
  generalize matL m k (parF k) = lp at *
  generalize m * k = nm at *
  have K0 := Lib.hid (kn1 w 24 #[.int .i64 0, .int .i64 0, .slice none 0 0])
  have W0 := Lib.hid (below1 w (.cells #[.int .i64 0, .int .i64 0, .slice none 0 0] 24))
  have ALK : Hid ((n : Int) = N → (∀ j, j < n → lenAt ls j = lenAt ls 0) → Alk ls N) := fun h1 h2 => ⟨by rw [HN.out]; exact h1, fun j hj => h2 j (by rw [HN.out] at hj; exact hj)⟩
  unfold fp at PA ⊢
  go_enter Try.func50, Try.ntmps50
  go_wp2
  go_step3
  go_wp2_with (go_at_call 60; (with_reducible refine (PA.out _ HG.out).mono ?_); rintro e w1 ⟨Ap, cp, rfl, ho1, hb1⟩; have K1 := Lib.hid (((K0.out.below hb1).alloc (.cells #[.int .i64 (m : Int), .int .i64 (k : Int), .slice Ap nm cp] 24)).blk (Blk.new w1 #[.int .i64 (m : Int), .int .i64 (k : Int), .slice Ap nm cp] 24)); have W1 : Hid (Below w.heap.size w (w1.alloc (.cells #[.int .i64 (m : Int), .int .i64 (k : Int), .slice Ap nm cp] 24))) := (W0.out.trans (hb1.mono W0.out.size)).alloc (W0.out.trans (hb1.mono W0.out.size)).size _; have OW := Lib.hid (ho1.alloc (.cells #[.int .i64 (m : Int), .int .i64 (k : Int), .slice Ap nm cp] 24)); clear hb1 ho1)
  have X : Hid (Since (w1.alloc (.cells #[.int .i64 (m : Int), .int .i64 (k : Int), .slice Ap nm cp] 24)) (w1.alloc (.cells #[.int .i64 (m : Int), .int .i64 (k : Int), .slice Ap nm cp] 24))) := Since.refl _
  go_step3
  go_wp2
  go_loopw [14, 34] (fun u v wr => ∃ i : Nat, i ≤ n ∧ v = .int .i64 i ∧ u = .bool ((n : Int) != N) ∧ (∀ j, j < i → lenAt ls j = lenAt ls 0) ∧ Since (w1.alloc (.cells #[.int .i64 (m : Int), .int .i64 (k : Int), .slice Ap nm cp] 24)) wr) (fun _ v _ => n - (intOf v).toNat)
  case atStart => exact ⟨0, Nat.zero_le _, rfl, rfl, fun j h => absurd h (Nat.not_lt_zero j), Since.refl _⟩
  case round =>
    clear X
    obtain ⟨i, hi, rfl, rfl, hal, hs⟩ := hrel
    have HAL := Lib.hid hal
    have K2 := Lib.hid (K1.out.below hs)
    have S2 : Hid (Below w.heap.size w wr) := W1.out.trans (hs.mono W1.out.size)
    have OW2 := Lib.hid (own_below OW.out hs)
    have S1 := Lib.hid hs
    have NE2 := Lib.hid (own_ne_blk OW2.out (K2.out.at (.tail _ (.head _))) (by decide))
    have p0 := (K2.out.at (.head _)).cell 0; have p1 := (K2.out.at (.head _)).cell 1; have p2 := (K2.out.at (.head _)).cell 2; simp only [List.getElem?_toArray, List.getElem?_cons_succ, List.getElem?_cons_zero] at p0 p1 p2; have q0 := (K2.out.at (.tail _ (.head _))).cell 0; have q1 := (K2.out.at (.tail _ (.head _))).cell 1; have q2 := (K2.out.at (.tail _ (.head _))).cell 2; have qz0 := (K2.out.at (.tail _ (.head _))).frozen 0; have qz1 := (K2.out.at (.tail _ (.head _))).frozen 1; have qz2 := (K2.out.at (.tail _ (.head _))).frozen 2; simp only [List.getElem?_toArray, List.getElem?_cons_succ, List.getElem?_cons_zero] at q0 q1 q2
    clear hal hs
    by_cases hlt : i < n
    · obtain ⟨A2, c2, h2, _⟩ := (HB.out.below S2.out).len (i := i) (by rw [HN.out]; exact hlt)
      obtain ⟨A3, c3, h3, _⟩ := (HB.out.below S2.out).len (i := 0) (by rw [HN.out]; omega)
      obtain ⟨b', o, hA, _, hc⟩ := Sl.at' (HA.out.below S2.out) (by rw [HB.out.1, HN.out]; omega)
      subst hA
      have y2 := hc i _ h2
      have y3 := hc 0 _ h3
      rw [Nat.add_zero] at y3
      have hit : (i : Int) < (n : Int) := by omega
      have h0t : (0 : Int) < (n : Int) := by omega
      clear hc h2 h3
      by_cases he : lenAt ls i = lenAt ls 0
      · have e0 : ((lenAt ls i : Int) == (lenAt ls 0 : Int)) = true := by rw [beq_iff_eq, he]
        have e1 : ((lenAt ls i : Int) != (lenAt ls 0 : Int)) = false := by rw [bne_eq_false_iff_eq, he]
        have HAL2 : Hid (∀ j, j < i + 1 → lenAt ls j = lenAt ls 0) := fun j hj1 => by
          rcases Nat.lt_or_ge j i with h | h
          · exact HAL.out j h
          · rw [show j = i by omega]; exact he
        clear he
        go_wp2
        go_roundw
        case rel => exact ⟨i + 1, by omega, by go_num, rfl, HAL2.out, S1.out⟩
        case measure => simp [intOf]; omega
      · have e0 : ((lenAt ls i : Int) == (lenAt ls 0 : Int)) = false := by rw [beq_eq_false_iff_ne]; omega
        have e1 : ((lenAt ls i : Int) != (lenAt ls 0 : Int)) = true := by rw [bne_iff_ne]; omega
        have NG : Hid (¬ Alk ls N) := fun h => he (h.2 i (by rw [HN.out]; exact hlt))
        clear he
        go_wp2
        have hfin := (((K2.out.at (.tail _ (.head _))).set 0 (.int .i64 (m : Int))).set 1 (.int .i64 (k : Int))).set 2 (.slice Ap nm cp)
        have h3 := hfin.cell 0
        have h4 := hfin.cell 1
        have h5 := hfin.cell 2
        simp only [List.getElem?_toArray, List.getElem?_cons_succ, List.getElem?_cons_zero, List.setIfInBounds_toArray, List.set_cons_zero, List.set_cons_succ] at h3 h4 h5
        (try rw [Exit.noGoto_ret])
        refine bodyPost_ret (v := .tuple #[.agg #[.int .i64 (m : Int), .int .i64 (k : Int), .slice Ap nm cp], .int .i64 60]) ?_ rfl ?_
        · rw [results_cell_tmp rfl]
          go_simp
        · refine ⟨Ap, cp, .inr ⟨NG.out, rfl⟩, ?_, ((S2.out.setCell (Nat.le_refl _) _).setCell (Nat.le_refl _) _).setCell (Nat.le_refl _) _⟩
          exact ((own_sl (ownsRow_setCell_other (ownsRow_setCell_other (ownsRow_setCell_other OW2.out NE2.out _) NE2.out _) NE2.out _)))
    · have hge : ¬ (i : Int) < (n : Int) := by omega
      by_cases h0 : (n : Int) = N
      · have d0 : ((n : Int) == N) = true := by rw [beq_iff_eq]; exact h0
        have d1 : ((n : Int) != N) = false := by rw [bne_eq_false_iff_eq]; exact h0
        have YG : Hid (Alk ls N) := ALK.out h0 fun j hj => HAL.out j (by omega)
        clear h0
        go_wp2
        have hfin := (((K2.out.at (.tail _ (.head _))).set 0 (.int .i64 (m : Int))).set 1 (.int .i64 (k : Int))).set 2 (.slice Ap nm cp)
        have h3 := hfin.cell 0
        have h4 := hfin.cell 1
        have h5 := hfin.cell 2
        simp only [List.getElem?_toArray, List.getElem?_cons_succ, List.getElem?_cons_zero, List.setIfInBounds_toArray, List.set_cons_zero, List.set_cons_succ] at h3 h4 h5
        (try rw [Exit.noGoto_ret])
        refine bodyPost_ret (v := .tuple #[.agg #[.int .i64 (m : Int), .int .i64 (k : Int), .slice Ap nm cp], .int .i64 0]) ?_ rfl ?_
        · rw [results_cell_tmp rfl]
          go_simp
        · refine ⟨Ap, cp, .inl ⟨YG.out, rfl⟩, ?_, ((S2.out.setCell (Nat.le_refl _) _).setCell (Nat.le_refl _) _).setCell (Nat.le_refl _) _⟩
          exact ((own_sl (ownsRow_setCell_other (ownsRow_setCell_other (ownsRow_setCell_other OW2.out NE2.out _) NE2.out _) NE2.out _)))
      · have d0 : ((n : Int) == N) = false := by rw [beq_eq_false_iff_ne]; exact h0
        have d1 : ((n : Int) != N) = true := by rw [bne_iff_ne]; exact h0
        have NG : Hid (¬ Alk ls N) := fun h => h0 (by rw [← HN.out]; exact h.1)
        clear h0
        go_wp2
        have hfin := (((K2.out.at (.tail _ (.head _))).set 0 (.int .i64 (m : Int))).set 1 (.int .i64 (k : Int))).set 2 (.slice Ap nm cp)
        have h3 := hfin.cell 0
        have h4 := hfin.cell 1
        have h5 := hfin.cell 2
        simp only [List.getElem?_toArray, List.getElem?_cons_succ, List.getElem?_cons_zero, List.setIfInBounds_toArray, List.set_cons_zero, List.set_cons_succ] at h3 h4 h5
        (try rw [Exit.noGoto_ret])
        refine bodyPost_ret (v := .tuple #[.agg #[.int .i64 (m : Int), .int .i64 (k : Int), .slice Ap nm cp], .int .i64 60]) ?_ rfl ?_
        · rw [results_cell_tmp rfl]
          go_simp
        · refine ⟨Ap, cp, .inr ⟨NG.out, rfl⟩, ?_, ((S2.out.setCell (Nat.le_refl _) _).setCell (Nat.le_refl _) _).setCell (Nat.le_refl _) _⟩
          exact ((own_sl (ownsRow_setCell_other (ownsRow_setCell_other (ownsRow_setCell_other OW2.out NE2.out _) NE2.out _) NE2.out _)))
end
/-! bulk.checked, where the numbers may not be. -/
section
open Go.RowKit
set_option linter.unusedVariables false
set_option linter.unusedSimpArgs false
set_option maxRecDepth 1000000 in
theorem bulk_checked_bad (b : Nat) (k m N : Int) (A : Option Addr) (n c : Nat) (w : World) (hk : i64ok k) (hm : i64ok m) (hkm : ¬ okkm k m) :
    Calls Try.prog 50 #[fp b, .int .i64 k, .int .i64 m, .int .i64 N, .slice A n c] w fun e w' => e = .returned (.tuple #[noMat, .int .i64 50]) ∧ Below w.heap.size w w' := by
  have PA : Hid (∀ w, Calls Try.prog 60 #[fp b, .int .i64 k, .int .i64 m] w fun e w' => e = .returned (.tuple #[noMat, .int .i64 50]) ∧ Below w.heap.size w w') := fun w => cauchy_bad_Parity b k m hk hm hkm w
  clear hk hm hkm
  have K0 := Lib.hid (kn1 w 24 #[.int .i64 0, .int .i64 0, .slice none 0 0])
  have W0 := Lib.hid (below1 w (.cells #[.int .i64 0, .int .i64 0, .slice none 0 0] 24))
  unfold fp at PA ⊢
  unfold noMat at PA ⊢
  go_enter Try.func50, Try.ntmps50
  go_wp2
  go_step3
  go_wp2_with (go_at_call 60; (with_reducible refine (PA.out _).mono ?_); rintro e w1 ⟨rfl, hb1⟩; have K1 := Lib.hid ((K0.out.below hb1).alloc (.cells #[.int .i64 0, .int .i64 0, .slice none 0 0] 24)); have W1 : Hid (Below w.heap.size w (w1.alloc (.cells #[.int .i64 0, .int .i64 0, .slice none 0 0] 24))) := (W0.out.trans (hb1.mono W0.out.size)).alloc (W0.out.trans (hb1.mono W0.out.size)).size _; have q0 := (K1.out.at (.head _)).cell 0; have q1 := (K1.out.at (.head _)).cell 1; have q2 := (K1.out.at (.head _)).cell 2; have z0 := (K1.out.at (.head _)).frozen 0; have z1 := (K1.out.at (.head _)).frozen 1; have z2 := (K1.out.at (.head _)).frozen 2; simp only [List.getElem?_toArray, List.getElem?_cons_succ, List.getElem?_cons_zero] at q0 q1 q2; clear hb1)
  have hfin := (((K1.out.at (.head _)).set 0 (.int .i64 0)).set 1 (.int .i64 0)).set 2 (.slice none 0 0)
  have h3 := hfin.cell 0
  have h4 := hfin.cell 1
  have h5 := hfin.cell 2
  simp only [List.getElem?_toArray, List.getElem?_cons_succ, List.getElem?_cons_zero, List.setIfInBounds_toArray, List.set_cons_zero, List.set_cons_succ] at h3 h4 h5
  (try rw [Exit.noGoto_ret])
  refine bodyPost_ret (v := .tuple #[.agg #[.int .i64 0, .int .i64 0, .slice none 0 0], .int .i64 50]) ?_ rfl ?_
  · rw [results_cell_tmp rfl]
    go_simp
  · exact ⟨rfl, ((W1.out.setCell (Nat.le_refl _) _).setCell (Nat.le_refl _) _).setCell (Nat.le_refl _) _⟩
end
/-! aumbryref06.Same, of lists that are alike. -/
section
open Go.RowKit
set_option linter.unusedVariables false
set_option linter.unusedSimpArgs false
set_option maxRecDepth 1000000 in
theorem ref06_same_true (A : Option Addr) (n c : Nat) (vs : List Value) (A' : Option Addr) (c' : Nat) (vs' : List Value) (ls : List (List F)) (w : World) (ha : Sl w A c vs) (hb : Bss w vs ls) (ha' : Sl w A' c' vs') (hb' : Bss w vs' ls) (hn : ls.length = n) (hm : n ≤ 1000) :
    Calls Try.prog 23 #[.slice A n c, .slice A' n c'] w fun e w' => e = .returned (.bool true) ∧ Below w.heap.size w w' := by
  have HA := Lib.hid ha
  have HB := Lib.hid hb
  have HA' := Lib.hid ha'
  have HB' := Lib.hid hb'
  have HN := Lib.hid hn
  clear ha hb hn ha' hb'
  go_enter Try.func23, Try.ntmps23
  go_wp2
  go_loopw [5] (fun v wr => ∃ i : Nat, i ≤ n ∧ v = .int .i64 i ∧ Since w wr) (fun v _ => n - (intOf v).toNat)
  case atStart => exact ⟨0, Nat.zero_le _, rfl, Since.refl _⟩
  case round =>
    obtain ⟨i, hi, rfl, hs⟩ := hrel
    have S1 := Lib.hid hs
    clear hs
    by_cases hlt : i < n
    · obtain ⟨A2, c2, h2, h2b⟩ := (HB.out.below S1.out).len (i := i) (by rw [HN.out]; exact hlt)
      obtain ⟨A3, c3, h3, h3b⟩ := (HB'.out.below S1.out).len (i := i) (by rw [HN.out]; exact hlt)
      obtain ⟨b, o, hA, _, hc⟩ := Sl.at' (HA.out.below S1.out) (by rw [HB.out.1, HN.out]; omega)
      obtain ⟨b', o', hA', _, hc'⟩ := Sl.at' (HA'.out.below S1.out) (by rw [HB'.out.1, HN.out]; omega)
      subst hA
      subst hA'
      have y2 := hc i _ h2
      have y3 := hc' i _ h3
      have hit : (i : Int) < (n : Int) := by omega
      have SM : Hid (∀ w', Below wr.heap.size wr w' → Calls Try.prog 34 #[.slice A2 (lenAt ls i) c2, .slice A3 (lenAt ls i) c3] w' fun e w'' => e = .returned (.bool true) ∧ Below w'.heap.size w' w'') := fun w' hb => same_true A2 c2 _ A3 c3 _ w' (h2b.below hb) (h3b.below hb) rfl
      clear hc hc' h2 h3 h2b h3b
      go_wp2
      go_region_law (go_simp; go_at_call 34; (with_reducible refine (SM.out _ ?_).mono ?_); (first | exact Below.refl _ _ | exact below_drew0 _ _ | exact below_drew0 _ 1); rintro e w3 ⟨rfl, hb3⟩; have HB3 : Hid (Below wr.heap.size wr w3) := ((below_drew0 wr 1).trans hb3); clear hb3)
      all_goals
        go_wp2
        go_roundw
        case rel => exact ⟨i + 1, by omega, by go_num, S1.out.below HB3.out⟩
        case measure => simp [intOf]; omega
    · have hie : i = n := by omega
      subst hie
      go_wp2
      go_ret
      exact ⟨rfl, S1.out⟩
end
/-! Rows whose numbers are turned, one behind the other. -/
section
open Go.RowKit
set_option linter.unusedVariables false
/-- rows below i are turned by h; of the row i the first n numbers -/
def rowT (h : Nat → Nat → F → F) (i n a : Nat) (r : Row) : Row := (r.1, r.2.1, tab r.2.2.length fun x => if a < i ∨ a = i ∧ x < n then h a x (r.2.2.getD x 0) else r.2.2.getD x 0)
def rowsT (rs : List Row) (h : Nat → Nat → F → F) (i n : Nat) : List Row := rs.mapIdx (rowT h i n)
/-- all rows turned -/
def mapR (h : Nat → Nat → F → F) (ls : List (List F)) : List (List F) := ls.mapIdx fun a l => tab l.length fun x => h a x (l.getD x 0)
theorem length_mapR (h : Nat → Nat → F → F) (ls : List (List F)) : (mapR h ls).length = ls.length := List.length_mapIdx ..
theorem length_rowsT (rs : List Row) (h : Nat → Nat → F → F) (i n : Nat) : (rowsT rs h i n).length = rs.length := List.length_mapIdx ..
theorem rowV_rowT (h : Nat → Nat → F → F) (i n a : Nat) (r : Row) : rowV (rowT h i n a r) = rowV r := by unfold rowV rowT; rw [length_tab]
theorem vals_rowsT (rs : List Row) (h : Nat → Nat → F → F) (i n : Nat) : vals (rowsT rs h i n) = vals rs := by
  refine List.ext_getElem? fun a => ?_
  unfold vals rowsT
  rw [List.getElem?_map, List.getElem?_mapIdx, List.getElem?_map]
  cases rs[a]? with
  | none => rfl
  | some r => show some (rowV (rowT h i n a r)) = some (rowV r); rw [rowV_rowT]
theorem rowsT_zero (rs : List Row) (h : Nat → Nat → F → F) : rowsT rs h 0 0 = rs := by
  refine List.ext_getElem? fun a => ?_
  unfold rowsT
  rw [List.getElem?_mapIdx]
  cases rs[a]? with
  | none => rfl
  | some r =>
    show some (rowT h 0 0 a r) = some r
    unfold rowT
    rw [show (tab r.2.2.length fun x => if a < 0 ∨ a = 0 ∧ x < 0 then h a x (r.2.2.getD x 0) else r.2.2.getD x 0) = r.2.2 from (tab_congr fun x _ => if_neg (by omega)).trans (tab_getD _)]
theorem rowsT_at {rs : List Row} {i : Nat} {r : Row} (e : rs[i]? = some r) (h : Nat → Nat → F → F) (a n : Nat) : (rowsT rs h a n)[i]? = some (rowT h a n i r) := by
  unfold rowsT
  rw [List.getElem?_mapIdx, e]; rfl
theorem rowsT_next (rs : List Row) (h : Nat → Nat → F → F) (i n : Nat) (hn : ∀ r, rs[i]? = some r → ∀ x, n ≤ x → x < r.2.2.length → h i x (r.2.2.getD x 0) = r.2.2.getD x 0) : rowsT rs h i n = rowsT rs h (i + 1) 0 := by
  refine List.ext_getElem? fun a => ?_
  unfold rowsT
  rw [List.getElem?_mapIdx, List.getElem?_mapIdx]
  cases e : rs[a]? with
  | none => rfl
  | some r =>
    show some (rowT h i n a r) = some (rowT h (i + 1) 0 a r)
    unfold rowT
    rw [tab_congr fun x hx => ?_]
    by_cases e1 : a < i
    · rw [if_pos (.inl e1), if_pos (by omega)]
    · by_cases e2 : a = i
      · subst e2
        rw [if_pos (show a < a + 1 ∨ a = a + 1 ∧ x < 0 by omega)]
        by_cases e3 : x < n
        · rw [if_pos (.inr ⟨rfl, e3⟩)]
        · rw [if_neg (by omega), hn r e x (by omega) hx]
      · rw [if_neg (by omega), if_neg (by omega)]
theorem rowsT_next_full {rs : List Row} (h : Nat → Nat → F → F) {i n : Nat} (hn : ∀ r, rs[i]? = some r → r.2.2.length ≤ n) : rowsT rs h i n = rowsT rs h (i + 1) 0 :=
  rowsT_next rs h i n fun r hr x h1 h2 => by have := hn r hr; omega
theorem rowsT_set {rs : List Row} {i n : Nat} {r : Row} (e : rs[i]? = some r) (h : Nat → Nat → F → F) (hn : n < r.2.2.length) :
    (rowsT rs h i n).set i (r.1, r.2.1, (rowT h i n i r).2.2.set n (h i n (r.2.2.getD n 0))) = rowsT rs h i (n + 1) := by
  have hi : i < rs.length := by
    rcases Nat.lt_or_ge i rs.length with h1 | h1
    · exact h1
    · rw [List.getElem?_eq_none h1] at e; cases e
  refine List.ext_getElem? fun a => ?_
  by_cases e1 : i = a
  · subst e1
    rw [List.getElem?_set_self (by rw [length_rowsT]; exact hi), rowsT_at e]
    unfold rowT
    simp only [set_tab]
    refine congrArg (fun q => some (r.1, r.2.1, q)) (tab_congr fun x hx => ?_)
    by_cases e : x = n
    · subst e; simp
    · by_cases e2 : x < n
      · have e3 : x < n + 1 := by omega
        simp [e, e2, e3]
      · have e3 : ¬ x < n + 1 := by omega
        simp [e, e2, e3]
  · rw [List.getElem?_set_ne e1]
    unfold rowsT
    rw [List.getElem?_mapIdx, List.getElem?_mapIdx]
    cases rs[a]? with
    | none => rfl
    | some s =>
      show some (rowT h i n a s) = some (rowT h i (n + 1) a s)
      unfold rowT
      rw [tab_congr fun x hx => ?_]
      by_cases e2 : a < i
      · rw [if_pos (by omega), if_pos (by omega)]
      · rw [if_neg (by omega), if_neg (by omega)]
theorem lsts_rowsT (rs : List Row) (h : Nat → Nat → F → F) (i : Nat) (hi : ∀ a r, rs[a]? = some r → i ≤ a → ∀ x, x < r.2.2.length → h a x (r.2.2.getD x 0) = r.2.2.getD x 0) : lsts (rowsT rs h i 0) = mapR h (lsts rs) := by
  refine List.ext_getElem? fun a => ?_
  unfold lsts rowsT mapR
  rw [List.getElem?_map, List.getElem?_mapIdx, List.getElem?_mapIdx, List.getElem?_map]
  cases e : rs[a]? with
  | none => rfl
  | some r =>
    show some (rowT h i 0 a r).2.2 = some _
    unfold rowT
    refine congrArg some (tab_congr fun x hx => ?_)
    by_cases e2 : a < i
    · rw [if_pos (.inl e2)]
    · rw [if_neg (by omega), hi a r e (by omega) x hx]
theorem lsts_rowsT_all {rs : List Row} (h : Nat → Nat → F → F) {i : Nat} (hi : rs.length ≤ i) : lsts (rowsT rs h i 0) = mapR h (lsts rs) :=
  lsts_rowsT rs h i fun a r e h1 => by rw [List.getElem?_eq_none (by omega)] at e; cases e
theorem getD_mapR {h : Nat → Nat → F → F} {ls : List (List F)} {a : Nat} (ha : a < ls.length) : (mapR h ls).getD a [] = tab (ls.getD a []).length fun x => h a x ((ls.getD a []).getD x 0) := by
  unfold mapR
  rw [List.getD_eq_getElem?_getD, List.getElem?_mapIdx, List.getElem?_eq_getElem ha, List.getD_eq_getElem?_getD, List.getElem?_eq_getElem ha]; rfl
theorem lenAt_mapR (h : Nat → Nat → F → F) (ls : List (List F)) (a : Nat) : lenAt (mapR h ls) a = lenAt ls a := by
  unfold lenAt
  rcases Nat.lt_or_ge a ls.length with e | e
  · rw [getD_mapR e, length_tab]
  · rw [List.getD_eq_getElem?_getD, List.getElem?_eq_none (by rw [length_mapR]; exact e), List.getD_eq_getElem?_getD, List.getElem?_eq_none e]
end
/-! The closure of bulk.adder, walked. -/
section
open Go.RowKit
set_option linter.unusedVariables false
set_option linter.unusedSimpArgs false
/-- a multiple of a row added -/
def addH (P : Mx) (j : Nat) (l : List F) : Nat → Nat → F → F := fun a x v => v + P a j * l.getD x 0
/-- what a call of the adder does not turn -/
structure Keeps (rs : List Row) (I : World → Prop) : Prop where
  d : ∀ (w : World) (n : Nat), I w → I (w.drewN n)
  s : ∀ (w : World) (i : Nat) (r : Row) (g x : Nat) (u : Value), I w → rs[i]? = some r → (rowV r).ownBlock = some g → I (w.setCell ⟨g, x, none⟩ u)
/-- what the adder reads -/
structure AF (b bt bp bf m k : Nat) (A : Option Addr) (c : Nat) (Ap : Option Addr) (cp : Nat) (lp : List F) (rs : List Row) (As : Option Addr) (cs : Nat) (l : List F) (w : World) : Prop where
  t : Blk w bt 42 #[.slice A m c]
  p : Blk w bp 24 #[.int .i64 m, .int .i64 k, .slice Ap (m * k) cp]
  f : Blk w bf 27 #[fp b]
  g : GfAt w b
  sp : Sl w A c (vals rs)
  pb : Bs w Ap cp lp
  sb : Bs w As cs l
set_option maxRecDepth 1000000 in
set_option maxHeartbeats 4000000 in
theorem adder_call (b bt bp bf m k j : Nat) (A : Option Addr) (c : Nat) (Ap : Option Addr) (cp : Nat) (P : Mx) (rs : List Row) (As : Option Addr) (cs : Nat) (l : List F) (L B : Nat) (I : World → Prop) (w : World)
    (hI : Keeps rs I) (hF : ∀ w, I w → AF b bt bp bf m k A c Ap cp (matL m k P) rs As cs l w) (hrs : rs.length = m) (hlen : ∀ (a : Nat) (r : Row), rs[a]? = some r → r.2.2.length = L) (hl : l.length = L) (hj : j < k) (hm : m ≤ 256) (hk : k ≤ 256) (hL : L ≤ 100000) (hw : I w) (hg : Grid w B rs) :
    Calls Try.prog 62 #[.int .i64 j, .slice As L cs, .pointer (some ⟨bt, 0, none⟩), .pointer (some ⟨bp, 0, none⟩), .pointer (some ⟨bf, 0, none⟩)] w fun e w' => e = .returned (.tuple #[]) ∧ I w' ∧ ∃ rs', vals rs' = vals rs ∧ lsts rs' = mapR (addH P j l) (lsts rs) ∧ Grid w' B rs' := by
  have FIN : Hid (lsts (rowsT rs (addH P j l) m 0) = mapR (addH P j l) (lsts rs)) := lsts_rowsT_all _ (Nat.le_of_eq hrs)
  have HI := Lib.hid hI
  have HF := Lib.hid hF
  have HR := Lib.hid hrs
  have HLEN := Lib.hid hlen
  have HL := Lib.hid hl
  have NX := Lib.hid (fun i => rowsT_next_full (rs := rs) (addH P j l) (i := i) (n := L) fun r hr => Nat.le_of_eq (hlen i r hr))
  have IX : Hid (∀ i, i < m → i * k + j < m * k ∧ (matL m k P).getD (i * k + j) 0 = P i j) := fun i hi => ⟨row_lt hi hj, getD_matL P hi hj⟩
  have LP : Hid ((matL m k P).length = m * k) := length_matL _ _ _
  have hmk : m * k ≤ 65536 := Nat.mul_le_mul hm hk
  have HW := Lib.hid hw
  have HG : Hid (Grid w B (rowsT rs (addH P j l) 0 0)) := by rw [rowsT_zero]; exact hg
  have q0 := (hF w hw).t.cell 0
  simp only [List.getElem?_toArray, List.getElem?_cons_succ, List.getElem?_cons_zero] at q0
  clear hI hF hrs hlen hl hw hg
  generalize matL m k P = lp at *
  generalize hmkn : m * k = mk at *
  go_enter Try.func62, Try.ntmps62
  go_wp2
  clear q0
  go_loopw [14] (fun v wr => ∃ i : Nat, i ≤ m ∧ v = .int .i64 i ∧ I wr ∧ Grid wr B (rowsT rs (addH P j l) i 0)) (fun v _ => m - (intOf v).toNat)
  case atStart => exact ⟨0, Nat.zero_le _, rfl, HW.out, HG.out⟩
  case round =>
    clear HW HG
    obtain ⟨i, hi, rfl, hw, hg⟩ := hrel
    have HW := Lib.hid hw
    have HG := Lib.hid hg
    clear hw hg
    by_cases hlt : i < m
    · obtain ⟨r, hr⟩ : ∃ r, rs[i]? = some r := ⟨rs[i]'(by rw [HR.out]; exact hlt), List.getElem?_eq_getElem _⟩
      have hrl := HLEN.out i r hr
      have F1 := HF.out wr HW.out
      obtain ⟨b1, o1, hA, _, hc1⟩ := Sl.at' F1.sp (by rw [length_vals, HR.out]; omega)
      have y1 := hc1 i (rowV r) (by unfold vals; rw [List.getElem?_map, hr]; rfl)
      obtain ⟨ix1, ix2⟩ := IX.out i hlt
      obtain ⟨b2, o2, hAp, _, hc2⟩ := Bs.at' F1.pb (by rw [LP.out]; omega)
      have y2 := hc2 (i * k + j) (by rw [LP.out]; exact ix1)
      rw [ix2] at y2
      unfold rowV at y1
      rw [hrl] at y1
      have p0 := F1.p.cell 0
      have p1 := F1.p.cell 1
      have p2 := F1.p.cell 2
      simp only [List.getElem?_toArray, List.getElem?_cons_succ, List.getElem?_cons_zero] at p0 p1 p2
      rw [hmkn] at p2
      have e1 : (i : Int) * (k : Int) = ((i * k : Nat) : Int) := by simp
      have w1 : IntKind.i64.wrap ((i : Int) * (k : Int)) = ((i * k : Nat) : Int) := by rw [e1, IntKind.wrap_i64]; omega
      have HRI := Lib.hid hr
      have HRL := Lib.hid hrl
      have hit : (i : Int) < (m : Int) := by omega
      clear hc1 hc2 ix2 e1 F1 hr hrl
      subst hA
      subst hAp
      generalize hik : i * k = ik at *
      go_wp2
      clear y1 y2 p0 p1 p2
      go_loopw [31] (fun v wi => ∃ n : Nat, n ≤ L ∧ v = .int .i64 n ∧ I wi ∧ Grid wi B (rowsT rs (addH P j l) i n)) (fun v _ => L - (intOf v).toNat)
      case atStart => exact ⟨0, Nat.zero_le _, rfl, HW.out, HG.out⟩
      case round =>
        rename World => wi
        clear HW HG
        obtain ⟨n, hn, rfl, hw, hg⟩ := hrel
        have HW := Lib.hid hw
        have HG := Lib.hid hg
        clear hw hg
        by_cases hln : n < L
        · have F1 := HF.out wi HW.out
          obtain ⟨b3, o3, hAs, _, hc3⟩ := Bs.at' F1.sb (by rw [HL.out]; omega)
          have y3 := hc3 n (by rw [HL.out]; exact hln)
          have f0 := F1.f.cell 0
          simp only [List.getElem?_toArray, List.getElem?_cons_succ, List.getElem?_cons_zero] at f0
          have hrow := HG.out.own i _ (rowsT_at HRI.out (addH P j l) i n)
          have hown : wi.ownsRow B 5 1 (.slice r.1 L r.2.1) L ((rowT (addH P j l) i n i r).2.2.map bv) := by
            have h := hrow
            unfold ownR at h
            rw [rowV_rowT] at h
            unfold rowV at h
            rw [show (rowT (addH P j l) i n i r).2.2.length = L by unfold rowT; rw [length_tab]; exact HRL.out, HRL.out] at h
            exact h
          obtain ⟨g, hgA, _, _⟩ := own_addr hown (by omega)
          have hlr : (rowT (addH P j l) i n i r).2.2.length = L := by unfold rowT; rw [length_tab]; exact HRL.out
          have hv : (rowT (addH P j l) i n i r).2.2.getD n 0 = r.2.2.getD n 0 := by
            unfold rowT
            rw [getD_tab _ (by rw [HRL.out]; exact hln), if_neg (by omega)]
          rw [hgA] at hown
          have hcl := hown.cellAt n (by omega)
          rw [getElem?_bv (by rw [hlr]; exact hln), hv] at hcl
          have hfz := hown.frozenAt n
          have HST : Hid (∀ nd, I ((wi.drewN nd).setCell ⟨g, n, none⟩ (bv (r.2.2.getD n 0 + P i j * l.getD n 0))) ∧ Grid ((wi.drewN nd).setCell ⟨g, n, none⟩ (bv (r.2.2.getD n 0 + P i j * l.getD n 0))) B (rowsT rs (addH P j l) i (n + 1))) := fun nd => by
            have hob : (rowV r).ownBlock = some g := by unfold rowV; rw [hgA]; rfl
            refine ⟨HI.out.s _ i r g n _ (HI.out.d wi nd HW.out) HRI.out hob, ?_⟩
            have hgd : Grid (wi.drewN nd) B (rowsT rs (addH P j l) i n) := HG.out.below (below_drew0 wi nd)
            have hst := ((show (wi.drewN nd).ownsRow B 5 1 (.slice (some ⟨g, 0, none⟩) L r.2.1) L ((rowT (addH P j l) i n i r).2.2.map bv) from own_drewN hown nd).stored n (bv (r.2.2.getD n 0 + P i j * l.getD n 0))).1
            rw [map_set] at hst
            have hwr := hgd.write (rowsT_at HRI.out (addH P j l) i n) (g := g) (by rw [rowV_rowT]; exact hob) (l := (rowT (addH P j l) i n i r).2.2.set n (r.2.2.getD n 0 + P i j * l.getD n 0)) (by rw [List.length_set]) ((Beside.refl g (wi.drewN nd)).setCell n _) (by
              unfold ownR rowV
              rw [List.length_set, hlr]
              show World.ownsRow _ B 5 1 (.slice r.1 L r.2.1) L _
              rw [hgA]
              exact hst)
            have e := rowsT_set HRI.out (addH P j l) (n := n) (by rw [HRL.out]; exact hln)
            rw [show addH P j l i n (r.2.2.getD n 0) = r.2.2.getD n 0 + P i j * l.getD n 0 from rfl] at e
            rw [← e]
            exact hwr
          have MU2 := Lib.hid (gf_mul b (P i j) (l.getD n 0) wi.drew ⟨F1.g.lt, F1.g.e, F1.g.l⟩)
          have hnt : (n : Int) < (L : Int) := by omega
          clear hc3 F1 hrow hown hlr hv
          subst hAs
          generalize P i j = x at *
          generalize l.getD n 0 = y at *
          generalize r.2.2.getD n 0 = z at *
          have hxor := xor_n z (x * y)
          unfold fp at MU2 f0
          rw [hgA]
          go_wp2
          go_region_law (go_simp; go_at_call 30; (with_reducible refine MU2.out.mono ?_); rintro e w2 ⟨rfl, n, rfl⟩)
          all_goals
            go_wp2
            go_roundw
            case rel => exact ⟨_ + 1, by omega, by go_num, (HST.out _).1, (HST.out _).2⟩
            case measure => simp [intOf]; omega
        · have hne : n = L := by omega
          subst hne
          go_wp2
          go_roundw
          case rel => exact ⟨i + 1, by omega, by go_num, HW.out, by rw [← NX.out i]; exact HG.out⟩
          case measure => simp [intOf]; omega
    · have hie : i = m := by omega
      subst hie
      go_wp2
      go_end0
      exact ⟨rfl, HW.out, _, vals_rowsT _ _ _ _, FIN.out, HG.out⟩
end
/-! bulk.Encode: what it is made of. -/
section
open Go.RowKit
set_option linter.unusedVariables false
set_option linter.unusedSimpArgs false
theorem vals_at {rs rs' : List Row} (hv : vals rs' = vals rs) {i : Nat} {r : Row} (hr : rs'[i]? = some r) : ∃ r', rs[i]? = some r' ∧ rowV r' = rowV r := by
  have e : (vals rs : List Value)[i]? = some (rowV r) := by rw [← hv]; unfold vals; rw [List.getElem?_map, hr]; rfl
  unfold vals at e
  rw [List.getElem?_map] at e
  cases hx : rs[i]? with
  | none => rw [hx] at e; cases e
  | some r' => rw [hx] at e; exact ⟨r', rfl, by simpa using e⟩
theorem Grid.sepV {w : World} {B : Nat} {rs : List Row} (h : Grid w B rs) {rs' : List Row} (hv : vals rs' = vals rs) : ∀ (i j : Nat) (r s : Row), rs'[i]? = some r → rs'[j]? = some s → i ≠ j → ∀ g, (rowV r).ownBlock = some g → (rowV s).ownBlock ≠ some g := by
  intro i j r s hr hs hij g hg
  obtain ⟨r', h1, e1⟩ := vals_at hv hr
  obtain ⟨s', h2, e2⟩ := vals_at hv hs
  rw [← e1] at hg
  rw [← e2]
  exact h.sep i j r' s' h1 h2 hij g hg
theorem vals_length {rs rs' : List Row} (hv : vals rs' = vals rs) : rs'.length = rs.length := by rw [← length_vals, hv, length_vals]
theorem vals_append (rs rs' : List Row) : vals (rs ++ rs') = vals rs ++ vals rs' := List.map_append ..
theorem lsts_append (rs rs' : List Row) : lsts (rs ++ rs') = lsts rs ++ lsts rs' := List.map_append ..
theorem Grid.left {w : World} {B : Nat} {rs rs' : List Row} (h : Grid w B (rs ++ rs')) : Grid w B rs :=
  ⟨fun i r hr => h.own i r (by rw [List.getElem?_append_left (List.getElem?_eq_some_iff.1 hr).1]; exact hr),
   fun i j r s hr hs => h.sep i j r s (by rw [List.getElem?_append_left (List.getElem?_eq_some_iff.1 hr).1]; exact hr) (by rw [List.getElem?_append_left (List.getElem?_eq_some_iff.1 hs).1]; exact hs)⟩
theorem at_right {rs rs' : List Row} {i : Nat} : (rs ++ rs')[rs.length + i]? = rs'[i]? := by
  rw [List.getElem?_append_right (Nat.le_add_right _ _), Nat.add_sub_cancel_left]
theorem Grid.right {w : World} {B : Nat} {rs rs' : List Row} (h : Grid w B (rs ++ rs')) : Grid w B rs' :=
  ⟨fun i r hr => h.own (rs.length + i) r (by rw [at_right]; exact hr),
   fun i j r s hr hs hij => h.sep (rs.length + i) (rs.length + j) r s (by rw [at_right]; exact hr) (by rw [at_right]; exact hs) (by omega)⟩
theorem Grid.join {w w0 : World} {B : Nat} {rs rs' rp : List Row} (h0 : Grid w0 B (rs ++ rp)) (hv : vals rs' = vals rp) (h : Grid w B rs) (h' : Grid w B rs') : Grid w B (rs ++ rs') := by
  refine ⟨fun i r hr => ?_, h0.sepV (by rw [vals_append, vals_append, hv])⟩
  rcases Nat.lt_or_ge i rs.length with e | e
  · rw [List.getElem?_append_left e] at hr; exact h.own i r hr
  · rw [List.getElem?_append_right e] at hr; exact h'.own _ r hr
/-- one row more -/
theorem MadeR.push {w wr w3 w4 : World} {A : Option Addr} {n c : Nat} {rs : List Row} (h : MadeR w wr A n c rs) (hb3 : Below wr.heap.size wr w3) {r : Row} (ho3 : ownR w3 wr.heap.size r) (o : Obj) {A4 : Option Addr} {c4 : Nat}
    (ho4 : w4.ownsRow w.heap.size 22 1 (.slice A4 (n + 1) c4) (n + 1) (vals rs ++ [rowV r])) (hg4 : (w3.alloc o).grownBy w4 (Value.slice A n c).ownBlock) : MadeR w w4 A4 (n + 1) c4 (rs ++ [r]) := by
  have hb5 : Below wr.heap.size wr (w3.alloc o) := hb3.trans ((below_alloc w3 _).mono hb3.size)
  have hs5 := own_below h.sp hb5
  have hg3 := (h.gr.snoc hb3 ho3 h.bel.size).below (below_alloc w3 o)
  exact ⟨by rw [← vals_snoc]; exact ho4, hg3.grown hs5 (by decide) hg4, own_grow (h.bel.trans (hb5.mono h.bel.size)) hs5 hg4 (Nat.le_trans h.bel.size hb5.size)⟩
theorem MadeR.back {w w0 w' : World} {A : Option Addr} {n c : Nat} {rs : List Row} (h : MadeR w0 w' A n c rs) (hb : Below w.heap.size w w0) : MadeR w w' A n c rs :=
  ⟨own_mono h.sp hb.size, h.gr.mono hb.size, hb.trans (h.bel.mono hb.size)⟩
theorem MadeR.below {w w' w2 : World} {A : Option Addr} {n c : Nat} {rs : List Row} (h : MadeR w w' A n c rs) (hb : Below w'.heap.size w' w2) : MadeR w w2 A n c rs :=
  ⟨own_below h.sp hb, h.gr.below hb, h.bel.trans (hb.mono h.bel.size)⟩
theorem MadeR.sl {w w' : World} {A : Option Addr} {n c : Nat} {rs : List Row} (h : MadeR w w' A n c rs) : Sl w' A c (vals rs) := own_sl h.sp
/-- the closure that adds multiples of rows: made -/
theorem adder_make (b : Nat) (m k : Int) (Ap : Option Addr) (np cp : Nat) (A : Option Addr) (n c : Nat) (w : World) :
    Calls Try.prog 52 #[fp b, matV m k Ap np cp, .slice A n c] w fun e w' => ∃ bf bp bt, e = .returned (.func (.func 62) #[] #[.pointer (some ⟨bt, 0, none⟩), .pointer (some ⟨bp, 0, none⟩), .pointer (some ⟨bf, 0, none⟩)]) ∧ Kn w' none [(bf, 27, #[fp b]), (bp, 24, #[.int .i64 m, .int .i64 k, .slice Ap np cp]), (bt, 42, #[.slice A n c])] [] ∧ Below w.heap.size w w' := by
  have K := Lib.hid (kn3 w 27 24 42 #[fp b] #[.int .i64 m, .int .i64 k, .slice Ap np cp] #[.slice A n c])
  have B := Lib.hid (below3 w (.cells #[fp b] 27) (.cells #[.int .i64 m, .int .i64 k, .slice Ap np cp] 24) (.cells #[.slice A n c] 42))
  go_enter Try.func52, Try.ntmps52
  go_wp2
  go_ret
  exact ⟨_, _, _, rfl, K.out, B.out⟩
/-- while multiples are added: what stays -/
structure EncI (W1 : World) (sA : Option Addr) (n c : Nat) (rs0 : List Row) (vs : List Value) (bs : List (Nat × TypeId × Array Value)) (wx : World) : Prop where
  bel : Below W1.heap.size W1 wx
  sp : wx.ownsRow W1.heap.size 22 1 (.slice sA n c) n vs
  gr : Grid wx W1.heap.size rs0
  kn : Kn wx none bs []
theorem EncI.keeps {W1 w5 : World} {sA : Option Addr} {n c : Nat} {rs0 rp : List Row} {vs : List Value} {bs : List (Nat × TypeId × Array Value)} (hgr : Grid w5 W1.heap.size (rs0 ++ rp)) (hsp : w5.ownsRow W1.heap.size 22 1 (.slice sA n c) n vs) (hkn : Kn w5 none bs []) (hbs : ∀ x, x ∈ bs → x.2.1 ≠ 5) : Keeps rp (EncI W1 sA n c rs0 vs bs) := by
  refine ⟨fun w n h => ⟨h.bel.trans ((below_drew0 w n).mono h.bel.size), own_drewN h.sp n, h.gr.below (below_drew0 w n), h.kn.drewN n⟩, fun w i r g x u h hr hg => ?_⟩
  have hown := hgr.right.own i r hr
  have hB := (own_block_lt hown hg).1
  have n1 : (Value.slice sA n c).ownBlock ≠ some g := by
    rcases own_ne hown hsp (by decide) with e | e
    · rw [e] at hg; cases hg
    · rw [hg] at e; exact fun e2 => e e2.symm
  have n2 : ∀ (j : Nat) (s : Row), rs0[j]? = some s → (rowV s).ownBlock ≠ some g := fun j s hs => by
    have hj := (List.getElem?_eq_some_iff.1 hs).1
    exact hgr.sep (rs0.length + i) j r s (by rw [at_right]; exact hr) (by rw [List.getElem?_append_left hj]; exact hs) (by omega) g hg
  have n3 : ∀ y, y ∈ bs → y.1 ≠ g := fun y hy e => by
    have := own_ne_blk hown (hkn.b y hy) (fun e => hbs y hy e.symm)
    rw [hg, e] at this
    exact this rfl
  have hbe := (Beside.refl g w).setCell x u
  exact ⟨h.bel.setCell hB _, ownsRow_setCell_other h.sp n1 _, h.gr.beside hbe n2, h.kn.beside hbe (fun b e => by cases e) n3 fun y hy => by cases hy⟩
theorem Keeps.vals {rs rs' : List Row} {I : World → Prop} (h : Keeps rs I) (hv : vals rs' = vals rs) : Keeps rs' I :=
  ⟨h.d, fun w i r g x u hw hr hg => by obtain ⟨r', h1, h2⟩ := vals_at hv hr; exact h.s w i r' g x u hw h1 (by rw [h2]; exact hg)⟩
/-- the parity rows, while the first n data shards are in -/
def accR (k m L : Nat) (ls : List (List F)) (n : Nat) : List (List F) := (List.range m).map fun a => tab L fun x => sumF n fun t => parF k a t * (ls.getD t []).getD x 0
/-- all shards -/
def enc (k m : Nat) (ls : List (List F)) : List (List F) := ls ++ accR k m (lenAt ls 0) ls k
theorem length_accR (k m L : Nat) (ls : List (List F)) (n : Nat) : (accR k m L ls n).length = m := by unfold accR; simp
theorem accR_at {k m L : Nat} {ls : List (List F)} {n a : Nat} (h : a < m) : (accR k m L ls n)[a]? = some (tab L fun x => sumF n fun t => parF k a t * (ls.getD t []).getD x 0) := by
  unfold accR; rw [List.getElem?_map, List.getElem?_range h]; rfl
theorem accR_zero (k m L : Nat) (ls : List (List F)) : accR k m L ls 0 = List.replicate m (List.replicate L (0 : F)) := by
  unfold accR
  rw [List.eq_replicate_iff]
  refine ⟨by simp, fun l hl => ?_⟩
  obtain ⟨a, _, rfl⟩ := List.mem_map.1 hl
  unfold tab
  rw [List.eq_replicate_iff]
  exact ⟨by simp, fun y hy => by obtain ⟨_, _, rfl⟩ := List.mem_map.1 hy; rfl⟩
theorem accR_next (k m L : Nat) (ls : List (List F)) (n : Nat) : mapR (addH (parF k) n (ls.getD n [])) (accR k m L ls n) = accR k m L ls (n + 1) := by
  refine List.ext_getElem? fun a => ?_
  rcases Nat.lt_or_ge a m with h | h
  · unfold mapR
    rw [List.getElem?_mapIdx, accR_at h, accR_at h]
    refine congrArg some ?_
    dsimp only
    rw [length_tab]
    refine tab_congr fun x hx => ?_
    rw [getD_tab _ hx, sumF_succ]; rfl
  · rw [List.getElem?_eq_none (by rw [length_mapR, length_accR]; exact h), List.getElem?_eq_none (by rw [length_accR]; exact h)]
theorem len_accR {k m L : Nat} {ls : List (List F)} {n : Nat} {a : Nat} {l : List F} (h : (accR k m L ls n)[a]? = some l) : l.length = L := by
  have ha : a < m := by
    have := (List.getElem?_eq_some_iff.1 h).1
    rwa [length_accR] at this
  rw [accR_at ha] at h
  injection h with h
  subst h
  exact length_tab _ _
theorem lsts_at {rs : List Row} {ls : List (List F)} (h : lsts rs = ls) {i : Nat} {r : Row} (hr : rs[i]? = some r) : ls[i]? = some r.2.2 := by
  rw [← h]; unfold lsts; rw [List.getElem?_map, hr]; rfl
theorem bulk_checked_yes (b k m : Nat) (N : Int) (A : Option Addr) (n c : Nat) (vs : List Value) (ls : List (List F)) (w : World) (hkm : okkm k m) (hg : GfAt w b) (ha : Sl w A c vs) (hb : Bss w vs ls) (hn : ls.length = n) (hm : n ≤ 1000) (hk : Alk ls N) :
    Calls Try.prog 50 #[fp b, .int .i64 k, .int .i64 m, .int .i64 N, .slice A n c] w fun e w' => ∃ A' c', e = .returned (.tuple #[.agg #[.int .i64 (m : Int), .int .i64 (k : Int), .slice A' (m * k) c'], .int .i64 0]) ∧ Bs w' A' c' (matL m k (parF k)) ∧ Below w.heap.size w w' := by
  refine (bulk_checked b k m N A n c vs ls w hkm hg ha hb hn hm).mono ?_
  rintro e w' ⟨A', c', ⟨_, he⟩ | ⟨h, _⟩, h2, h3⟩
  · exact ⟨A', c', he, h2, h3⟩
  · exact absurd hk h
theorem bulk_checked_no (b k m : Nat) (N : Int) (A : Option Addr) (n c : Nat) (vs : List Value) (ls : List (List F)) (w : World) (hkm : okkm k m) (hg : GfAt w b) (ha : Sl w A c vs) (hb : Bss w vs ls) (hn : ls.length = n) (hm : n ≤ 1000) (hk : ¬ Alk ls N) :
    Calls Try.prog 50 #[fp b, .int .i64 k, .int .i64 m, .int .i64 N, .slice A n c] w fun e w' => ∃ A' c', e = .returned (.tuple #[.agg #[.int .i64 (m : Int), .int .i64 (k : Int), .slice A' (m * k) c'], .int .i64 60]) ∧ Below w.heap.size w w' := by
  refine (bulk_checked b k m N A n c vs ls w hkm hg ha hb hn hm).mono ?_
  rintro e w' ⟨A', c', ⟨h, _⟩ | ⟨_, he⟩, h2, h3⟩
  · exact absurd h hk
  · exact ⟨A', c', he, h3⟩
theorem sl_tail {w : World} {A : Option Addr} {c k : Nat} {r0 rp : List Row} (h : Sl w A c (vals (r0 ++ rp))) (h0 : r0.length = k) : Sl w (rowA A c k) (c - k) (vals rp) := by
  have h := h.row (lo := k) (m := rp.length) (by rw [length_vals, List.length_append, h0]; exact Nat.le_refl _)
  rwa [vals_append, List.drop_append_of_le_length (by rw [length_vals, h0]; exact Nat.le_refl _), List.drop_of_length_le (by rw [length_vals, h0]; exact Nat.le_refl _), List.nil_append, List.take_of_length_le (by rw [length_vals]; exact Nat.le_refl _)] at h
/-- the blocks that the adder reads -/
abbrev addB (b m k : Nat) (Ap : Option Addr) (np cp : Nat) (AR : Option Addr) (cR : Nat) (bf bp bt : Nat) : List (Nat × TypeId × Array Value) := [(bf, 27, #[fp b]), (bp, 24, #[.int .i64 m, .int .i64 k, .slice Ap np cp]), (bt, 42, #[.slice AR m cR])]
theorem addB_ne (b m k : Nat) (Ap : Option Addr) (np cp : Nat) (AR : Option Addr) (cR : Nat) (bf bp bt : Nat) : ∀ x, x ∈ addB b m k Ap np cp AR cR bf bp bt → x.2.1 ≠ 5 := fun x hx => by
  simp only [List.mem_cons, List.not_mem_nil, or_false] at hx
  rcases hx with rfl | rfl | rfl
  · show (27 : Nat) ≠ 5; decide
  · show (24 : Nat) ≠ 5; decide
  · show (42 : Nat) ≠ 5; decide
/-- one call of the adder, where all that is read was there before -/
theorem add_row {W1 : World} {b k m np j : Nat} {Ap : Option Addr} {cp : Nat} {P : Mx} {sA : Option Addr} {n c : Nat} {r0 rp : List Row} {vs : List Value} {AR : Option Addr} {cR bf bp bt : Nat} (L : Nat) {As : Option Addr} {cs : Nat} {l : List F} (wi : World) {rp' : List Row}
    (hkeep : Keeps rp (EncI W1 sA n c r0 vs (addB b m k Ap np cp AR cR bf bp bt))) (hgf : GfAt W1 b) (hpb : Bs W1 Ap cp (matL m k P)) (hnp : m * k = np) (hsl : ∀ wx, EncI W1 sA n c r0 vs (addB b m k Ap np cp AR cR bf bp bt) wx → Sl wx AR cR (vals rp)) (hrow : Bs W1 As cs l) (hl : l.length = L) (hrs : rp.length = m) (hj : j < k) (hm : m ≤ 256) (hk : k ≤ 256) (hL : L ≤ 100000)
    (hI : EncI W1 sA n c r0 vs (addB b m k Ap np cp AR cR bf bp bt) wi) (hv : vals rp' = vals rp) (hlen : ∀ l', l' ∈ lsts rp' → l'.length = L) (hg : Grid wi W1.heap.size rp') :
    Calls Try.prog 62 #[.int .i64 j, .slice As L cs, .pointer (some ⟨bt, 0, none⟩), .pointer (some ⟨bp, 0, none⟩), .pointer (some ⟨bf, 0, none⟩)] wi fun e w' => e = .returned (.tuple #[]) ∧ EncI W1 sA n c r0 vs (addB b m k Ap np cp AR cR bf bp bt) w' ∧ ∃ rs', vals rs' = vals rp ∧ lsts rs' = mapR (addH P j l) (lsts rp') ∧ Grid w' W1.heap.size rs' := by
  refine (adder_call b bt bp bf m k j AR cR Ap cp P rp' As cs l L W1.heap.size (EncI W1 sA n c r0 vs (addB b m k Ap np cp AR cR bf bp bt)) wi (hkeep.vals hv) (fun wx hx => ?_) (by rw [vals_length hv]; exact hrs) (fun a r hr => ?_) hl hj hm hk hL hI hg).mono ?_
  · refine ⟨hx.kn.at (.tail _ (.tail _ (.head _))), ?_, hx.kn.at (.head _), hgf.below hx.bel, by rw [hv]; exact hsl wx hx, hpb.below hx.bel, hrow.below hx.bel⟩
    rw [hnp]
    exact hx.kn.at (.tail _ (.head _))
  · exact hlen _ (List.mem_of_getElem? (lsts_at rfl hr))
  · rintro e w' ⟨he, h1, rs', h2, h3, h4⟩
    exact ⟨he, h1, rs', h2.trans hv, h3, h4⟩
end
end Go.Proofs.Ytbepadepepoilaa
