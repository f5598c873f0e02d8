/- Rows, spines and known blocks, for the walks of layer 9. -/
import Derived.Test.YtmcamamfpefffaaGau
import Derived.Test.YtmcamamfpefffaaBlk
import Derived.Test.YtmcamamfpefffaaRef02m
import Derived.Lib.SliceRun
import Derived.Deep.RegionLaw
import Derived.StillTailTactics
import Derived.Laws.ResultCell
import Derived.Outline
namespace Go.Proofs.Ytmcamamfpefffaa
open Go.RowKit
set_option linter.unusedVariables false
set_option linter.unusedSimpArgs false
/-- what stays as it was, but for a row -/
def Beside (g : Nat) (w w' : World) : Prop := w.grownBy w' (some g)
theorem Beside.refl (g : Nat) (w : World) : Beside g w w := ⟨rfl, rfl, rfl, Nat.le_refl _, fun _ _ _ => rfl⟩
theorem Beside.drewN {g : Nat} {w w' : World} (h : Beside g w w') (n : Nat) : Beside g w (w'.drewN n) := by obtain ⟨h1, h2, h3, h4, h5⟩ := h; exact ⟨h1, h2, h3, h4, h5⟩
theorem Beside.setCell {g : Nat} {w w' : World} (h : Beside g w w') (o : Nat) (u : Value) : Beside g w (w'.setCell ⟨g, o, none⟩ u) := by
  obtain ⟨h1, h2, h3, h4, h5⟩ := h
  refine ⟨h1, h2, h3, by simpa [World.setCell] using h4, fun k hk hne => ?_⟩
  rw [Below.heap_setCell _ _ _ _ (fun e => hne (by rw [e]))]
  exact h5 k hk hne
theorem Beside.trans {g : Nat} {w w' w'' : World} (h : Beside g w w') (h' : Beside g w' w'') : Beside g w w'' := by
  obtain ⟨h1, h2, h3, h4, h5⟩ := h
  obtain ⟨k1, k2, k3, k4, k5⟩ := h'
  exact ⟨k1.trans h1, k2.trans h2, k3.trans h3, Nat.le_trans h4 k4, fun k hk hne => (k5 k (by omega) hne).trans (h5 k hk hne)⟩
theorem Beside.below {g : Nat} {w w' w'' : World} (h : Beside g w w') (hb : Below w'.heap.size w' w'') : Beside g w w'' := by
  obtain ⟨h1, h2, h3, h4, h5⟩ := h
  exact ⟨hb.os.trans h1, hb.tape.trans h2, hb.output.trans h3, Nat.le_trans h4 hb.size, fun k hk hne => (hb.block k (by omega)).trans (h5 k hk hne)⟩
theorem size_alloc' (w : World) (o : Obj) : (w.alloc o).heap.size = w.heap.size + 1 := by simp

/-- blocks bs, slices ss, and the field's block f (none: nothing is said) -/
structure Kn (w : World) (f : Option Nat) (bs : List (Nat × TypeId × Array Value)) (ss : List (Option Addr × Nat × List Value)) : Prop where
  f : ∀ b, f = some b → GfAt w b
  b : ∀ x, x ∈ bs → Blk w x.1 x.2.1 x.2.2
  s : ∀ x, x ∈ ss → Sl w x.1 x.2.1 x.2.2
section
variable {w w' : World} {f : Option Nat} {bs : List (Nat × TypeId × Array Value)} {ss : List (Option Addr × Nat × List Value)}
theorem Kn.below (h : Kn w f bs ss) (hb : Below w.heap.size w w') : Kn w' f bs ss :=
  ⟨fun b e => (h.f b e).below hb, fun x hx => (h.b x hx).below hb, fun x hx => (h.s x hx).below hb⟩
theorem Kn.alloc (h : Kn w f bs ss) (o : Obj) : Kn (w.alloc o) f bs ss := h.below (below_alloc w o)
theorem Kn.drewN (h : Kn w f bs ss) (n : Nat) : Kn (w.drewN n) f bs ss := h.below (below_drew0 w n)
theorem Kn.blk (h : Kn w f bs ss) {g : Nat} {t : TypeId} {cs : Array Value} (hb : Blk w g t cs) : Kn w f ((g, t, cs) :: bs) ss :=
  ⟨h.f, fun x hx => by
    rcases List.mem_cons.1 hx with e | e
    · subst e; exact hb
    · exact h.b x e, h.s⟩
theorem Kn.sl (h : Kn w f bs ss) {A : Option Addr} {c : Nat} {xs : List Value} (hs : Sl w A c xs) : Kn w f bs ((A, c, xs) :: ss) :=
  ⟨h.f, h.b, fun x hx => by
    rcases List.mem_cons.1 hx with e | e
    · subst e; exact hs
    · exact h.s x e⟩
theorem Kn.gf {b : Nat} (h : Kn w (some b) bs ss) : GfAt w b := h.f b rfl
theorem Kn.lt (h : Kn w f bs ss) {g : Nat} {t : TypeId} {cs : Array Value} (hx : (g, t, cs) ∈ bs) : g < w.heap.size := (h.b _ hx).lt
theorem Kn.at (h : Kn w f bs ss) {g : Nat} {t : TypeId} {cs : Array Value} (hx : (g, t, cs) ∈ bs) : Blk w g t cs := h.b _ hx
theorem Kn.sat (h : Kn w f bs ss) {A : Option Addr} {c : Nat} {xs : List Value} (hx : (A, c, xs) ∈ ss) : Sl w A c xs := h.s _ hx
end
theorem Beside.size {g : Nat} {w w' : World} (h : Beside g w w') : w.heap.size ≤ w'.heap.size := by obtain ⟨_, _, _, h, _⟩ := h; exact h
theorem Beside.block {g : Nat} {w w' : World} (h : Beside g w w') (k : Nat) (hk : k < w.heap.size) (hne : some k ≠ some g) : w'.heap[k]? = w.heap[k]? := by obtain ⟨_, _, _, _, h⟩ := h; exact h k hk hne
/-- blocks and slices that were there in w, where only the row g (that was not) has been written since -/
theorem Blk.beside {w w' : World} {g b : Nat} {t : TypeId} {cs : Array Value} (h : Blk w b t cs) (hb : Beside g w w') (hne : b ≠ g) : Blk w' b t cs :=
  (Beside.block hb b h.lt (fun e => hne (by injection e))).trans h
theorem GfAt.beside {w w' : World} {g b : Nat} (h : GfAt w b) (hb : Beside g w w') (hne : b ≠ g) : GfAt w' b := by
  have hblk := Beside.block hb b h.lt (fun e => hne (by injection e))
  refine ⟨Nat.lt_of_lt_of_le h.lt (Beside.size hb), fun i hi => ?_, fun x hx => ?_⟩
  · exact (World.cell?_of_block (a := ⟨b, i, none⟩) hblk).trans (h.e i hi)
  · exact (World.cell?_of_block (a := ⟨b, 510 + x, none⟩) hblk).trans (h.l x hx)
theorem Sl.beside {w w' : World} {g : Nat} {A : Option Addr} {c : Nat} {xs : List Value} (h : Sl w A c xs) (hb : Beside g w w') (hne : ∀ b o, A = some ⟨b, o, none⟩ → b ≠ g) : Sl w' A c xs := by
  refine ⟨h.le, h.mx, ?_⟩
  rcases h.cells with h0 | ⟨b, o, hA, hl, hc⟩
  · exact .inl h0
  · have hblk := Beside.block hb b hl (fun e => hne b o hA (by injection e))
    exact .inr ⟨b, o, hA, Nat.lt_of_lt_of_le hl (Beside.size hb), fun i v hv => (World.cell?_of_block (a := ⟨b, o + i, none⟩) hblk).trans (hc i v hv)⟩
/-- from the beginning on: below B all is as it was -/
theorem Beside.under {B g : Nat} {w0 w w' : World} (h : Below B w0 w) (hb : Beside g w w') (hg : B ≤ g) (hB : B ≤ w.heap.size) : Below B w0 w' :=
  h.grown hb hB fun k hk => by injection hk with hk; omega
theorem own_some {w : World} {B e g n c : Nat} {xs : List Value} (h : w.ownsRow B e 1 (.slice (some ⟨g, 0, none⟩) n c) n xs) : B ≤ g ∧ g < w.heap.size := by
  rcases h.2 with ⟨h1, h2⟩ | ⟨g', cap, cur, h1, hB, hg, hnc, hcm, hcs, ht⟩
  · cases h1
  · injection h1 with e1 e2 e3
    injection e1 with e1
    injection e1 with e1
    subst e1
    exact ⟨hB, block_lt hg⟩
/-- what is known, and of what is outside the row g -/
theorem Kn.beside {w w' : World} {f : Option Nat} {bs : List (Nat × TypeId × Array Value)} {ss : List (Option Addr × Nat × List Value)} {g : Nat} (h : Kn w f bs ss) (hb : Beside g w w')
    (hf : ∀ b, f = some b → b ≠ g) (hbs : ∀ x, x ∈ bs → x.1 ≠ g) (hss : ∀ x, x ∈ ss → ∀ b o, x.1 = some ⟨b, o, none⟩ → b ≠ g) : Kn w' f bs ss :=
  ⟨fun b e => (h.f b e).beside hb (hf b e), fun x hx => (h.b x hx).beside hb (hbs x hx), fun x hx => (h.s x hx).beside hb (hss x hx)⟩
/-- what was there before the row was -/
theorem Kn.beside_new {w0 w w' : World} {f : Option Nat} {bs : List (Nat × TypeId × Array Value)} {ss : List (Option Addr × Nat × List Value)} {g : Nat} (h0 : Kn w0 f bs ss) (h : Kn w f bs ss) (hb : Beside g w w') (hg : w0.heap.size ≤ g) : Kn w' f bs ss := by
  refine ⟨fun b e => (h.f b e).beside hb (by have := (h0.f b e).lt; omega), fun x hx => (h.b x hx).beside hb (by have := (h0.b x hx).lt; omega), fun x hx => ?_⟩
  have hs0 := h0.s x hx
  rcases hs0.cells with e | ⟨b, o, hA, hl, _⟩
  · have hs := h.s x hx
    exact ⟨hs.le, hs.mx, .inl e⟩
  · exact (h.s x hx).beside hb fun b' o' e => by rw [hA] at e; injection e with e; injection e with e1 e2; omega
theorem Kn.nothing (w : World) : Kn w none [] [] := ⟨(fun b h => by cases h), (fun x h => by cases h), (fun x h => by cases h)⟩
theorem Kn.swap {w : World} {f : Option Nat} {x y : Nat × TypeId × Array Value} {bs : List (Nat × TypeId × Array Value)} {ss : List (Option Addr × Nat × List Value)} (h : Kn w f (x :: y :: bs) ss) : Kn w f (y :: x :: bs) ss :=
  ⟨h.f, fun z hz => h.b z (by simp only [List.mem_cons] at hz ⊢; rcases hz with e | e | e <;> simp [e]), h.s⟩
theorem kn1 (w : World) (t1 : TypeId) (c1 : Array Value) : Kn (w.alloc (.cells c1 t1)) none [(w.heap.size, t1, c1)] [] :=
  ((Kn.nothing w).alloc _).blk (Blk.new w c1 t1)
theorem kn2 (w : World) (t1 t2 : TypeId) (c1 c2 : Array Value) : Kn ((w.alloc (.cells c1 t1)).alloc (.cells c2 t2)) none [(w.heap.size, t1, c1), (w.heap.size + 1, t2, c2)] [] := by
  have h := Blk.new (w.alloc (.cells c1 t1)) c2 t2
  rw [size_alloc'] at h
  exact (((kn1 w t1 c1).alloc _).blk h).swap
theorem kn3 (w : World) (t1 t2 t3 : TypeId) (c1 c2 c3 : Array Value) : Kn (((w.alloc (.cells c1 t1)).alloc (.cells c2 t2)).alloc (.cells c3 t3)) none [(w.heap.size, t1, c1), (w.heap.size + 1, t2, c2), (w.heap.size + 2, t3, c3)] [] := by
  have h := Blk.new ((w.alloc (.cells c1 t1)).alloc (.cells c2 t2)) c3 t3
  rw [size_alloc', size_alloc'] at h
  have k := (((kn2 w t1 t2 c1 c2).alloc (.cells c3 t3)).blk h)
  exact ⟨k.f, fun z hz => k.b z (by simp only [List.mem_cons] at hz ⊢; rcases hz with e | e | e | e <;> simp [e]), k.s⟩
theorem below1 (w : World) (o1 : Obj) : Below w.heap.size w (w.alloc o1) := below_alloc w o1
theorem below2 (w : World) (o1 o2 : Obj) : Below w.heap.size w ((w.alloc o1).alloc o2) := (below_alloc w o1).trans ((below_alloc _ o2).mono (by simp))
theorem below3 (w : World) (o1 o2 o3 : Obj) : Below w.heap.size w (((w.alloc o1).alloc o2).alloc o3) := (below2 w o1 o2).trans ((below_alloc _ o3).mono (by simp; omega))
theorem Kn.withF {w : World} {f : Option Nat} {bs : List (Nat × TypeId × Array Value)} {ss : List (Option Addr × Nat × List Value)} (h : Kn w f bs ss) {b : Nat} (hg : GfAt w b) : Kn w (some b) bs ss := ⟨(fun b' e => by cases e; exact hg), h.b, h.s⟩
/-- a row of the call's own that is being written, what is known beside it, and that nothing that was there in w has turned -/
structure St (w wr : World) (B g n c : Nat) (L : List F) (bs : List (Nat × TypeId × Array Value)) : Prop where
  kn : Kn wr none bs []
  own : wr.ownsRow B 5 1 (.slice (some ⟨g, 0, none⟩) n c) n (L.map bv)
  bel : Below w.heap.size w wr
section
variable {w wr w' : World} {B g n c : Nat} {L L' : List F} {bs : List (Nat × TypeId × Array Value)}
theorem St.below (h : St w wr B g n c L bs) (hb : Below wr.heap.size wr w') : St w w' B g n c L bs :=
  ⟨h.kn.below hb, own_below h.own hb, h.bel.trans (hb.mono h.bel.size)⟩
theorem St.alloc (h : St w wr B g n c L bs) (o : Obj) : St w (wr.alloc o) B g n c L bs := h.below (below_alloc _ _)
theorem St.drewN (h : St w wr B g n c L bs) (k : Nat) : St w (wr.drewN k) B g n c L bs := h.below (below_drew0 _ _)
theorem St.write (h : St w wr B g n c L bs) (hb : Beside g wr w') (ho : w'.ownsRow B 5 1 (.slice (some ⟨g, 0, none⟩) n c) n (L'.map bv)) (hne : ∀ x, x ∈ bs → x.1 ≠ g) (hg : w.heap.size ≤ g) : St w w' B g n c L' bs :=
  ⟨h.kn.beside hb (fun b e => by cases e) hne (fun x hx => by cases hx), ho, Beside.under h.bel hb hg h.bel.size⟩
theorem St.blk (h : St w wr B g n c L bs) {k : Nat} {t : TypeId} {cs : Array Value} (hb : Blk wr k t cs) : St w wr B g n c L ((k, t, cs) :: bs) := ⟨h.kn.blk hb, h.own, h.bel⟩
theorem St.set (h : St w wr B g n c L bs) (i : Nat) (x : F) (hne : ∀ x, x ∈ bs → x.1 ≠ g) (hg : w.heap.size ≤ g) : St w (wr.setCell ⟨g, i, none⟩ (bv x)) B g n c (L.set i x) bs := by
  have hs := h.own.stored i (bv x)
  rw [map_set] at hs
  exact h.write ((Beside.refl g wr).setCell i _) hs.1 hne hg
end
/-- a row: where it lies, its capacity, its bytes -/
abbrev Row := Option Addr × Nat × List F
def rowV (r : Row) : Value := .slice r.1 r.2.2.length r.2.1
def vals (rs : List Row) : List Value := rs.map rowV
def lsts (rs : List Row) : List (List F) := rs.map fun r => r.2.2
theorem length_vals (rs : List Row) : (vals rs).length = rs.length := List.length_map ..
theorem length_lsts (rs : List Row) : (lsts rs).length = rs.length := List.length_map ..
def ownR (w : World) (B : Nat) (r : Row) : Prop := w.ownsRow B 5 1 (rowV r) r.2.2.length (r.2.2.map bv)
structure Grid (w : World) (B : Nat) (rs : List Row) : Prop where
  own : ∀ (i : Nat) (r : Row), rs[i]? = some r → ownR w B r
  sep : ∀ (i j : Nat) (r s : Row), rs[i]? = some r → rs[j]? = some s → i ≠ j → ∀ g, (rowV r).ownBlock = some g → (rowV s).ownBlock ≠ some g
theorem Grid.nil (w : World) (B : Nat) : Grid w B [] := ⟨fun i r h => (by simp at h), fun i j r s h => (by simp at h)⟩
theorem Grid.below {w w' : World} {B : Nat} {rs : List Row} (h : Grid w B rs) (hb : Below w.heap.size w w') : Grid w' B rs := ⟨fun i r hr => own_below (h.own i r hr) hb, h.sep⟩
theorem Grid.mono {w : World} {B B' : Nat} {rs : List Row} (h : Grid w B rs) (hB : B' ≤ B) : Grid w B' rs := ⟨fun i r hr => own_mono (h.own i r hr) hB, h.sep⟩
theorem own_block_lt {w : World} {B e : Nat} {v : Value} {n : Nat} {xs : List Value} (h : w.ownsRow B e 1 v n xs) {g : Nat} (hg : v.ownBlock = some g) : B ≤ g ∧ g < w.heap.size := by
  rcases h.2 with ⟨h1, _⟩ | ⟨g', cap, cur, h1, hB, hk, _⟩
  · subst h1; simp [Value.ownBlock] at hg
  · subst h1
    simp only [Value.ownBlock, Option.some.injEq] at hg
    subst hg
    exact ⟨hB, block_lt hk⟩
/-- a row that was made behind all that is known -/
theorem Grid.snoc {w w' : World} {B : Nat} {rs : List Row} (h : Grid w B rs) (hb : Below w.heap.size w w') {r : Row} (hr : ownR w' w.heap.size r) (hB : B ≤ w.heap.size) : Grid w' B (rs ++ [r]) := by
  refine ⟨fun i s hs => ?_, fun i j s t hs ht hij g hg hg' => ?_⟩
  · rcases Nat.lt_or_ge i rs.length with h1 | h1
    · rw [List.getElem?_append_left h1] at hs
      exact own_below (h.own i s hs) hb
    · rw [List.getElem?_append_right h1] at hs
      cases hi : i - rs.length with
      | zero => rw [hi] at hs; simp at hs; subst hs; exact own_mono hr hB
      | succ k => rw [hi] at hs; simp at hs
  · rcases Nat.lt_or_ge i rs.length with h1 | h1
    · rw [List.getElem?_append_left h1] at hs
      have l1 := (own_block_lt (h.own i s hs) hg).2
      rcases Nat.lt_or_ge j rs.length with h2 | h2
      · rw [List.getElem?_append_left h2] at ht
        exact h.sep i j s t hs ht hij g hg hg'
      · rw [List.getElem?_append_right h2] at ht
        cases hi : j - rs.length with
        | zero => rw [hi] at ht; simp at ht; subst ht; have := (own_block_lt hr hg').1; omega
        | succ k => rw [hi] at ht; simp at ht
    · rw [List.getElem?_append_right h1] at hs
      cases hi : i - rs.length with
      | succ k => rw [hi] at hs; simp at hs
      | zero =>
        rw [hi] at hs; simp at hs; subst hs
        have l1 := (own_block_lt hr hg).1
        rcases Nat.lt_or_ge j rs.length with h2 | h2
        · rw [List.getElem?_append_left h2] at ht
          have := (own_block_lt (h.own j t ht) hg').2
          omega
        · rw [List.getElem?_append_right h2] at ht
          cases hj : j - rs.length with
          | zero => omega
          | succ k => rw [hj] at ht; simp at ht
/-- a row is written; the others stay -/
theorem Grid.write {w w' : World} {B : Nat} {rs : List Row} (h : Grid w B rs) {i : Nat} {r : Row} (hr : rs[i]? = some r) {g : Nat} (hg : (rowV r).ownBlock = some g) {l : List F} (hl : l.length = r.2.2.length) (hb : Beside g w w') (ho : ownR w' B (r.1, r.2.1, l)) : Grid w' B (rs.set i (r.1, r.2.1, l)) := by
  have hi : i < rs.length := by
    rcases Nat.lt_or_ge i rs.length with h1 | h1
    · exact h1
    · rw [List.getElem?_eq_none h1] at hr; cases hr
  have hv : rowV (r.1, r.2.1, l) = rowV r := by unfold rowV; rw [hl]
  refine ⟨fun j s hs => ?_, fun j k s t hs ht hjk x hx => ?_⟩
  · by_cases e : i = j
    · subst e
      rw [List.getElem?_set_self hi] at hs
      cases hs
      exact ho
    · rw [List.getElem?_set_ne e] at hs
      have hne := h.sep i j r s hr hs e g hg
      have hos := h.own j s hs
      obtain ⟨h1, h2⟩ := hos
      refine ⟨h1, ?_⟩
      rcases h2 with h2 | ⟨g', cap, cur, e1, hB, hk, q⟩
      · exact .inl h2
      · refine .inr ⟨g', cap, cur, e1, hB, ?_, q⟩
        rw [hb.block g' (block_lt hk) ?_]
        · exact hk
        · rw [e1] at hne
          exact hne
  · have key : ∀ j s, (rs.set i (r.1, r.2.1, l))[j]? = some s → ∃ s', rs[j]? = some s' ∧ rowV s' = rowV s := fun j s hs => by
      by_cases e : i = j
      · subst e
        rw [List.getElem?_set_self hi] at hs
        cases hs
        exact ⟨r, hr, hv.symm⟩
      · rw [List.getElem?_set_ne e] at hs
        exact ⟨s, hs, rfl⟩
    obtain ⟨s', hs', e1⟩ := key j s hs
    obtain ⟨t', ht', e2⟩ := key k t ht
    rw [← e1] at hx
    rw [← e2]
    exact h.sep j k s' t' hs' ht' hjk x hx
theorem Grid.bss {w : World} {B : Nat} {rs : List Row} (h : Grid w B rs) : Bss w (vals rs) (lsts rs) := by
  refine ⟨by rw [length_vals, length_lsts], fun i l hl => ?_⟩
  unfold lsts at hl
  rw [List.getElem?_map] at hl
  cases hr : rs[i]? with
  | none => rw [hr] at hl; cases hl
  | some r =>
    rw [hr] at hl
    simp only [Option.map_some, Option.some.injEq] at hl
    subst hl
    exact ⟨r.1, r.2.1, by unfold vals; rw [List.getElem?_map, hr]; rfl, own_sl (h.own i r hr)⟩
/-- the spine grows, or is written: the rows stay -/
theorem Grid.beside {w w' : World} {B : Nat} {rs : List Row} (h : Grid w B rs) {g : Nat} (hb : Beside g w w') (hne : ∀ (i : Nat) (r : Row), rs[i]? = some r → (rowV r).ownBlock ≠ some g) : Grid w' B rs := by
  refine ⟨fun j s hs => ?_, h.sep⟩
  have hne' := hne j s hs
  obtain ⟨h1, h2⟩ := h.own j s hs
  refine ⟨h1, ?_⟩
  rcases h2 with h2 | ⟨g', cap, cur, e1, hB, hk, q⟩
  · exact .inl h2
  · refine .inr ⟨g', cap, cur, e1, hB, ?_, q⟩
    rw [hb.block g' (block_lt hk) ?_]
    · exact hk
    · rw [e1] at hne'
      exact hne'
theorem Grid.grown {w w' : World} {B B' e m : Nat} {u : Value} {ys : List Value} {rs : List Row} (h : Grid w B rs) (hu : w.ownsRow B' e 1 u m ys) (he : (5 : Nat) ≠ e) (hg : w.grownBy w' u.ownBlock) : Grid w' B rs :=
  ⟨fun i r hr => (h.own i r hr).kept hg (own_ne (h.own i r hr) hu he), h.sep⟩
set_option linter.unusedSimpArgs false
theorem own_empty (w : World) : (w.alloc (.cells #[] 5)).ownsRow w.heap.size 5 1 (.slice (some ⟨w.heap.size, 0, none⟩) 0 0) 0 (([] : List F).map bv) :=
  ⟨rfl, .inr ⟨w.heap.size, 0, #[], rfl, Nat.le_refl _, heap_alloc_new w _, Nat.le_refl _, Nat.zero_le _, rfl, rfl⟩⟩
set_option maxRecDepth 1000000 in
theorem clone_bytes (A : Option Addr) (n c : Nat) (l : List F) (w : World) (ha : Bs w A c l) (hn : l.length = n) (hm : n ≤ 140737488351232) :
    Calls Try.prog 26 #[.slice A n c] w fun e w' => ∃ A' c', e = .returned (.slice A' n c') ∧ w'.ownsRow w.heap.size 5 1 (.slice A' n c') n (l.map bv) ∧ Below w.heap.size w w' := by
  have HA := Lib.hid ha
  have HN := Lib.hid hn
  have q : ∀ (w : World) (a : Option Addr) (n c : Nat), (binOp .eql 23 (.slice a n c) (.slice none 0 0)).run Try.prog w = .ok (.bool a.isNone) w := fun w a n c => Lib.run_eql_slice_nil w _ _ a n c 0 0 Try.underlying23
  cases A with
  | none =>
    have h0 : l = [] := by
      rcases ha.cells with h | ⟨b, o, h, _⟩
      · exact List.map_eq_nil_iff.1 h
      · cases h
    subst h0
    simp at hn
    subst hn
    clear HA HN ha hm
    go_enter Try.func26, Try.ntmps26
    go_wp2
    go_ret
    exact ⟨none, 0, rfl, World.ownsRow_nil _ _ _ _, Below.refl _ _⟩
  | some a =>
    clear ha hn
    go_enter Try.func26, Try.ntmps26
    have HE := Lib.hid (own_empty w)
    go_wp2_with (at_builtin; refine app_bytes _ rfl _ _ rfl w.heap.size (some ⟨w.heap.size, 0, none⟩) 0 0 [] rfl HE.out (some a) c n l rfl (HA.out.alloc _) HN.out (by omega) (by simp) ?_; intro A3 c3 w3 hown3 hb3; have HO3 := Lib.hid hown3; have HB3 : Hid (Below w.heap.size w w3) := (below_alloc w _).trans hb3; clear hown3 hb3)
    go_ret
    refine ⟨A3, c3, rfl, ?_, HB3.out⟩
    have := HO3.out
    rwa [Nat.zero_add, List.nil_append] at this
theorem make_rows {ops : Array Oper} {rest : List Oper} {o : Oper} {a : Act} {Q : Exit → Act → World → Prop} (w : World) (hg : o.guard = none) (l c : Operand) (hop : o.op = Op.makeSlice 55 l c)
    (kl kc : IntKind) (L C : Int) (N : Nat) (hl : a.eval l = .int kl L) (hc : a.eval c = .int kc C) (hL : L = (N : Int)) (hC : C = (N : Int)) (hN : N ≤ 1000000)
    (hK : ∀ w', w'.ownsRow w.heap.size 23 1 (.slice (some ⟨w.heap.size, 0, none⟩) N N) N (List.replicate N (.slice none 0 0)) → Below w.heap.size w w' → wpList Try.prog ops Q rest (a.put o.dst (.slice (some ⟨w.heap.size, 0, none⟩) N N)) w') : wpList Try.prog ops Q (o :: rest) a w := by
  obtain ⟨i0, hi0, hz0, hz1, hz2⟩ := info_parts info_row
  refine wpList_make_full w hg l c 55 hop w.heap.size 23 i0 _ 1 Try.underlying55 hi0 hz0 hz1 kl kc L C N hl hc hL hC (by rw [hz2]; omega) (by unfold maxLen; omega) (Nat.le_refl _) ?_
  intro w1 hown hgr
  refine hK w1 ?_ ((Below.refl _ _).grown hgr (Nat.le_refl _) (by simp))
  have e : (madeCells (Value.slice none 0 0).cells (N * 1)).toList = List.replicate N (.slice none 0 0) := by
    rw [show (Value.slice none 0 0).cells = #[.slice none 0 0] from rfl, Nat.mul_one, toList_madeCells_one]
  rw [e] at hown
  exact hown
def nilV : Value := .slice none 0 0
/-- a spine while it is filled -/
def spine (rs : List Row) (n : Nat) : List Value := vals rs ++ List.replicate (n - rs.length) nilV
theorem spine_zero (n : Nat) : spine [] n = List.replicate n nilV := rfl
theorem spine_all {rs : List Row} {n : Nat} (h : rs.length = n) : spine rs n = vals rs := by
  subst h; unfold spine; rw [Nat.sub_self]; simp
theorem length_spine {rs : List Row} {n : Nat} (h : rs.length ≤ n) : (spine rs n).length = n := by
  unfold spine; rw [List.length_append, length_vals, List.length_replicate]; omega
theorem spine_snoc {rs : List Row} {n : Nat} (h : rs.length < n) (r : Row) : (spine rs n).set rs.length (rowV r) = spine (rs ++ [r]) n := by
  unfold spine vals
  rw [List.set_append_right _ _ (by rw [List.length_map]; exact Nat.le_refl _), List.length_map, Nat.sub_self]
  obtain ⟨k, hk⟩ : ∃ k, n - rs.length = k + 1 := ⟨n - rs.length - 1, by omega⟩
  rw [hk, List.replicate_succ, List.set_cons_zero, List.map_append, List.length_append, List.length_singleton, show n - (rs.length + 1) = k by omega, List.append_assoc]
  rfl
theorem spine_at {rs : List Row} {n : Nat} (h : rs.length < n) : (spine rs n)[rs.length]? = some nilV := by
  unfold spine vals
  rw [List.getElem?_append_right (by rw [List.length_map]; exact Nat.le_refl _), List.length_map, Nat.sub_self]
  obtain ⟨k, hk⟩ : ∃ k, n - rs.length = k + 1 := ⟨n - rs.length - 1, by omega⟩
  rw [hk]; rfl
theorem Bss.at' {w : World} {vs : List Value} {ls : List (List F)} (h : Bss w vs ls) {i : Nat} (hi : i < ls.length) : ∃ A c l, ls[i]? = some l ∧ vs[i]? = some (.slice A l.length c) ∧ Bs w A c l := by
  obtain ⟨A, c, h1, h2⟩ := h.2 i ls[i] (List.getElem?_eq_getElem hi)
  exact ⟨A, c, _, List.getElem?_eq_getElem hi, h1, h2⟩
theorem lsts_snoc {rs : List Row} {ls : List (List F)} {i : Nat} {l : List F} {A : Option Addr} {c : Nat} (h : lsts rs = ls.take i) (hl : ls[i]? = some l) : lsts (rs ++ [(A, c, l)]) = ls.take (i + 1) := by
  unfold lsts at *
  rw [List.map_append, h, List.take_add_one, hl]
  rfl
/-- what a call has made: a spine and rows of its own -/
structure MadeR (w w' : World) (A : Option Addr) (n c : Nat) (rs : List Row) : Prop where
  sp : w'.ownsRow w.heap.size 23 1 (.slice A n c) n (vals rs)
  gr : Grid w' w.heap.size rs
  bel : Below w.heap.size w w'
theorem lit_row {w : World} {n : Nat} (u : Value) (hn : n = w.heap.size) : Sl (w.alloc (.cells #[u] 23)) (some ⟨n, 0, none⟩) 1 [u] := by
  subst hn
  exact ⟨by simp, by unfold maxLen; omega, .inr ⟨w.heap.size, 0, rfl, by simp, fun i v hv => by
    rw [Nat.zero_add, World.cell?_alloc_new]
    simpa using hv⟩⟩
theorem app_spine {ops : Array Oper} {rest : List Oper} {o : Oper} {a : Act} {Q : Exit → Act → World → Prop} (w : World) (hg : o.guard = none) (s x : Operand)
    (ho : o.op = .call { callee := .builtin .append, args := #[s, x], argTypes := #[55, 55] })
    (B : Nat) (A1 : Option Addr) (c1 n : Nat) (xs : List Value) (hs : a.eval s = .slice A1 n c1) (hown : w.ownsRow B 23 1 (.slice A1 n c1) n xs)
    (A : Option Addr) (c : Nat) (u : Value) (hx : a.eval x = .slice A 1 c) (hl : Sl w A c [u]) (hu : u.oneCell' = true) (hN : n ≤ 100000) (hB : B ≤ w.heap.size)
    (hK : ∀ A' c' w', w'.ownsRow B 23 1 (.slice A' (n + 1) c') (n + 1) (xs ++ [u]) → w.grownBy w' (Value.slice A1 n c1).ownBlock → wpList Try.prog ops Q rest (a.put o.dst (.slice A' (n + 1) c')) w') : wpList Try.prog ops Q (o :: rest) a w := by
  refine app_sl w hg s x 55 ho B 23 (.slice none 0 0) 24 Try.underlying55 info_row rfl _ n xs hs hown A c [u] (by simpa using hx) hl (fun v hv => by simp at hv; subst hv; exact hu) (by decide) (by simp; omega) hB ?_
  intro v' w' h1 h2
  simp only [List.length_singleton] at h1
  obtain ⟨A', c', rfl⟩ := own_form h1
  exact hK A' c' w' h1 h2
theorem vals_snoc (rs : List Row) (r : Row) : vals rs ++ [rowV r] = vals (rs ++ [r]) := by unfold vals; rw [List.map_append]; rfl

structure Spn (wb wr : World) (g n c : Nat) (ls : List (List F)) : Prop where
  ex : ∃ vs, wr.ownsRow wb.heap.size 23 1 (.slice (some ⟨g, 0, none⟩) n c) n vs ∧ vs.length = ls.length ∧ ∀ (i : Nat) (l : List F), ls[i]? = some l → ∃ A' c', vs[i]? = some (Value.slice A' l.length c') ∧ Bs wr A' c' l ∧ (l ≠ [] → ∀ b o, A' = some ⟨b, o, none⟩ → b ≠ g)
  bel : Below wb.heap.size wb wr
theorem Spn.of {wb wr : World} {A : Option Addr} {n c : Nat} {rs : List Row} {ls : List (List F)} (h : MadeR wb wr A n c rs) (hl : lsts rs = ls) (hn : 0 < n) : ∃ g, A = some ⟨g, 0, none⟩ ∧ Spn wb wr g n c ls := by
  obtain ⟨g, hA, _, _⟩ := own_addr h.sp hn
  subst hA
  refine ⟨g, rfl, ⟨vals rs, h.sp, by rw [← hl, length_vals, length_lsts], fun i l hil => ?_⟩, h.bel⟩
  subst hl
  unfold lsts at hil
  rw [List.getElem?_map] at hil
  cases hr : rs[i]? with
  | none => rw [hr] at hil; cases hil
  | some r =>
    rw [hr] at hil
    simp only [Option.map_some, Option.some.injEq] at hil
    subst hil
    have hown := h.gr.own i r hr
    refine ⟨r.1, r.2.1, by unfold vals; rw [List.getElem?_map, hr]; rfl, own_sl hown, fun hne b o hA => ?_⟩
    have hne2 := own_ne hown h.sp (by decide)
    unfold rowV at hne2
    rw [hA] at hne2
    have hz : 0 < r.2.2.length := List.length_pos_iff.2 hne
    obtain ⟨g', hg', _, _⟩ := own_addr (c := r.2.1) hown hz
    rw [hA] at hg'
    obtain ⟨rfl, rfl⟩ : b = g' ∧ o = 0 := by injection hg' with e; injection e with e1 e2; exact ⟨e1, e2⟩
    rcases hne2 with e | e
    · cases e
    · simp only [Value.ownBlock, ne_eq, Option.some.injEq] at e
      exact e
theorem Spn.len {wb wr : World} {g n c : Nat} {ls : List (List F)} (h : Spn wb wr g n c ls) : ls.length = n := by
  obtain ⟨vs, h1, h2, h3⟩ := h.ex
  have := own_len h1
  omega
theorem Spn.at {wb wr : World} {g n c : Nat} {ls : List (List F)} (h : Spn wb wr g n c ls) {i : Nat} (hi : i < n) : (∃ v, wr.cell? ⟨g, i, none⟩ = some v) ∧ wr.frozen? ⟨g, i, none⟩ = false ∧ wb.heap.size ≤ g := by
  obtain ⟨vs, h1, h2, h3⟩ := h.ex
  have hl := own_len h1
  have hc := h1.cellAt i (by omega)
  refine ⟨⟨vs[i]'(by omega), ?_⟩, h1.frozenAt i, (own_some h1).1⟩
  rw [hc, List.getElem?_eq_getElem]
theorem Spn.put {wb wr : World} {g n c : Nat} {ls : List (List F)} (h : Spn wb wr g n c ls) {i : Nat} {A : Option Addr} {cA : Nat} {l : List F} (hl : Bs wb A cA l) : Spn wb (wr.setCell ⟨g, i, none⟩ (.slice A l.length cA)) g n c (ls.set i l) := by
  obtain ⟨vs, h1, h2, h3⟩ := h.ex
  have hg := (own_some h1).1
  have hbe := (Beside.refl g wr).setCell i (.slice A l.length cA)
  have hbel : Below wb.heap.size wb (wr.setCell ⟨g, i, none⟩ (.slice A l.length cA)) := h.bel.setCell hg _
  refine ⟨⟨vs.set i (.slice A l.length cA), (h1.stored i _).1, by simp [h2], fun j m hm => ?_⟩, hbel⟩
  by_cases e : i = j
  · subst e
    have hi : i < ls.length := by
      rcases Nat.lt_or_ge i ls.length with q | q
      · exact q
      · rw [List.getElem?_eq_none (by rw [List.length_set]; exact q)] at hm; cases hm
    rw [List.getElem?_set_self hi] at hm
    injection hm with hm
    subst hm
    refine ⟨A, cA, List.getElem?_set_self (by omega), Sl.below hl hbel, fun hne b o hA => ?_⟩
    rcases hl.cells with q | ⟨b', o', hA', hlt, _⟩
    · exact absurd (List.map_eq_nil_iff.1 q) hne
    · rw [hA] at hA'
      injection hA' with e; injection e with e1 e2
      omega
  · rw [List.getElem?_set_ne e] at hm
    obtain ⟨A', c', a, b, d⟩ := h3 j m hm
    refine ⟨A', c', by rw [List.getElem?_set_ne e]; exact a, ?_, d⟩
    by_cases hm0 : m = []
    · subst hm0
      exact ⟨b.le, b.mx, .inl rfl⟩
    · exact Sl.beside b hbe (d hm0)
/-- one byte of a row of the call's own -/
theorem MadeR.byte {wb wr : World} {A : Option Addr} {n c : Nat} {rs : List Row} (h : MadeR wb wr A n c rs) {i x : Nat} {r : Row} (hr : rs[i]? = some r) (hx : x < r.2.2.length) :
    ∃ g, r.1 = some ⟨g, 0, none⟩ ∧ wr.cell? ⟨g, x, none⟩ = some (.int .u8 ((r.2.2.getD x 0).n : Int)) ∧ wr.frozen? ⟨g, x, none⟩ = false ∧ ∀ (nd : Nat) (y : F), MadeR wb ((wr.drewN nd).setCell ⟨g, x, none⟩ (bv y)) A n c (rs.set i (r.1, r.2.1, r.2.2.set x y)) := by
  have hown := h.gr.own i r hr
  unfold ownR rowV at hown
  obtain ⟨g, hgA, _, _⟩ := own_addr hown (by omega)
  have hob : (rowV r).ownBlock = some g := by unfold rowV; rw [hgA]; rfl
  have hB := (own_block_lt (h.gr.own i r hr) hob).1
  have hsep := own_ne (h.gr.own i r hr) h.sp (by decide)
  rw [hgA] at hown
  have hcl := hown.cellAt x (by omega)
  rw [getElem?_bv hx] at hcl
  refine ⟨g, hgA, hcl, hown.frozenAt x, fun nd y => ⟨?_, ?_, (h.bel.trans ((below_drew0 wr nd).mono h.bel.size)).setCell hB _⟩⟩
  · have hv : vals (rs.set i (r.1, r.2.1, r.2.2.set x y)) = vals rs := by
      refine List.ext_getElem? fun a => ?_
      unfold vals
      rw [List.getElem?_map, List.getElem?_map]
      by_cases e : i = a
      · subst e
        rw [List.getElem?_set_self (List.getElem?_eq_some_iff.1 hr).1, hr]
        show some (rowV _) = some (rowV _)
        unfold rowV
        rw [List.length_set]
      · rw [List.getElem?_set_ne e]
    rw [hv]
    exact ownsRow_setCell_other (own_drewN h.sp nd) (by
      rcases hsep with e | e
      · rw [e] at hob; cases hob
      · rw [hob] at e; exact fun e2 => e e2.symm) _
  · have hst := ((show (wr.drewN nd).ownsRow wb.heap.size 5 1 (.slice (some ⟨g, 0, none⟩) r.2.2.length r.2.1) r.2.2.length (r.2.2.map bv) from own_drewN hown nd).stored x (bv y)).1
    rw [map_set] at hst
    refine (h.gr.below (below_drew0 wr nd)).write hr hob (by rw [List.length_set]) ((Beside.refl g (wr.drewN nd)).setCell x _) ?_
    unfold ownR rowV
    rw [List.length_set]
    show World.ownsRow _ wb.heap.size 5 1 (.slice r.1 r.2.2.length r.2.1) r.2.2.length _
    rw [hgA]
    exact hst
theorem lsts_set (rs : List Row) (i : Nat) (r : Row) : lsts (rs.set i r) = (lsts rs).set i r.2.2 := by unfold lsts; rw [List.map_set]
def rowsM (R C : Nat) (f : Mx) : List (List F) := (List.range R).map fun r => tab C (f r)
theorem length_rowsM (R C : Nat) (f : Mx) : (rowsM R C f).length = R := by unfold rowsM; simp
theorem rowsM_at {R C i : Nat} (f : Mx) (h : i < R) : (rowsM R C f)[i]? = some (tab C (f i)) := by
  unfold rowsM
  rw [List.getElem?_map, List.getElem?_range h]; rfl
theorem Spn.put' {wb wr : World} {g n c : Nat} {ls : List (List F)} (h : Spn wb wr g n c ls) {i : Nat} {A : Option Addr} {cA : Nat} {l : List F} (hl : Bs wr A cA l) (hne : l ≠ [] → ∀ b o, A = some ⟨b, o, none⟩ → b ≠ g) : Spn wb (wr.setCell ⟨g, i, none⟩ (.slice A l.length cA)) g n c (ls.set i l) := by
  obtain ⟨vs, h1, h2, h3⟩ := h.ex
  have hg := (own_some h1).1
  have hbe := (Beside.refl g wr).setCell i (.slice A l.length cA)
  have keep : ∀ {A' : Option Addr} {c' : Nat} {m : List F}, Bs wr A' c' m → (m ≠ [] → ∀ b o, A' = some ⟨b, o, none⟩ → b ≠ g) → Bs (wr.setCell ⟨g, i, none⟩ (.slice A l.length cA)) A' c' m := fun {A' c' m} b d => by
    by_cases hm0 : m = []
    · subst hm0
      exact ⟨b.le, b.mx, .inl rfl⟩
    · exact Sl.beside b hbe (d hm0)
  refine ⟨⟨vs.set i (.slice A l.length cA), (h1.stored i _).1, by simp [h2], fun j m hm => ?_⟩, h.bel.setCell hg _⟩
  by_cases e : i = j
  · subst e
    have hi : i < ls.length := by
      rcases Nat.lt_or_ge i ls.length with q | q
      · exact q
      · rw [List.getElem?_eq_none (by rw [List.length_set]; exact q)] at hm; cases hm
    rw [List.getElem?_set_self hi] at hm
    injection hm with hm
    subst hm
    exact ⟨A, cA, List.getElem?_set_self (by omega), keep hl hne, hne⟩
  · rw [List.getElem?_set_ne e] at hm
    obtain ⟨A', c', a, b, d⟩ := h3 j m hm
    exact ⟨A', c', by rw [List.getElem?_set_ne e]; exact a, keep b d, d⟩
theorem Spn.below {wb w w' : World} {g n c : Nat} {ls : List (List F)} (h : Spn wb w g n c ls) (hb : Below w.heap.size w w') : Spn wb w' g n c ls := by
  obtain ⟨vs, h1, h2, h3⟩ := h.ex
  exact ⟨⟨vs, own_below h1 hb, h2, fun i l hl => by obtain ⟨A', c', a, b, d⟩ := h3 i l hl; exact ⟨A', c', a, Sl.below b hb, d⟩⟩, h.bel.trans (hb.mono h.bel.size)⟩
theorem Spn.get {wb wr : World} {g n c : Nat} {ls : List (List F)} (h : Spn wb wr g n c ls) {i : Nat} {l : List F} (hl : ls[i]? = some l) : ∃ A' c', wr.cell? ⟨g, i, none⟩ = some (.slice A' l.length c') ∧ Bs wr A' c' l ∧ (l ≠ [] → ∀ b o, A' = some ⟨b, o, none⟩ → b ≠ g) := by
  obtain ⟨vs, h1, h2, h3⟩ := h.ex
  obtain ⟨A', c', a, b, d⟩ := h3 i l hl
  refine ⟨A', c', ?_, b, d⟩
  rw [h1.cellAt i (by have := (List.getElem?_eq_some_iff.1 a).1; have := own_len h1; omega)]
  exact a
theorem rowsM_set {R C i : Nat} {f f' : Mx} {l : List F} (hi : i < R) (hl : l = tab C (f' i)) (h : ∀ r, r ≠ i → f' r = f r) : (rowsM R C f).set i l = rowsM R C f' := by
  refine List.ext_getElem? fun j => ?_
  by_cases e : i = j
  · subst e
    rw [List.getElem?_set_self (by rw [length_rowsM]; exact hi), rowsM_at f' hi, hl]
  · rw [List.getElem?_set_ne e]
    rcases Nat.lt_or_ge j R with q | q
    · rw [rowsM_at f q, rowsM_at f' q, h j (fun z => e z.symm)]
    · rw [List.getElem?_eq_none (by rw [length_rowsM]; exact q), List.getElem?_eq_none (by rw [length_rowsM]; exact q)]
theorem lit_drew (y : F) {w : World} {n : Nat} (hn : n = w.heap.size) : Bs (w.alloc (.cells #[bv y] 5)).drew (some ⟨n, 0, none⟩) 1 [y] :=
  Sl.drewN (w := w.alloc (.cells #[bv y] 5)) (lit_bs (l := [y]) hn rfl rfl (by simp)) 1
end Go.Proofs.Ytmcamamfpefffaa
