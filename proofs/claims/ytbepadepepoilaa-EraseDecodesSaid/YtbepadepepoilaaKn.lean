/- What is known of memory, in one word: blocks that are known whole, slices that read as lists, the field; what keeps it. -/
import Derived.Test.YtbepadepepoilaaMxA
namespace Go.Proofs.Ytbepadepepoilaa
open Go.RowKit
set_option linter.unusedVariables false
/-- blocks bs, slices ss, and the field's block f (none: nothing is said) -/
structure Kn (w : World) (f : Option Nat) (bs : List (Nat × TypeId × Array Value)) (ss : List (Option Addr × Nat × List Value)) : Prop where
  f : ∀ b, f = some b → GfAt w b
  b : ∀ x, x ∈ bs → Blk w x.1 x.2.1 x.2.2
  s : ∀ x, x ∈ ss → Sl w x.1 x.2.1 x.2.2
section
variable {w w' : World} {f : Option Nat} {bs : List (Nat × TypeId × Array Value)} {ss : List (Option Addr × Nat × List Value)}
theorem Kn.below (h : Kn w f bs ss) (hb : Below w.heap.size w w') : Kn w' f bs ss :=
  ⟨fun b e => (h.f b e).below hb, fun x hx => (h.b x hx).below hb, fun x hx => (h.s x hx).below hb⟩
theorem Kn.alloc (h : Kn w f bs ss) (o : Obj) : Kn (w.alloc o) f bs ss := h.below (below_alloc w o)
theorem Kn.drewN (h : Kn w f bs ss) (n : Nat) : Kn (w.drewN n) f bs ss := h.below (below_drew0 w n)
theorem Kn.blk (h : Kn w f bs ss) {g : Nat} {t : TypeId} {cs : Array Value} (hb : Blk w g t cs) : Kn w f ((g, t, cs) :: bs) ss :=
  ⟨h.f, fun x hx => by
    rcases List.mem_cons.1 hx with e | e
    · subst e; exact hb
    · exact h.b x e, h.s⟩
theorem Kn.sl (h : Kn w f bs ss) {A : Option Addr} {c : Nat} {xs : List Value} (hs : Sl w A c xs) : Kn w f bs ((A, c, xs) :: ss) :=
  ⟨h.f, h.b, fun x hx => by
    rcases List.mem_cons.1 hx with e | e
    · subst e; exact hs
    · exact h.s x e⟩
theorem Kn.gf {b : Nat} (h : Kn w (some b) bs ss) : GfAt w b := h.f b rfl
theorem Kn.lt (h : Kn w f bs ss) {g : Nat} {t : TypeId} {cs : Array Value} (hx : (g, t, cs) ∈ bs) : g < w.heap.size := (h.b _ hx).lt
theorem Kn.at (h : Kn w f bs ss) {g : Nat} {t : TypeId} {cs : Array Value} (hx : (g, t, cs) ∈ bs) : Blk w g t cs := h.b _ hx
theorem Kn.sat (h : Kn w f bs ss) {A : Option Addr} {c : Nat} {xs : List Value} (hx : (A, c, xs) ∈ ss) : Sl w A c xs := h.s _ hx
end
theorem Beside.size {g : Nat} {w w' : World} (h : Beside g w w') : w.heap.size ≤ w'.heap.size := by obtain ⟨_, _, _, h, _⟩ := h; exact h
theorem Beside.block {g : Nat} {w w' : World} (h : Beside g w w') (k : Nat) (hk : k < w.heap.size) (hne : some k ≠ some g) : w'.heap[k]? = w.heap[k]? := by obtain ⟨_, _, _, _, h⟩ := h; exact h k hk hne
/-- blocks and slices that were there in w, where only the row g (that was not) has been written since -/
theorem Blk.beside {w w' : World} {g b : Nat} {t : TypeId} {cs : Array Value} (h : Blk w b t cs) (hb : Beside g w w') (hne : b ≠ g) : Blk w' b t cs :=
  (Beside.block hb b h.lt (fun e => hne (by injection e))).trans h
theorem GfAt.beside {w w' : World} {g b : Nat} (h : GfAt w b) (hb : Beside g w w') (hne : b ≠ g) : GfAt w' b := by
  have hblk := Beside.block hb b h.lt (fun e => hne (by injection e))
  refine ⟨Nat.lt_of_lt_of_le h.lt (Beside.size hb), fun i hi => ?_, fun x hx => ?_⟩
  · exact (World.cell?_of_block (a := ⟨b, i, none⟩) hblk).trans (h.e i hi)
  · exact (World.cell?_of_block (a := ⟨b, 510 + x, none⟩) hblk).trans (h.l x hx)
theorem Sl.beside {w w' : World} {g : Nat} {A : Option Addr} {c : Nat} {xs : List Value} (h : Sl w A c xs) (hb : Beside g w w') (hne : ∀ b o, A = some ⟨b, o, none⟩ → b ≠ g) : Sl w' A c xs := by
  refine ⟨h.le, h.mx, ?_⟩
  rcases h.cells with h0 | ⟨b, o, hA, hl, hc⟩
  · exact .inl h0
  · have hblk := Beside.block hb b hl (fun e => hne b o hA (by injection e))
    exact .inr ⟨b, o, hA, Nat.lt_of_lt_of_le hl (Beside.size hb), fun i v hv => (World.cell?_of_block (a := ⟨b, o + i, none⟩) hblk).trans (hc i v hv)⟩
/-- from the beginning on: below B all is as it was -/
theorem Beside.under {B g : Nat} {w0 w w' : World} (h : Below B w0 w) (hb : Beside g w w') (hg : B ≤ g) (hB : B ≤ w.heap.size) : Below B w0 w' :=
  h.grown hb hB fun k hk => by injection hk with hk; omega
theorem own_some {w : World} {B e g n c : Nat} {xs : List Value} (h : w.ownsRow B e 1 (.slice (some ⟨g, 0, none⟩) n c) n xs) : B ≤ g ∧ g < w.heap.size := by
  rcases h.2 with ⟨h1, h2⟩ | ⟨g', cap, cur, h1, hB, hg, hnc, hcm, hcs, ht⟩
  · cases h1
  · injection h1 with e1 e2 e3
    injection e1 with e1
    injection e1 with e1
    subst e1
    exact ⟨hB, block_lt hg⟩
/-- what is known, and of what is outside the row g -/
theorem Kn.beside {w w' : World} {f : Option Nat} {bs : List (Nat × TypeId × Array Value)} {ss : List (Option Addr × Nat × List Value)} {g : Nat} (h : Kn w f bs ss) (hb : Beside g w w')
    (hf : ∀ b, f = some b → b ≠ g) (hbs : ∀ x, x ∈ bs → x.1 ≠ g) (hss : ∀ x, x ∈ ss → ∀ b o, x.1 = some ⟨b, o, none⟩ → b ≠ g) : Kn w' f bs ss :=
  ⟨fun b e => (h.f b e).beside hb (hf b e), fun x hx => (h.b x hx).beside hb (hbs x hx), fun x hx => (h.s x hx).beside hb (hss x hx)⟩
/-- what was there before the row was -/
theorem Kn.beside_new {w0 w w' : World} {f : Option Nat} {bs : List (Nat × TypeId × Array Value)} {ss : List (Option Addr × Nat × List Value)} {g : Nat} (h0 : Kn w0 f bs ss) (h : Kn w f bs ss) (hb : Beside g w w') (hg : w0.heap.size ≤ g) : Kn w' f bs ss := by
  refine ⟨fun b e => (h.f b e).beside hb (by have := (h0.f b e).lt; omega), fun x hx => (h.b x hx).beside hb (by have := (h0.b x hx).lt; omega), fun x hx => ?_⟩
  have hs0 := h0.s x hx
  rcases hs0.cells with e | ⟨b, o, hA, hl, _⟩
  · have hs := h.s x hx
    exact ⟨hs.le, hs.mx, .inl e⟩
  · exact (h.s x hx).beside hb fun b' o' e => by rw [hA] at e; injection e with e; injection e with e1 e2; omega
theorem Kn.nothing (w : World) : Kn w none [] [] := ⟨(fun b h => by cases h), (fun x h => by cases h), (fun x h => by cases h)⟩
theorem Kn.swap {w : World} {f : Option Nat} {x y : Nat × TypeId × Array Value} {bs : List (Nat × TypeId × Array Value)} {ss : List (Option Addr × Nat × List Value)} (h : Kn w f (x :: y :: bs) ss) : Kn w f (y :: x :: bs) ss :=
  ⟨h.f, fun z hz => h.b z (by simp only [List.mem_cons] at hz ⊢; rcases hz with e | e | e <;> simp [e]), h.s⟩
theorem kn1 (w : World) (t1 : TypeId) (c1 : Array Value) : Kn (w.alloc (.cells c1 t1)) none [(w.heap.size, t1, c1)] [] :=
  ((Kn.nothing w).alloc _).blk (Blk.new w c1 t1)
theorem kn2 (w : World) (t1 t2 : TypeId) (c1 c2 : Array Value) : Kn ((w.alloc (.cells c1 t1)).alloc (.cells c2 t2)) none [(w.heap.size, t1, c1), (w.heap.size + 1, t2, c2)] [] := by
  have h := Blk.new (w.alloc (.cells c1 t1)) c2 t2
  rw [size_alloc'] at h
  exact (((kn1 w t1 c1).alloc _).blk h).swap
theorem kn3 (w : World) (t1 t2 t3 : TypeId) (c1 c2 c3 : Array Value) : Kn (((w.alloc (.cells c1 t1)).alloc (.cells c2 t2)).alloc (.cells c3 t3)) none [(w.heap.size, t1, c1), (w.heap.size + 1, t2, c2), (w.heap.size + 2, t3, c3)] [] := by
  have h := Blk.new ((w.alloc (.cells c1 t1)).alloc (.cells c2 t2)) c3 t3
  rw [size_alloc', size_alloc'] at h
  have k := (((kn2 w t1 t2 c1 c2).alloc (.cells c3 t3)).blk h)
  exact ⟨k.f, fun z hz => k.b z (by simp only [List.mem_cons] at hz ⊢; rcases hz with e | e | e | e <;> simp [e]), k.s⟩
theorem below1 (w : World) (o1 : Obj) : Below w.heap.size w (w.alloc o1) := below_alloc w o1
theorem below2 (w : World) (o1 o2 : Obj) : Below w.heap.size w ((w.alloc o1).alloc o2) := (below_alloc w o1).trans ((below_alloc _ o2).mono (by simp))
theorem below3 (w : World) (o1 o2 o3 : Obj) : Below w.heap.size w (((w.alloc o1).alloc o2).alloc o3) := (below2 w o1 o2).trans ((below_alloc _ o3).mono (by simp; omega))
theorem Kn.withF {w : World} {f : Option Nat} {bs : List (Nat × TypeId × Array Value)} {ss : List (Option Addr × Nat × List Value)} (h : Kn w f bs ss) {b : Nat} (hg : GfAt w b) : Kn w (some b) bs ss := ⟨(fun b' e => by cases e; exact hg), h.b, h.s⟩
/-- a row of the call's own that is being written, what is known beside it, and that nothing that was there in w has turned -/
structure St (w wr : World) (B g n c : Nat) (L : List F) (bs : List (Nat × TypeId × Array Value)) : Prop where
  kn : Kn wr none bs []
  own : wr.ownsRow B 5 1 (.slice (some ⟨g, 0, none⟩) n c) n (L.map bv)
  bel : Below w.heap.size w wr
section
variable {w wr w' : World} {B g n c : Nat} {L L' : List F} {bs : List (Nat × TypeId × Array Value)}
theorem St.below (h : St w wr B g n c L bs) (hb : Below wr.heap.size wr w') : St w w' B g n c L bs :=
  ⟨h.kn.below hb, own_below h.own hb, h.bel.trans (hb.mono h.bel.size)⟩
theorem St.alloc (h : St w wr B g n c L bs) (o : Obj) : St w (wr.alloc o) B g n c L bs := h.below (below_alloc _ _)
theorem St.drewN (h : St w wr B g n c L bs) (k : Nat) : St w (wr.drewN k) B g n c L bs := h.below (below_drew0 _ _)
theorem St.write (h : St w wr B g n c L bs) (hb : Beside g wr w') (ho : w'.ownsRow B 5 1 (.slice (some ⟨g, 0, none⟩) n c) n (L'.map bv)) (hne : ∀ x, x ∈ bs → x.1 ≠ g) (hg : w.heap.size ≤ g) : St w w' B g n c L' bs :=
  ⟨h.kn.beside hb (fun b e => by cases e) hne (fun x hx => by cases hx), ho, Beside.under h.bel hb hg h.bel.size⟩
theorem St.blk (h : St w wr B g n c L bs) {k : Nat} {t : TypeId} {cs : Array Value} (hb : Blk wr k t cs) : St w wr B g n c L ((k, t, cs) :: bs) := ⟨h.kn.blk hb, h.own, h.bel⟩
theorem St.set (h : St w wr B g n c L bs) (i : Nat) (x : F) (hne : ∀ x, x ∈ bs → x.1 ≠ g) (hg : w.heap.size ≤ g) : St w (wr.setCell ⟨g, i, none⟩ (bv x)) B g n c (L.set i x) bs := by
  have hs := h.own.stored i (bv x)
  rw [map_set] at hs
  exact h.write ((Beside.refl g wr).setCell i _) hs.1 hne hg
end
end Go.Proofs.Ytbepadepepoilaa
