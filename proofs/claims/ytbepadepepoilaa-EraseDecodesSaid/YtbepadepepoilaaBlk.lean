/- Blocks of several cells (a struct in memory), and rows beside them. -/
import Derived.Test.YtbepadepepoilaaApp
import Derived.OneCell
namespace Go.Proofs.Ytbepadepepoilaa
open Go.RowKit
def Blk (w : World) (b : Nat) (t : TypeId) (cs : Array Value) : Prop := w.heap[b]? = some (.cells cs t (0, 0))
theorem Blk.lt {w : World} {b : Nat} {t : TypeId} {cs : Array Value} (h : Blk w b t cs) : b < w.heap.size := (Array.getElem?_eq_some_iff.1 h).1
theorem Blk.cell {w : World} {b : Nat} {t : TypeId} {cs : Array Value} (h : Blk w b t cs) (i : Nat) : w.cell? ⟨b, i, none⟩ = cs[i]? := by
  rw [cell_of_row w b i cs t (0, 0) h]
theorem Blk.frozen {w : World} {b : Nat} {t : TypeId} {cs : Array Value} (h : Blk w b t cs) (i : Nat) : w.frozen? ⟨b, i, none⟩ = false := blk_frozen h i
theorem Blk.set {w : World} {b : Nat} {t : TypeId} {cs : Array Value} (h : Blk w b t cs) (i : Nat) (u : Value) : Blk (w.setCell ⟨b, i, none⟩ u) b t (cs.setIfInBounds i u) := blk_set h i u
theorem Blk.other {w : World} {b : Nat} {t : TypeId} {cs : Array Value} (h : Blk w b t cs) {a : Addr} (ha : b ≠ a.block) (u : Value) : Blk (w.setCell a u) b t cs := by
  unfold Blk
  rw [Below.heap_setCell _ _ _ _ ha]
  exact h
theorem Blk.grown {w w' : World} {b : Nat} {t : TypeId} {cs : Array Value} (h : Blk w b t cs) {row : Option Nat} (hg : w.grownBy w' row) (hr : row ≠ some b) : Blk w' b t cs :=
  (hg.block b h.lt (fun e => hr e.symm)).trans h
theorem Blk.below {w w' : World} {b : Nat} {t : TypeId} {cs : Array Value} (h : Blk w b t cs) (hb : Below w.heap.size w w') : Blk w' b t cs := (hb.block b h.lt).trans h
theorem Blk.alloc {w : World} {b : Nat} {t : TypeId} {cs : Array Value} (h : Blk w b t cs) (o : Obj) : Blk (w.alloc o) b t cs := h.below (below_alloc w o)
theorem own_grow' {w0 wi X w3 : World} {B e : Nat} {v : Value} {n : Nat} {xs : List Value} (hg : X.grownBy w3 v.ownBlock) (hb : Below B w0 wi) (h : wi.ownsRow B e 1 v n xs) (hx : Below wi.heap.size wi X) (hB : B ≤ wi.heap.size) : Below B w0 w3 :=
  own_grow (hb.trans (hx.mono hB)) (own_below h hx) hg (Nat.le_trans hB hx.size)
theorem Blk.grown' {wi X w3 : World} {b : Nat} {t : TypeId} {cs : Array Value} {row : Option Nat} (hg : X.grownBy w3 row) (h : Blk wi b t cs) (hx : Below wi.heap.size wi X) (hr : row ≠ some b) : Blk w3 b t cs := (h.below hx).grown hg hr
theorem Blk.drewN {w : World} {b : Nat} {t : TypeId} {cs : Array Value} (h : Blk w b t cs) (n : Nat) : Blk (w.drewN n) b t cs := h
theorem Blk.new (w : World) (cs : Array Value) (t : TypeId) : Blk (w.alloc (.cells cs t)) w.heap.size t cs := heap_alloc_new w _
theorem own_ne_blk {w : World} {B e : Nat} {v : Value} {n : Nat} {xs : List Value} {b : Nat} {t : TypeId} {cs : Array Value} (h : w.ownsRow B e 1 v n xs) (hb : Blk w b t cs) (he : e ≠ t) : v.ownBlock ≠ some b := by
  rcases h.2 with ⟨h1, _⟩ | ⟨g, cap, cur, h1, _, hg, _⟩
  · subst h1; simp [Value.ownBlock]
  · subst h1
    simp only [Value.ownBlock]
    intro e2
    injection e2 with e2
    subst e2
    have := hb.symm.trans hg
    injection this with this
    injection this with _ h3
    exact he h3.symm
end Go.Proofs.Ytbepadepepoilaa
