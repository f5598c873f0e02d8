/- Words on memory: a slice that reads as a list of cells; a row of the call's own; what stays where new blocks are made. -/
import Derived.Test.YtbepadepepoilaaRef01
import Derived.OwnWalk
import Derived.Laws.OwnMore
import Derived.ProofKit
import Derived.Deep.Slices
import Derived.ArgAppend
namespace Go.Proofs.Ytbepadepepoilaa
open Go.RowKit

abbrev bv (x : F) : Value := .int .u8 (x.n : Int)
theorem bv_inj {x y : F} (h : bv x = bv y) : x = y := by
  have h1 : (x.n : Int) = (y.n : Int) := by injection h
  exact F.ext (by exact_mod_cast h1)

/-- cells that lie one behind the other -/
def Cells (w : World) (A : Option Addr) (xs : List Value) : Prop :=
  xs = [] ∨ ∃ b o, A = some ⟨b, o, none⟩ ∧ b < w.heap.size ∧ ∀ i v, xs[i]? = some v → w.cell? ⟨b, o + i, none⟩ = some v
/-- a slice that reads as these cells -/
structure Sl (w : World) (A : Option Addr) (c : Nat) (xs : List Value) : Prop where
  le : xs.length ≤ c
  mx : c ≤ maxLen
  cells : Cells w A xs
/-- .. as these bytes -/
abbrev Bs (w : World) (A : Option Addr) (c : Nat) (l : List F) : Prop := Sl w A c (l.map bv)
theorem Cells.below {w w' : World} {A : Option Addr} {xs : List Value} (h : Cells w A xs) (hb : Below w.heap.size w w') : Cells w' A xs := by
  rcases h with h | ⟨b, o, hA, hl, hc⟩
  · exact .inl h
  · exact .inr ⟨b, o, hA, Nat.lt_of_lt_of_le hl hb.size, fun i v hv => (hb.cell (p := ⟨b, o + i, none⟩) hl).trans (hc i v hv)⟩
theorem Sl.below {w w' : World} {A : Option Addr} {c : Nat} {xs : List Value} (h : Sl w A c xs) (hb : Below w.heap.size w w') : Sl w' A c xs := ⟨h.le, h.mx, h.cells.below hb⟩
theorem Sl.nil (w : World) : Sl w none 0 [] := ⟨Nat.le_refl _, Nat.zero_le _, .inl rfl⟩
theorem Bs.nil (w : World) : Bs w none 0 [] := Sl.nil w
theorem Bs.len {w : World} {A : Option Addr} {c : Nat} {l : List F} (h : Bs w A c l) : l.length ≤ c := by simpa using h.le
/-- where there is an element -/
theorem Sl.at' {w : World} {A : Option Addr} {c : Nat} {xs : List Value} (h : Sl w A c xs) (hn : 0 < xs.length) :
    ∃ b o, A = some ⟨b, o, none⟩ ∧ b < w.heap.size ∧ ∀ i v, xs[i]? = some v → w.cell? ⟨b, o + i, none⟩ = some v := by
  rcases h.cells with h0 | h0
  · rw [h0] at hn; exact absurd hn (Nat.not_lt_zero _)
  · exact h0
theorem Bs.at' {w : World} {A : Option Addr} {c : Nat} {l : List F} (h : Bs w A c l) (hn : 0 < l.length) :
    ∃ b o, A = some ⟨b, o, none⟩ ∧ b < w.heap.size ∧ ∀ i, i < l.length → w.cell? ⟨b, o + i, none⟩ = some (.int .u8 ((l.getD i 0).n : Int)) := by
  obtain ⟨b, o, hA, hb, hc⟩ := Sl.at' h (by simpa using hn)
  refine ⟨b, o, hA, hb, fun i hi => hc i _ ?_⟩
  rw [List.getElem?_map, List.getElem?_eq_getElem hi, List.getD_eq_getElem?_getD, List.getElem?_eq_getElem hi]; rfl
/-- rows of bytes: the cells of a slice of slices -/
def Bss (w : World) (vs : List Value) (ls : List (List F)) : Prop :=
  vs.length = ls.length ∧ ∀ (i : Nat) (l : List F), ls[i]? = some l → ∃ A c, vs[i]? = some (Value.slice A l.length c) ∧ Bs w A c l
theorem Bss.below {w w' : World} {vs : List Value} {ls : List (List F)} (h : Bss w vs ls) (hb : Below w.heap.size w w') : Bss w' vs ls :=
  ⟨h.1, fun i l hl => by obtain ⟨A, c, h1, h2⟩ := h.2 i l hl; exact ⟨A, c, h1, h2.below hb⟩⟩

/-- a row of the call's own (from block B on): elements of type e, each one cell -/
abbrev Own (w : World) (B : Nat) (e : TypeId) (A : Option Addr) (c : Nat) (xs : List Value) : Prop := w.ownsRow B e 1 (.slice A xs.length c) xs.length xs
theorem own_form {w : World} {B e : Nat} {v : Value} {n : Nat} {xs : List Value} (h : w.ownsRow B e 1 v n xs) : ∃ A c, v = .slice A n c := by
  rcases h.2 with ⟨h1, h2⟩ | ⟨g, cap, cur, h1, _⟩
  · exact ⟨none, 0, by rw [h1, h2]⟩
  · exact ⟨_, _, h1⟩
theorem own_len {w : World} {B e : Nat} {v : Value} {n : Nat} {xs : List Value} (h : w.ownsRow B e 1 v n xs) : xs.length = n := by have := h.1; omega
theorem own_sl {w : World} {B e : Nat} {A : Option Addr} {n c : Nat} {xs : List Value} (h : w.ownsRow B e 1 (.slice A n c) n xs) : Sl w A c xs := by
  have hl := own_len h
  rcases h.2 with ⟨h1, h2⟩ | ⟨g, cap, cur, h1, hB, hg, hnc, hcm, hcs, ht⟩
  · injection h1 with e1 e2 e3
    subst e1 e3
    have : xs = [] := List.eq_nil_of_length_eq_zero (by omega)
    subst this
    exact Sl.nil w
  · injection h1 with e1 e2 e3
    subst e1 e3
    refine ⟨by omega, hcm, .inr ⟨g, 0, rfl, block_lt hg, fun i v hv => ?_⟩⟩
    have hi : i < xs.length := by
      rcases Nat.lt_or_ge i xs.length with h' | h'
      · exact h'
      · rw [List.getElem?_eq_none h'] at hv; cases hv
    rw [← ht, List.getElem?_take, if_pos (by omega)] at hv
    rw [Nat.zero_add, cells_of hg, ← hv]
    simp
theorem own_addr {w : World} {B e : Nat} {A : Option Addr} {n c : Nat} {xs : List Value} (h : w.ownsRow B e 1 (.slice A n c) n xs) (hn : 0 < n) : ∃ g, A = some ⟨g, 0, none⟩ ∧ B ≤ g ∧ g < w.heap.size := by
  rcases h.2 with ⟨h1, h2⟩ | ⟨g, cap, cur, h1, hB, hg, hnc, hcm, hcs, ht⟩
  · omega
  · injection h1 with e1 e2 e3
    exact ⟨g, e1, hB, block_lt hg⟩
/-- what is behind an append to a row of the call's own -/
theorem own_grow {w0 w w1 : World} {B e : Nat} {v : Value} {n : Nat} {xs : List Value} (hb : Below B w0 w) (h : w.ownsRow B e 1 v n xs) (hg : w.grownBy w1 v.ownBlock) (hB : B ≤ w.heap.size) : Below B w0 w1 :=
  hb.grown hg hB fun k hk => (h.lt k hk).1
theorem own_drewN {w : World} {B e : Nat} {v : Value} {n : Nat} {xs : List Value} (h : w.ownsRow B e 1 v n xs) (k : Nat) : (w.drewN k).ownsRow B e 1 v n xs := h
/-- a row of the call's own behind a call that has left all blocks alone -/
theorem own_below {w w' : World} {B e : Nat} {v : Value} {n : Nat} {xs : List Value} (h : w.ownsRow B e 1 v n xs) (hb : Below w.heap.size w w') : w'.ownsRow B e 1 v n xs := by
  obtain ⟨h1, h2⟩ := h
  refine ⟨h1, ?_⟩
  rcases h2 with h2 | ⟨g, cap, cur, e1, hB, hg, r⟩
  · exact .inl h2
  · exact .inr ⟨g, cap, cur, e1, hB, (hb.block g (block_lt hg)).trans hg, r⟩
theorem own_mono {w : World} {B B' e : Nat} {v : Value} {n : Nat} {xs : List Value} (h : w.ownsRow B e 1 v n xs) (hB : B' ≤ B) : w.ownsRow B' e 1 v n xs := by
  obtain ⟨h1, h2⟩ := h
  refine ⟨h1, ?_⟩
  rcases h2 with h2 | ⟨g, cap, cur, e1, hg, r⟩
  · exact .inl h2
  · exact .inr ⟨g, cap, cur, e1, Nat.le_trans hB hg, r⟩
theorem below_alloc (w : World) (o : Obj) : Below w.heap.size w (w.alloc o) := (Below.refl _ _).alloc (Nat.le_refl _) o
theorem GfAt.alloc {w : World} {b : Nat} (h : GfAt w b) (o : Obj) : GfAt (w.alloc o) b := h.below (below_alloc w o)
theorem Sl.alloc {w : World} {A : Option Addr} {c : Nat} {xs : List Value} (h : Sl w A c xs) (o : Obj) : Sl (w.alloc o) A c xs := h.below (below_alloc w o)
theorem Sl.drewN {w : World} {A : Option Addr} {c : Nat} {xs : List Value} (h : Sl w A c xs) (n : Nat) : Sl (w.drewN n) A c xs := h.below (below_drew0 w n)
theorem Bss.alloc {w : World} {vs : List Value} {ls : List (List F)} (h : Bss w vs ls) (o : Obj) : Bss (w.alloc o) vs ls := h.below (below_alloc w o)
/-- the element type's row of the table -/
theorem info_byte : (Try.prog.info? 5).map (fun i => (i.zero, i.size, i.bytes)) = some (some (.int .u8 0), 1, 1) := by kernel_rfl
theorem info_row : (Try.prog.info? 22).map (fun i => (i.zero, i.size, i.bytes)) = some (some (.slice none 0 0), 1, 24) := by kernel_rfl
theorem info_int : (Try.prog.info? 3).map (fun i => (i.zero, i.size, i.bytes)) = some (some (.int .i64 0), 1, 8) := by kernel_rfl
theorem bytes_oneCell (l : List F) : ∀ u ∈ l.map bv, u.oneCell' = true := by
  intro u hu
  obtain ⟨x, _, rfl⟩ := List.mem_map.1 hu
  rfl
theorem getD_set_eq (l : List F) (i : Nat) (x : F) (h : i < l.length) : (l.set i x).getD i 0 = x := by
  rw [List.getD_eq_getElem?_getD, List.getElem?_set_self h]; rfl
theorem getD_set_ne (l : List F) (i j : Nat) (x : F) (h : i ≠ j) : (l.set i x).getD j 0 = l.getD j 0 := by
  rw [List.getD_eq_getElem?_getD, List.getElem?_set_ne h, List.getD_eq_getElem?_getD]
theorem map_set (l : List F) (i : Nat) (x : F) : (l.map bv).set i (bv x) = (l.set i x).map bv := by rw [List.map_set]
theorem getElem?_bv {l : List F} {i : Nat} (h : i < l.length) : (l.map bv)[i]? = some (.int .u8 ((l.getD i 0).n : Int)) := by
  rw [List.getElem?_map, List.getElem?_eq_getElem h, List.getD_eq_getElem?_getD, List.getElem?_eq_getElem h]; rfl
theorem ext_getD {l m : List F} (hl : l.length = m.length) (h : ∀ i, i < l.length → l.getD i 0 = m.getD i 0) : l = m := by
  refine List.ext_getElem hl fun i h1 h2 => ?_
  have := h i h1
  rwa [List.getD_eq_getElem?_getD, List.getD_eq_getElem?_getD, List.getElem?_eq_getElem h1, List.getElem?_eq_getElem h2] at this
/-- a list by its places -/
def tab (n : Nat) (f : Nat → F) : List F := (List.range n).map f
theorem length_tab (n : Nat) (f : Nat → F) : (tab n f).length = n := by simp [tab]
theorem getD_tab {n : Nat} (f : Nat → F) {i : Nat} (h : i < n) : (tab n f).getD i 0 = f i := by
  rw [tab, List.getD_eq_getElem?_getD, List.getElem?_map, List.getElem?_range h]; rfl
theorem tab_congr {n : Nat} {f g : Nat → F} (h : ∀ i, i < n → f i = g i) : tab n f = tab n g := by
  refine ext_getD (by rw [length_tab, length_tab]) fun i hi => ?_
  rw [length_tab] at hi
  rw [getD_tab _ hi, getD_tab _ hi, h i hi]
theorem tab_getD (l : List F) : tab l.length (fun i => l.getD i 0) = l := by
  refine ext_getD (length_tab _ _) fun i hi => ?_
  rw [length_tab] at hi
  rw [getD_tab _ hi]
theorem set_tab {n : Nat} (f : Nat → F) (i : Nat) (x : F) : (tab n f).set i x = tab n (fun j => if j = i then x else f j) := by
  refine ext_getD (by rw [List.length_set, length_tab, length_tab]) fun j hj => ?_
  rw [List.length_set, length_tab] at hj
  rw [getD_tab _ hj]
  by_cases h : i = j
  · subst h; rw [getD_set_eq _ _ _ (by rw [length_tab]; exact hj), if_pos rfl]
  · rw [getD_set_ne _ _ _ _ h, getD_tab _ hj, if_neg (fun e => h e.symm)]
theorem tab_zero_map (n : Nat) : (tab n fun _ => 0).map bv = List.replicate n (.int .u8 0) := by
  unfold tab
  rw [List.map_map, List.eq_replicate_iff]
  exact ⟨by simp, fun x hx => by obtain ⟨_, _, rfl⟩ := List.mem_map.1 hx; rfl⟩
theorem xor_zero_n (x : F) : bits .xor .u8 0 (x.n : Int) = (x.n : Int) := by
  have := xor_n 0 x
  rwa [F.zero_add] at this
theorem cell_one_new' (w : World) (v : Value) (t : TypeId) : ∀ (j : Nat) (u : Value), [v][j]? = some u → (w.alloc (.cells #[v] t)).cell? ((⟨w.heap.size, 0, none⟩ : Addr).add j) = some u := by
  intro j u h
  cases j with
  | zero => simp at h; subst h; simp [Addr.add]
  | succ j => simp at h
theorem own_take {w : World} {B e : Nat} {A : Option Addr} {n c : Nat} {xs : List Value} (h : w.ownsRow B e 1 (.slice A n c) n xs) (k : Nat) (hk : k ≤ n) : w.ownsRow B e 1 (.slice A k c) k (xs.take k) := by
  have hl := own_len h
  refine ⟨by simp; omega, ?_⟩
  rcases h.2 with ⟨h1, h2⟩ | ⟨g, cap, cur, h1, hB, hg, hnc, hcm, hcs, ht⟩
  · injection h1 with e1 e2 e3
    subst e1 e3
    have : k = 0 := by omega
    subst this
    exact .inl ⟨rfl, rfl⟩
  · injection h1 with e1 e2 e3
    subst e1 e3
    refine .inr ⟨g, c, cur, rfl, hB, hg, by omega, hcm, hcs, ?_⟩
    rw [← ht, List.take_take]; congr 1; omega
/-- a call has made a list of bytes: in memory of its own, nothing that was there has turned -/
structure Made (w w' : World) (A : Option Addr) (c : Nat) (l : List F) : Prop where
  own : w'.ownsRow w.heap.size 5 1 (.slice A l.length c) l.length (l.map bv)
  bel : Below w.heap.size w w'
theorem Made.bs {w w' : World} {A : Option Addr} {c : Nat} {l : List F} (h : Made w w' A c l) : Bs w' A c l := own_sl h.own
theorem Made.back {w w0 w' : World} {A : Option Addr} {c : Nat} {l : List F} (h : Made w0 w' A c l) (hb : Below w.heap.size w w0) : Made w w' A c l :=
  ⟨own_mono h.own hb.size, hb.trans (h.bel.mono hb.size)⟩
/-- rows of bytes, all of the call's own -/
def OwnSS (w : World) (B : Nat) (vs : List Value) (ls : List (List F)) : Prop :=
  vs.length = ls.length ∧ ∀ (i : Nat) (l : List F), ls[i]? = some l → ∃ A c, vs[i]? = some (Value.slice A l.length c) ∧ w.ownsRow B 5 1 (.slice A l.length c) l.length (l.map bv)
theorem OwnSS.bss {w : World} {B : Nat} {vs : List Value} {ls : List (List F)} (h : OwnSS w B vs ls) : Bss w vs ls :=
  ⟨h.1, fun i l hl => by obtain ⟨A, c, h1, h2⟩ := h.2 i l hl; exact ⟨A, c, h1, own_sl h2⟩⟩
theorem OwnSS.below {w w' : World} {B : Nat} {vs : List Value} {ls : List (List F)} (h : OwnSS w B vs ls) (hb : Below w.heap.size w w') : OwnSS w' B vs ls :=
  ⟨h.1, fun i l hl => by obtain ⟨A, c, h1, h2⟩ := h.2 i l hl; exact ⟨A, c, h1, own_below h2 hb⟩⟩
/-- rows of unlike elements lie in unlike blocks -/
theorem own_ne {w : World} {B B' e e' : Nat} {v u : Value} {n m : Nat} {xs ys : List Value} (h : w.ownsRow B e 1 v n xs) (h' : w.ownsRow B' e' 1 u m ys) (he : e ≠ e') : v.ownBlock = none ∨ v.ownBlock ≠ u.ownBlock := by
  rcases h.2 with ⟨h1, h2⟩ | ⟨g, cap, cur, h1, hB, hg, _⟩
  · subst h1; exact .inl rfl
  · subst h1
    refine .inr ?_
    rcases h'.2 with ⟨k1, k2⟩ | ⟨g', cap', cur', k1, kB, kg, _⟩
    · subst k1; simp [Value.ownBlock]
    · subst k1
      simp only [Value.ownBlock, ne_eq, Option.some.injEq]
      rintro rfl
      rw [hg] at kg
      injection kg with kg
      injection kg with _ k2 _
      exact he k2
theorem OwnSS.grown {w w' : World} {B B' e m : Nat} {u : Value} {ys : List Value} {vs : List Value} {ls : List (List F)} (h : OwnSS w B vs ls) (hu : w.ownsRow B' e 1 u m ys) (he : (5 : Nat) ≠ e) (hg : w.grownBy w' u.ownBlock) : OwnSS w' B vs ls :=
  ⟨h.1, fun i l hl => by obtain ⟨A, c, h1, h2⟩ := h.2 i l hl; exact ⟨A, c, h1, h2.kept hg (own_ne h2 hu he)⟩⟩
theorem OwnSS.snoc {w : World} {B : Nat} {vs : List Value} {ls : List (List F)} (h : OwnSS w B vs ls) {A : Option Addr} {c : Nat} {l : List F} (hl : w.ownsRow B 5 1 (.slice A l.length c) l.length (l.map bv)) : OwnSS w B (vs ++ [.slice A l.length c]) (ls ++ [l]) := by
  refine ⟨by simp [h.1], fun i m hm => ?_⟩
  rcases Nat.lt_or_ge i ls.length with h1 | h1
  · rw [List.getElem?_append_left h1] at hm
    obtain ⟨A', c', h2, h3⟩ := h.2 i m hm
    exact ⟨A', c', by rw [List.getElem?_append_left (by rw [h.1]; exact h1)]; exact h2, h3⟩
  · rw [List.getElem?_append_right h1] at hm
    cases hi : i - ls.length with
    | zero =>
      rw [hi] at hm; simp at hm; subst hm
      exact ⟨A, c, by rw [List.getElem?_append_right (by rw [h.1]; exact h1), h.1, hi]; rfl, hl⟩
    | succ k => rw [hi] at hm; simp at hm
/-- nothing that was there in w has turned -/
def Since (w w' : World) : Prop := Below w.heap.size w w'
theorem Since.refl (w : World) : Since w w := Below.refl _ _
theorem Since.below {w w1 w2 : World} (h : Since w w1) (hb : Below w1.heap.size w1 w2) : Since w w2 := Below.trans h (hb.mono h.size)
theorem Since.alloc {w w1 : World} (h : Since w w1) (o : Obj) : Since w (w1.alloc o) := h.below (below_alloc _ _)
theorem Since.drewN {w w1 : World} (h : Since w w1) (n : Nat) : Since w (w1.drewN n) := h.below (below_drew0 _ _)
/-- a literal that has just been made -/
theorem lit_bs {w : World} {l : List F} {n c : Nat} {cs : Array Value} (hn : n = w.heap.size) (hcs : cs.toList = l.map bv) (hc : c = l.length) (hm : c ≤ 1000) : Bs (w.alloc (.cells cs 5)) (some ⟨n, 0, none⟩) c l := by
  subst hn
  subst hc
  exact ⟨by simp, by unfold maxLen; omega, .inr ⟨w.heap.size, 0, rfl, by simp, fun i v hv => by
    rw [Nat.zero_add, World.cell?_alloc_new]
    rw [← hcs] at hv; simpa using hv⟩⟩
end Go.Proofs.Ytbepadepepoilaa
