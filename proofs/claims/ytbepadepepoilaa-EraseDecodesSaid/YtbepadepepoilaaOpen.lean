/- An argument that reads as data, in this project's own words: lists of bytes, of whole numbers, of bools; rows of bytes. -/
import Derived.Test.YtbepadepepoilaaMem
import Derived.OpenShut
import Derived.ChangeOld
import Derived.SizedLaws
import Derived.Lib.SmallJoins
namespace Go.Proofs.Ytbepadepepoilaa
open Go.ChangeShapes Go.WideShapes Go.ChangeAt Go.RowKit
section
variable {H : Type} {enc : TypeId × Value → H} {P : Program} {w : World}
theorem spot_none {w : World} {x : Addr} {v : Value} (h : w.cell? x = some v) : x = ⟨x.block, x.off, none⟩ := by
  unfold World.cell? at h
  split at h
  · split at h
    · cases h
    · rename_i hs
      obtain ⟨b, o, s⟩ := x
      cases s with
      | none => rfl
      | some s => simp at hs
  · cases h
theorem block_lt' {w : World} {x : Addr} {v : Value} (h : w.cell? x = some v) : x.block < w.heap.size := by
  unfold World.cell? at h
  split at h
  · rename_i hx; exact block_lt hx
  · cases h
theorem addr_add (b o i : Nat) : (⟨b, o, none⟩ : Addr).add i = ⟨b, o + i, none⟩ := by
  unfold Addr.add; split
  · rename_i h; subst h; rfl
  · rfl
/-- rows of cells, out of cells one by one -/
theorem cells_mk {w : World} {x : Addr} {xs : List Value} (h : ∀ i v, xs[i]? = some v → w.cell? (x.add i) = some v) : Cells w (some x) xs := by
  cases xs with
  | nil => exact .inl rfl
  | cons a l =>
    have h0 := h 0 a rfl
    rw [show x.add 0 = x from rfl] at h0
    have hx := spot_none h0
    refine .inr ⟨x.block, x.off, by rw [← hx], block_lt' h0, fun i v hv => ?_⟩
    have := h i v hv
    rw [hx, addr_add] at this; exact this
theorem open_ints' {r : Reach} {b0 base : Nat} {spare : Nat → Bool} {held : Bool} {k : IntKind} {t e : TypeId} {v : Value} {d : DataW H} {p : List MemPlace} (ht : P.underlying t = some (.slice e)) (he : P.underlying e = some (.int k)) (hc : P.cellsOf e = 1)
    (hv : Value.okWide P w r b0 t v) (h : DataW.Trod enc P w base spare held t v d p) :
    ∃ (A : Option Addr) (c : Nat) (zs : List Int), v = .slice A zs.length c ∧ Sl w A c (zs.map (Value.int k)) ∧ ∀ n ∈ zs, (Lit.int k n).wf = true := by
  obtain ⟨a0, len, cap, rfl⟩ := okWide_slice ht hv
  obtain ⟨fuel, hf⟩ := h
  rcases open_ints ht he hc hf with ⟨hcs, _⟩ | ⟨x, l, c, zs, hcs, _, hl, hm, hz, _, hcell, hwz⟩
  · simp [Value.cells] at hcs
    obtain ⟨rfl, rfl, rfl⟩ := hcs
    exact ⟨none, 0, [], rfl, Sl.nil w, fun n hn => by cases hn⟩
  · simp [Value.cells] at hcs
    obtain ⟨rfl, rfl, rfl⟩ := hcs
    have hzl : len ≤ zs.length := by rw [hz]; split <;> omega
    have hlen : (zs.take len).length = len := by rw [List.length_take]; omega
    refine ⟨some x, cap, zs.take len, by rw [hlen], ⟨by simp; omega, hm, cells_mk fun i v hv => ?_⟩, fun n hn => hwz n (List.mem_of_mem_take hn)⟩
    rw [List.getElem?_map, List.getElem?_take] at hv
    split at hv
    · rename_i hi
      have hi2 : i < zs.length := by omega
      rw [List.getElem?_eq_getElem hi2] at hv
      simp at hv
      subst hv
      have := hcell i hi2
      rw [this, List.getD_eq_getElem?_getD, List.getElem?_eq_getElem hi2]; rfl
    · cases hv
theorem f_list {zs : List Int} (h : ∀ n ∈ zs, (Lit.int .u8 n).wf = true) : ∃ l : List F, zs.map (Value.int .u8) = l.map bv ∧ l.length = zs.length := by
  induction zs with
  | nil => exact ⟨[], rfl, rfl⟩
  | cons a zs ih =>
    obtain ⟨l, h1, h2⟩ := ih (fun n hn => h n (by simp [hn]))
    obtain ⟨f, hf⟩ := f_of_wf (h a (by simp))
    exact ⟨f :: l, by simp [h1, hf], by simp [h2]⟩
theorem open_bytes {r : Reach} {b0 base : Nat} {spare : Nat → Bool} {held : Bool} {t e : TypeId} {v : Value} {d : DataW H} {p : List MemPlace} (ht : P.underlying t = some (.slice e)) (he : P.underlying e = some (.int .u8)) (hc : P.cellsOf e = 1)
    (hv : Value.okWide P w r b0 t v) (h : DataW.Trod enc P w base spare held t v d p) :
    ∃ (A : Option Addr) (c : Nat) (l : List F), v = .slice A l.length c ∧ Bs w A c l := by
  obtain ⟨A, c, zs, rfl, hs, hw⟩ := open_ints' ht he hc hv h
  obtain ⟨l, h1, h2⟩ := f_list hw
  exact ⟨A, c, l, by rw [h2], by show Sl w A c (l.map bv); rw [← h1]; exact hs⟩
theorem open_intl {r : Reach} {b0 base : Nat} {spare : Nat → Bool} {held : Bool} {t e : TypeId} {v : Value} {d : DataW H} {p : List MemPlace} (ht : P.underlying t = some (.slice e)) (he : P.underlying e = some (.int .i64)) (hc : P.cellsOf e = 1)
    (hv : Value.okWide P w r b0 t v) (h : DataW.Trod enc P w base spare held t v d p) :
    ∃ (A : Option Addr) (c : Nat) (zs : List Int), v = .slice A zs.length c ∧ Sl w A c (zs.map (Value.int .i64)) ∧ ∀ n ∈ zs, -9223372036854775808 ≤ n ∧ n ≤ 9223372036854775807 := by
  obtain ⟨A, c, zs, hv, hs, hw⟩ := open_ints' ht he hc hv h
  exact ⟨A, c, zs, hv, hs, fun n hn => bd_i64 (hw n hn)⟩
/-- a list of numbers that came in is no longer than what may be handed in -/
theorem sized_len {base : Nat} {spare : Nat → Bool} {held : Bool} {t e : TypeId} {k : IntKind} {A : Option Addr} {n c : Nat} {d : DataW H} {p : List MemPlace} {ts : List TypeId} {ds : List (DataW H)} {j : Nat}
    (hsz : (DataW.weightsEach P ts ds).all (· ≤ reachBytes) = true) (hts : ts[j]? = some t) (hds : ds[j]? = some d) (ht : P.underlying t = some (.slice e)) (he : P.underlying e = some (.int k)) (hc : P.cellsOf e = 1) {B : Nat} (hB : P.bytesOf e = B)
    (h : DataW.Trod enc P w base spare held t (.slice A n c) d p) : n * B ≤ 140737488351232 := by
  obtain ⟨_, hf⟩ := h
  rcases open_ints ht he hc hf with ⟨hcs, _⟩ | ⟨x, l, c', zs, hcs, _, hl, _, hz, hd, _, _⟩
  · simp [Value.cells] at hcs
    rw [hcs.2.1, Nat.zero_mul]; exact Nat.zero_le _
  · simp [Value.cells] at hcs
    obtain ⟨rfl, rfl, rfl⟩ := hcs
    have hd1 := (Prod.mk.inj hd).1
    subst hd1
    have hb := sized_slice hsz hts hds ht
    rw [hB] at hb
    refine Nat.le_trans (Nat.mul_le_mul_right B ?_) hb
    simp only [lits, List.length_map, List.length_take, List.length_drop]
    split at hz <;> omega
theorem open_bytes_raw {base n : Nat} {spare : Nat → Bool} {held : Bool} {t e : TypeId} {v : Value} {y : DataW H × List MemPlace} (ht : P.underlying t = some (.slice e)) (he : P.underlying e = some (.int .u8)) (hc : P.cellsOf e = 1)
    (h : DataW.trod enc P w base spare held n t [v] = some y) : ∃ (A : Option Addr) (c : Nat) (l : List F), v = .slice A l.length c ∧ Bs w A c l := by
  rcases open_ints ht he hc h with ⟨hcs, _⟩ | ⟨x, len, c, zs, hcs, _, hl, hm, hz, _, hcell, hwz⟩
  · simp at hcs
    subst hcs
    exact ⟨none, 0, [], rfl, Bs.nil w⟩
  · simp at hcs
    subst hcs
    have hzl : len ≤ zs.length := by rw [hz]; split <;> omega
    have hlen : (zs.take len).length = len := by rw [List.length_take]; omega
    obtain ⟨l, h1, h2⟩ := f_list (zs := zs.take len) fun n hn => hwz n (List.mem_of_mem_take hn)
    refine ⟨some x, c, l, by rw [h2, hlen], ?_⟩
    show Sl w (some x) c (l.map bv)
    rw [← h1]
    refine ⟨by simp; omega, hm, cells_mk fun i v hv => ?_⟩
    rw [List.getElem?_map, List.getElem?_take] at hv
    split at hv
    · rename_i hi
      have hi2 : i < zs.length := by omega
      rw [List.getElem?_eq_getElem hi2] at hv
      simp at hv
      subst hv
      have := hcell i hi2
      rw [this, List.getD_eq_getElem?_getD, List.getElem?_eq_getElem hi2]; rfl
    · cases hv
/-- a matrix that came in -/
theorem open_matrix {r : Reach} {b0 base : Nat} {spare : Nat → Bool} {held : Bool} {t e : TypeId} {f0 f1 f2 : Field} {v : Value} {d : DataW H} {p : List MemPlace} (hs : P.underlying t = some (.struct #[f0, f1, f2])) (hone : Deep.oneCellFields P #[f0, f1, f2] = true) (hC : P.cellsOf t = 3)
    (u0 : P.underlying f0.type = some (.int .i64)) (u1 : P.underlying f1.type = some (.int .i64)) (u2 : P.underlying f2.type = some (.slice e)) (ue : P.underlying e = some (.int .u8)) (ce : P.cellsOf e = 1)
    (hv : Value.okWide P w r b0 t v) (h : DataW.Trod enc P w base spare held t v d p) :
    ∃ (R C : Int) (A : Option Addr) (c : Nat) (l : List F), v = .agg #[.int .i64 R, .int .i64 C, .slice A l.length c] ∧ (-9223372036854775808 ≤ R ∧ R ≤ 9223372036854775807) ∧ (-9223372036854775808 ≤ C ∧ C ≤ 9223372036854775807) ∧ Bs w A c l := by
  obtain ⟨c0, c1, c2, y0, y1, y2, m, rfl, rfl, rfl, h0, h1, h2⟩ := Joins.open_agg3 hs hone hC hv h
  obtain ⟨R, e0, _, w0⟩ := DataW.trod_int u0 h0
  obtain ⟨C, e1, _, w1⟩ := DataW.trod_int u1 h1
  simp at e0 e1
  subst e0 e1
  obtain ⟨A, c, l, rfl, hb⟩ := open_bytes_raw u2 ue ce h2
  exact ⟨R, C, A, c, l, rfl, bd_i64 w0, bd_i64 w1, hb⟩
end
end Go.Proofs.Ytbepadepepoilaa
