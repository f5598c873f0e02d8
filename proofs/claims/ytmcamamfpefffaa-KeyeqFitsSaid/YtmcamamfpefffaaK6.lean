/- slices.Reverse, and the closure of keyeq.Solve (one of Euclid's steps), walked. -/
import Derived.Test.YtmcamamfpefffaaK5
namespace Go.Proofs.Ytmcamamfpefffaa
open Go.RowKit
set_option linter.unusedVariables false
set_option linter.unusedSimpArgs false
/-- a list, of which the first i and the last i numbers are exchanged -/
def revT (l : List F) (i : Nat) : List F := tab l.length fun x => if x < i ∨ l.length < x + i + 1 then l.getD (l.length - 1 - x) 0 else l.getD x 0
theorem length_revT (l : List F) (i : Nat) : (revT l i).length = l.length := length_tab _ _
theorem revT_zero (l : List F) : revT l 0 = l := by
  refine ext_getD (length_revT _ _) fun x hx => ?_
  rw [length_revT] at hx
  rw [revT, getD_tab _ hx, if_neg (by omega)]
theorem revT_all (l : List F) (i : Nat) (h : l.length ≤ 2 * i + 1) : revT l i = l.reverse := by
  refine ext_getD (by rw [length_revT, List.length_reverse]) fun x hx => ?_
  rw [length_revT] at hx
  rw [revT, getD_tab _ hx, List.getD_eq_getElem?_getD (l := l.reverse), List.getElem?_reverse hx, ← List.getD_eq_getElem?_getD]
  by_cases e : x < i ∨ l.length < x + i + 1
  · rw [if_pos e]
  · rw [if_neg e]
    congr 1; omega
theorem revT_at (l : List F) {i x : Nat} (h1 : i ≤ x) (h2 : x + i + 1 ≤ l.length) : (revT l i).getD x 0 = l.getD x 0 := by
  rw [revT, getD_tab _ (by omega), if_neg (by omega)]
theorem revT_set (l : List F) {i j : Nat} (hij : i < j) (h : i + j + 1 = l.length) : ((revT l i).set i (l.getD j 0)).set j (l.getD i 0) = revT l (i + 1) := by
  unfold revT
  rw [set_tab, set_tab]
  refine tab_congr fun x hx => ?_
  by_cases e : x = j
  · subst e
    rw [if_pos rfl, if_pos (by omega)]
    congr 1; omega
  · rw [if_neg e]
    by_cases e2 : x = i
    · subst e2
      rw [if_pos rfl, if_pos (by omega)]
      congr 1; omega
    · rw [if_neg e2]
      by_cases e3 : x < i ∨ l.length < x + i + 1
      · rw [if_pos e3, if_pos (by omega)]
      · rw [if_neg e3, if_neg (by omega)]
theorem set_comm' (l : List F) (i j : Nat) (x y : F) (h : i ≠ j) : (l.set i x).set j y = (l.set j y).set i x := List.set_comm x y h
set_option maxRecDepth 1000000 in
set_option maxHeartbeats 1000000 in
theorem reverse_bytes (B : Nat) (A : Option Addr) (n c : Nat) (l : List F) (w : World) (ho : w.ownsRow B 5 1 (.slice A n c) n (l.map bv)) (hn : l.length = n) (hm : n ≤ 100000) :
    Calls Try.prog 27 #[.slice A n c] w fun e w' => e = .returned (.tuple #[]) ∧ w'.ownsRow B 5 1 (.slice A n c) n (l.reverse.map bv) ∧ Below B w w' := by
  have HO := Lib.hid ho
  have HN := Lib.hid hn
  clear ho hn
  go_enter Try.func27, Try.ntmps27
  go_wp2
  go_loopw [2, 3] (fun x y wr => ∃ i : Nat, 2 * i ≤ n + 1 ∧ x = .int .i64 i ∧ y = .int .i64 ((n : Int) - 1 - (i : Int)) ∧ wr.ownsRow B 5 1 (.slice A n c) n ((revT l i).map bv) ∧ Below B w wr) (fun x _ _ => n + 1 - (intOf x).toNat)
  case atStart => exact ⟨0, by omega, rfl, by go_num, by rw [revT_zero]; exact HO.out, Below.refl _ _⟩
  case round =>
    clear HO
    obtain ⟨i, hi, rfl, rfl, hown, hbel⟩ := hrel
    have HO := Lib.hid hown
    have HB := Lib.hid hbel
    clear hown hbel
    by_cases hlt : 2 * i + 1 < n
    · obtain ⟨j, hj⟩ : ∃ j, j = n - 1 - i := ⟨_, rfl⟩
      have hjj : (n : Int) - 1 - (i : Int) = (j : Int) := by omega
      have hij : i < j := by omega
      have hjn : i + j + 1 = n := by omega
      rw [hjj]
      have HJ := Lib.hid hjj
      clear hjj hj
      obtain ⟨g, hgA, hgB, _⟩ := own_addr HO.out (by omega)
      subst hgA
      have y1 := HO.out.cellAt i (by omega)
      have y2 := HO.out.cellAt j (by omega)
      rw [getElem?_bv (by rw [length_revT, HN.out]; omega), revT_at l (Nat.le_refl i) (by rw [HN.out]; omega)] at y1
      rw [getElem?_bv (by rw [length_revT, HN.out]; omega), revT_at l (by omega) (by rw [HN.out]; omega)] at y2
      have z1 := HO.out.frozenAt i
      have z2 := HO.out.frozenAt j
      have FIN : Hid (((wr.setCell ⟨g, i, none⟩ (bv (l.getD j 0))).setCell ⟨g, j, none⟩ (bv (l.getD i 0))).ownsRow B 5 1 (.slice (some ⟨g, 0, none⟩) n c) n ((revT l (i + 1)).map bv) ∧ ((wr.setCell ⟨g, j, none⟩ (bv (l.getD i 0))).setCell ⟨g, i, none⟩ (bv (l.getD j 0))).ownsRow B 5 1 (.slice (some ⟨g, 0, none⟩) n c) n ((revT l (i + 1)).map bv)) := by
        have h1 := ((HO.out.stored i (bv (l.getD j 0))).1.stored j (bv (l.getD i 0))).1
        have h2 := ((HO.out.stored j (bv (l.getD i 0))).1.stored i (bv (l.getD j 0))).1
        rw [map_set, map_set, revT_set l hij (by rw [HN.out]; exact hjn)] at h1
        rw [map_set, map_set, ← set_comm' _ i j _ _ (by omega), revT_set l hij (by rw [HN.out]; exact hjn)] at h2
        exact ⟨h1, h2⟩
      have hiT : (i : Int) < (j : Int) := by omega
      have hin : (i : Int) < (n : Int) := by omega
      have hjnT : (j : Int) < (n : Int) := by omega
      have hnij : i ≠ j := by omega
      have hnji : j ≠ i := by omega
      generalize l.getD i 0 = a at *
      generalize l.getD j 0 = b at *
      go_wp2
      go_region
      all_goals
        go_wp2
        go_roundw
        case rel => exact ⟨i + 1, by omega, by go_num, by have := HJ.out; go_num, by first | exact FIN.out.1 | exact FIN.out.2, ((below_drewN HB.out _).setCell hgB _).setCell hgB _⟩
        case measure => simp [intOf]; omega
    · have hd : ¬ (i : Int) < (n : Int) - 1 - (i : Int) := by omega
      go_wp2
      go_end0
      have hfin := HO.out
      rw [revT_all l i (by rw [HN.out]; omega)] at hfin
      exact ⟨rfl, by simpa using hfin, HB.out⟩
/-- what the closure reads and writes: the field, and four polynomials, each in a block of its own -/
structure Ke (wb w : World) (fb q0 q1 q2 q3 q4 : Nat) (lo hi bb aa : Row) : Prop where
  gf : GfAt w fb
  k0 : Blk w q0 24 #[fp fb]
  k1 : Blk w q1 23 #[rowV lo]
  k2 : Blk w q2 23 #[rowV hi]
  k3 : Blk w q3 23 #[rowV bb]
  k4 : Blk w q4 23 #[rowV aa]
  s1 : Bs w lo.1 lo.2.1 lo.2.2
  s2 : Bs w hi.1 hi.2.1 hi.2.2
  s3 : Bs w bb.1 bb.2.1 bb.2.2
  s4 : Bs w aa.1 aa.2.1 aa.2.2
  bel : Below wb.heap.size wb w
  ge : wb.heap.size ≤ q1 ∧ wb.heap.size ≤ q2 ∧ wb.heap.size ≤ q3 ∧ wb.heap.size ≤ q4
  ne : (q1 ≠ q2 ∧ q1 ≠ q3 ∧ q1 ≠ q4) ∧ (q2 ≠ q3 ∧ q2 ≠ q4) ∧ q3 ≠ q4
section
variable {wb w w' : World} {fb q0 q1 q2 q3 q4 : Nat} {lo hi bb aa : Row}
theorem Ke.below (h : Ke wb w fb q0 q1 q2 q3 q4 lo hi bb aa) (hb : Below w.heap.size w w') : Ke wb w' fb q0 q1 q2 q3 q4 lo hi bb aa :=
  ⟨h.gf.below hb, h.k0.below hb, h.k1.below hb, h.k2.below hb, h.k3.below hb, h.k4.below hb, Sl.below h.s1 hb, Sl.below h.s2 hb, Sl.below h.s3 hb, Sl.below h.s4 hb, h.bel.trans (hb.mono h.bel.size), h.ge, h.ne⟩
theorem Ke.alloc (h : Ke wb w fb q0 q1 q2 q3 q4 lo hi bb aa) (o : Obj) : Ke wb (w.alloc o) fb q0 q1 q2 q3 q4 lo hi bb aa := h.below (below_alloc w o)
theorem Ke.drewN (h : Ke wb w fb q0 q1 q2 q3 q4 lo hi bb aa) (n : Nat) : Ke wb (w.drewN n) fb q0 q1 q2 q3 q4 lo hi bb aa := h.below (below_drew0 w n)
/-- a slice of bytes stays where a cell that holds a slice is written -/
theorem Bs.apart {w : World} {A : Option Addr} {c : Nat} {l : List F} (h : Bs w A c l) {q : Nat} {t : TypeId} {r : Row} (hk : Blk w q t #[rowV r]) (u : Value) : Bs (w.setCell ⟨q, 0, none⟩ u) A c l := by
  by_cases h0 : l = []
  · subst h0
    exact ⟨h.le, h.mx, .inl rfl⟩
  · refine Sl.beside h ((Beside.refl q w).setCell 0 u) fun b o hA e => ?_
    subst e
    obtain ⟨b', o', hA', _, hc⟩ := Bs.at' h (List.length_pos_iff.2 h0)
    rw [hA] at hA'
    injection hA' with hA'
    injection hA' with e1 e2
    subst e1
    have h1 := hc 0 (List.length_pos_iff.2 h0)
    rw [hk.cell] at h1
    rcases Nat.eq_zero_or_pos (o' + 0) with e | e
    · rw [e] at h1
      simp [rowV] at h1
    · rw [Array.getElem?_eq_none (by simp; omega)] at h1
      cases h1
theorem GfAt.apart {w : World} {fb : Nat} (h : GfAt w fb) {q : Nat} {t : TypeId} {r : Row} (hk : Blk w q t #[rowV r]) (u : Value) : GfAt (w.setCell ⟨q, 0, none⟩ u) fb := by
  refine h.beside ((Beside.refl q w).setCell 0 u) fun e => ?_
  subst e
  have h1 := h.e 0 (by omega)
  rw [hk.cell] at h1
  simp [rowV] at h1
theorem Blk.apart {w : World} {b q : Nat} {t : TypeId} {cs : Array Value} (h : Blk w b t cs) (hne : b ≠ q) (u : Value) : Blk (w.setCell ⟨q, 0, none⟩ u) b t cs := h.other hne u
theorem Ke.zero (h : Ke wb w fb q0 q1 q2 q3 q4 lo hi bb aa) : q0 ≠ q1 ∧ q0 ≠ q2 ∧ q0 ≠ q3 ∧ q0 ≠ q4 := by
  have key : ∀ {q : Nat} {r : Row}, Blk w q 23 #[rowV r] → q0 ≠ q := fun {q r} hk e => by
    subst e
    have := h.k0.symm.trans hk
    injection this with this
    injection this with _ h2 _
    exact absurd h2 (by decide)
  exact ⟨key h.k1, key h.k2, key h.k3, key h.k4⟩
theorem Blk.put0 {w : World} {b : Nat} {t : TypeId} {v : Value} (h : Blk w b t #[v]) (u : Value) : Blk (w.setCell ⟨b, 0, none⟩ u) b t #[u] := by
  have := h.set 0 u
  simpa using this
theorem Ke.put1 (h : Ke wb w fb q0 q1 q2 q3 q4 lo hi bb aa) {r : Row} (hr : Bs w r.1 r.2.1 r.2.2) : Ke wb (w.setCell ⟨q1, 0, none⟩ (rowV r)) fb q0 q1 q2 q3 q4 r hi bb aa :=
  ⟨h.gf.apart h.k1 _, h.k0.apart h.zero.1 _, h.k1.put0 _, h.k2.apart h.ne.1.1.symm _, h.k3.apart h.ne.1.2.1.symm _, h.k4.apart h.ne.1.2.2.symm _, hr.apart h.k1 _, Bs.apart h.s2 h.k1 _, Bs.apart h.s3 h.k1 _, Bs.apart h.s4 h.k1 _, h.bel.setCell h.ge.1 _, h.ge, h.ne⟩
theorem Ke.put2 (h : Ke wb w fb q0 q1 q2 q3 q4 lo hi bb aa) {r : Row} (hr : Bs w r.1 r.2.1 r.2.2) : Ke wb (w.setCell ⟨q2, 0, none⟩ (rowV r)) fb q0 q1 q2 q3 q4 lo r bb aa :=
  ⟨h.gf.apart h.k2 _, h.k0.apart h.zero.2.1 _, h.k1.apart h.ne.1.1 _, h.k2.put0 _, h.k3.apart h.ne.2.1.1.symm _, h.k4.apart h.ne.2.1.2.symm _, Bs.apart h.s1 h.k2 _, hr.apart h.k2 _, Bs.apart h.s3 h.k2 _, Bs.apart h.s4 h.k2 _, h.bel.setCell h.ge.2.1 _, h.ge, h.ne⟩
theorem Ke.put3 (h : Ke wb w fb q0 q1 q2 q3 q4 lo hi bb aa) {r : Row} (hr : Bs w r.1 r.2.1 r.2.2) : Ke wb (w.setCell ⟨q3, 0, none⟩ (rowV r)) fb q0 q1 q2 q3 q4 lo hi r aa :=
  ⟨h.gf.apart h.k3 _, h.k0.apart h.zero.2.2.1 _, h.k1.apart h.ne.1.2.1 _, h.k2.apart h.ne.2.1.1 _, h.k3.put0 _, h.k4.apart h.ne.2.2.symm _, Bs.apart h.s1 h.k3 _, Bs.apart h.s2 h.k3 _, hr.apart h.k3 _, Bs.apart h.s4 h.k3 _, h.bel.setCell h.ge.2.2.1 _, h.ge, h.ne⟩
theorem Ke.put4 (h : Ke wb w fb q0 q1 q2 q3 q4 lo hi bb aa) {r : Row} (hr : Bs w r.1 r.2.1 r.2.2) : Ke wb (w.setCell ⟨q4, 0, none⟩ (rowV r)) fb q0 q1 q2 q3 q4 lo hi bb r :=
  ⟨h.gf.apart h.k4 _, h.k0.apart h.zero.2.2.2 _, h.k1.apart h.ne.1.2.2 _, h.k2.apart h.ne.2.1.2 _, h.k3.apart h.ne.2.2 _, h.k4.put0 _, Bs.apart h.s1 h.k4 _, Bs.apart h.s2 h.k4 _, Bs.apart h.s3 h.k4 _, hr.apart h.k4 _, h.bel.setCell h.ge.2.2.2 _, h.ge, h.ne⟩
/-- the cells, as they are read -/
theorem Ke.cells (h : Ke wb w fb q0 q1 q2 q3 q4 lo hi bb aa) : w.cell? ⟨q0, 0, none⟩ = some (fp fb) ∧ w.cell? ⟨q1, 0, none⟩ = some (rowV lo) ∧ w.cell? ⟨q2, 0, none⟩ = some (rowV hi) ∧ w.cell? ⟨q3, 0, none⟩ = some (rowV bb) ∧ w.cell? ⟨q4, 0, none⟩ = some (rowV aa) ∧
    w.frozen? ⟨q1, 0, none⟩ = false ∧ w.frozen? ⟨q2, 0, none⟩ = false ∧ w.frozen? ⟨q3, 0, none⟩ = false ∧ w.frozen? ⟨q4, 0, none⟩ = false := by
  have c0 := h.k0.cell 0
  have c1 := h.k1.cell 0
  have c2 := h.k2.cell 0
  have c3 := h.k3.cell 0
  have c4 := h.k4.cell 0
  simp only [List.getElem?_toArray, List.getElem?_cons_zero] at c0 c1 c2 c3 c4
  exact ⟨c0, c1, c2, c3, c4, h.k1.frozen 0, h.k2.frozen 0, h.k3.frozen 0, h.k4.frozen 0⟩
end
end Go.Proofs.Ytmcamamfpefffaa
