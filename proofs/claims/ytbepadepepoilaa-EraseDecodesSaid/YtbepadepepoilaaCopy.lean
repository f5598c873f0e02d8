/- copy(dst, src) of bytes into a row of the call's own, at a place in it. -/
import Derived.Test.YtbepadepepoilaaKn
import Derived.Laws.CopyOwn
namespace Go.Proofs.Ytbepadepepoilaa
open Go.RowKit
set_option linter.unusedVariables false
def copyAt (L : List F) (lo : Nat) (q : List F) : List F := tab L.length fun j => if lo ≤ j ∧ j < lo + q.length then q.getD (j - lo) 0 else L.getD j 0
theorem length_copyAt (L : List F) (lo : Nat) (q : List F) : (copyAt L lo q).length = L.length := length_tab _ _
theorem copyAt_nil (L : List F) (lo : Nat) : copyAt L lo [] = L := by
  refine ext_getD (length_copyAt _ _ _) fun j hj => ?_
  rw [length_copyAt] at hj
  rw [copyAt, getD_tab _ hj, if_neg (by simp only [List.length_nil]; omega)]
theorem copyAt_eq (L : List F) (lo : Nat) (q : List F) (h : lo + q.length ≤ L.length) : copyAt L lo q = L.take lo ++ q ++ L.drop (lo + q.length) := by
  refine ext_getD ?_ fun j hj => ?_
  · rw [length_copyAt]; simp; omega
  · rw [length_copyAt] at hj
    rw [copyAt, getD_tab _ hj]
    rcases Nat.lt_or_ge j lo with h1 | h1
    · rw [if_neg (by omega), List.getD_eq_getElem?_getD, List.getD_eq_getElem?_getD, List.append_assoc, List.getElem?_append_left (by simp; omega), List.getElem?_take, if_pos h1]
    · rcases Nat.lt_or_ge j (lo + q.length) with h2 | h2
      · rw [if_pos ⟨h1, h2⟩, List.getD_eq_getElem?_getD, List.getD_eq_getElem?_getD, List.append_assoc, List.getElem?_append_right (by simp; omega), List.getElem?_append_left (by simp; omega)]
        congr 2
        simp; omega
      · rw [if_neg (by omega), List.getD_eq_getElem?_getD, List.getD_eq_getElem?_getD, List.getElem?_append_right (by simp; omega), List.getElem?_drop]
        congr 2
        simp; omega
theorem copy_run (w : World) (B g N Cp lo c1 : Nat) (L q : List F) (A2 : Option Addr) (c2 dl : Nat) (hdl : q.length ≤ dl) (hL : L.length = N) (hown : w.ownsRow B 5 1 (.slice (some ⟨g, 0, none⟩) N Cp) N (L.map bv)) (hq : Bs w A2 c2 q) (hlo : lo + q.length ≤ N) :
    ∃ w', (∀ ty, (Builtin.copy_ #[22, 22] ty #[.slice (some ⟨g, lo, none⟩) dl c1, .slice A2 q.length c2]).run Try.prog w = .ok (goInt q.length) w') ∧ w'.ownsRow B 5 1 (.slice (some ⟨g, 0, none⟩) N Cp) N ((copyAt L lo q).map bv) ∧ Beside g w w' := by
  have hsz : (Try.prog.info? 5).map (·.size) = some 1 := by kernel_rfl
  rcases Nat.eq_zero_or_pos q.length with h0 | h0
  · have hq0 : q = [] := List.eq_nil_of_length_eq_zero h0
    subst hq0
    exact ⟨w, fun ty => run_copy_none w _ _ ty 5 _ _ dl c1 0 c2 Try.underlying22 hsz (Nat.zero_min _), by rw [copyAt_nil]; exact hown, Beside.refl _ _⟩
  · obtain ⟨b2, o2, rfl, hb2, hc⟩ := Sl.at' hq (by simpa using h0)
    obtain ⟨hl, hx⟩ := hown
    rcases hx with ⟨h1, _⟩ | ⟨g', cap, cur, h1, hB, hg, hnc, hcm, hcs, ht⟩
    · cases h1
    · injection h1 with e1 e2 e3
      injection e1 with e1
      injection e1 with e1
      subst e1
      subst e3
      have hcz : cur.toList.length = Cp := by rw [Array.length_toList]; omega
      have hrun := fun ty => run_copy_row (P := Try.prog) w 22 22 ty 5 g lo dl c1 ⟨b2, o2, none⟩ q.length c2 cur 5 (q.map bv) Try.underlying22 hsz hg (by rw [List.length_map]; exact (Nat.min_eq_left hdl).symm) (fun j v hv => by rw [add_at]; exact hc j v hv) (by rw [List.length_map, ← Array.length_toList]; omega) (bytes_oneCell q)
      refine ⟨_, fun ty => by have h := hrun ty; rwa [List.length_map] at h, ⟨by rw [List.length_map, length_copyAt]; omega, .inr ⟨g, Cp, _, rfl, hB, setRow_heap w g cur _ 5 _ hg, hnc, hcm, ?_, ?_⟩⟩, rfl, rfl, rfl, by simp [World.setRow], fun k hk hne => setRow_other w g k _ (fun e => hne (by rw [e]))⟩
      · simp only [List.size_toArray, List.length_append, List.length_take, List.length_drop, List.length_map]; omega
      · rw [copyAt_eq L lo q (by omega)]
        have hd : (L.drop (lo + q.length)).map bv = (cur.toList.drop (lo + q.length)).take (N * 1 - (lo + q.length)) := by
          rw [List.map_drop, ← ht, List.drop_take]
        have hk : (L.take lo).map bv = cur.toList.take lo := by
          rw [List.map_take, ← ht, List.take_take, Nat.min_eq_left (by omega)]
        have hlk : (cur.toList.take lo ++ q.map bv).length = lo + q.length := by rw [List.length_append, List.length_take, List.length_map, Nat.min_eq_left (by omega)]
        rw [List.map_append, List.map_append, hk, hd]
        show List.take (N * 1) (cur.toList.take lo ++ q.map bv ++ cur.toList.drop (lo + q.length)) = _
        rw [List.take_append, hlk, List.take_of_length_le (by omega)]
/-- a part of a row of the call's own, as a slice -/
theorem bs_of_own {w : World} {B g N Cp lo m cap : Nat} {L : List F} {q : Nat → F} (h : w.ownsRow B 5 1 (.slice (some ⟨g, 0, none⟩) N Cp) N (L.map bv)) (hL : L.length = N) (hm : lo + m ≤ N) (hq : ∀ j, j < m → L.getD (lo + j) 0 = q j) (hc : m ≤ cap) (hc2 : cap ≤ maxLen) : Bs w (some ⟨g, lo, none⟩) cap (tab m q) := by
  refine ⟨by rw [List.length_map, length_tab]; exact hc, hc2, .inr ⟨g, lo, rfl, (own_some h).2, fun i v hv => ?_⟩⟩
  have hi : i < m := by
    have := (List.getElem?_eq_some_iff.1 hv).1
    rwa [List.length_map, length_tab] at this
  rw [getElem?_bv (by rw [length_tab]; exact hi), getD_tab _ hi] at hv
  have hc := h.cellAt (lo + i) (by omega)
  rw [getElem?_bv (by omega), hq i hi, hv] at hc
  exact hc
theorem step_copy_bytes {ops : Array Oper} {o : Oper} {a : Act} {w : World} {K : Act → World → Prop} {Q : Exit → Act → World → Prop} {E : Prop} (hgd : o.guard = none) (d s : Operand)
    (ho : o.op = .call { callee := .builtin .copy, args := #[d, s], argTypes := #[22, 22] })
    (B g N Cp lo c1 : Nat) (L q : List F) (A2 : Option Addr) (c2 n : Nat) (hn : q.length = n) (dl : Nat) (hdl : n ≤ dl) (hd : a.eval d = .slice (some ⟨g, lo, none⟩) dl c1) (hs : a.eval s = .slice A2 n c2)
    (hL : L.length = N) (hown : w.ownsRow B 5 1 (.slice (some ⟨g, 0, none⟩) N Cp) N (L.map bv)) (hq : Bs w A2 c2 q) (hlo : lo + n ≤ N)
    (h : ∀ w', w'.ownsRow B 5 1 (.slice (some ⟨g, 0, none⟩) N Cp) N ((copyAt L lo q).map bv) → Beside g w w' → K (a.put o.dst (goInt n)) w') :
    if Region.wanted o (yielded ops a.tmps) = true then Oper.wp Try.prog o a w K Q else E := by
  subst hn
  have hw : Region.wanted o (yielded ops a.tmps) = true := by simp [Region.wanted, hgd]
  rw [if_pos hw]
  obtain ⟨w', hrun, h1, h2⟩ := copy_run w B g N Cp lo c1 L q A2 c2 dl hdl hL hown hq hlo
  unfold Oper.wp
  simp only [execOp, ho, resolve, invoke, builtin, Sem.run_bind, Sem.run_pure, Result.andThen_ok, List.map_toArray, List.map_cons, List.map_nil, hd, hs, hrun]
  exact h w' h1 h2
end Go.Proofs.Ytbepadepepoilaa
