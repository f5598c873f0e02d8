/- matrix.adds, walked. -/
import Derived.Test.YtbepadepepoilaaMx
import Derived.Deep.DrawnRows
namespace Go.Proofs.Ytbepadepepoilaa
open Go.RowKit
set_option linter.unusedVariables false
attribute [local go_sem ↓] Go.wp_at_zero Go.wp_at_succ
/-- the first i of q's numbers, times c, added from lo on -/
def addAt (L : List F) (lo : Nat) (q : List F) (c : F) (i : Nat) : List F := tab L.length fun j => if lo ≤ j ∧ j < lo + i then L.getD j 0 + q.getD (j - lo) 0 * c else L.getD j 0
theorem length_addAt (L : List F) (lo : Nat) (q : List F) (c : F) (i : Nat) : (addAt L lo q c i).length = L.length := length_tab _ _
theorem addAt_zero (L : List F) (lo : Nat) (q : List F) (c : F) : addAt L lo q c 0 = L := by
  refine ext_getD (length_addAt _ _ _ _ _) fun j hj => ?_
  rw [length_addAt] at hj
  rw [addAt, getD_tab _ hj, if_neg (by omega)]
theorem getD_addAt_out {L : List F} {lo : Nat} {q : List F} {c : F} {i j : Nat} (h : j < lo ∨ lo + i ≤ j) : (addAt L lo q c i).getD j 0 = L.getD j 0 := by
  rcases Nat.lt_or_ge j L.length with hj | hj
  · rw [addAt, getD_tab _ hj, if_neg (by omega)]
  · rw [List.getD_eq_getElem?_getD, List.getElem?_eq_none (by rw [length_addAt]; exact hj), List.getD_eq_getElem?_getD, List.getElem?_eq_none hj]
theorem addAt_set (L : List F) (lo : Nat) (q : List F) (c : F) (i : Nat) (h : lo + i < L.length) : (addAt L lo q c i).set (lo + i) (L.getD (lo + i) 0 + q.getD i 0 * c) = addAt L lo q c (i + 1) := by
  unfold addAt
  rw [set_tab]
  refine tab_congr fun j _ => ?_
  by_cases e : j = lo + i
  · subst e; rw [if_pos rfl, if_pos (by omega), Nat.add_sub_cancel_left]
  · rw [if_neg e]
    by_cases e2 : lo ≤ j ∧ j < lo + i
    · rw [if_pos e2, if_pos (by omega)]
    · rw [if_neg e2, if_neg (by omega)]
/-- what stays as it was, but for a row -/
def Beside (g : Nat) (w w' : World) : Prop := w.grownBy w' (some g)
theorem Beside.refl (g : Nat) (w : World) : Beside g w w := ⟨rfl, rfl, rfl, Nat.le_refl _, fun _ _ _ => rfl⟩
theorem Beside.drewN {g : Nat} {w w' : World} (h : Beside g w w') (n : Nat) : Beside g w (w'.drewN n) := by obtain ⟨h1, h2, h3, h4, h5⟩ := h; exact ⟨h1, h2, h3, h4, h5⟩
theorem Beside.setCell {g : Nat} {w w' : World} (h : Beside g w w') (o : Nat) (u : Value) : Beside g w (w'.setCell ⟨g, o, none⟩ u) := by
  obtain ⟨h1, h2, h3, h4, h5⟩ := h
  refine ⟨h1, h2, h3, by simpa [World.setCell] using h4, fun k hk hne => ?_⟩
  rw [Below.heap_setCell _ _ _ _ (fun e => hne (by rw [e]))]
  exact h5 k hk hne
theorem Beside.trans {g : Nat} {w w' w'' : World} (h : Beside g w w') (h' : Beside g w' w'') : Beside g w w'' := by
  obtain ⟨h1, h2, h3, h4, h5⟩ := h
  obtain ⟨k1, k2, k3, k4, k5⟩ := h'
  exact ⟨k1.trans h1, k2.trans h2, k3.trans h3, Nat.le_trans h4 k4, fun k hk hne => (k5 k (by omega) hne).trans (h5 k hk hne)⟩
theorem Beside.below {g : Nat} {w w' w'' : World} (h : Beside g w w') (hb : Below w'.heap.size w' w'') : Beside g w w'' := by
  obtain ⟨h1, h2, h3, h4, h5⟩ := h
  exact ⟨hb.os.trans h1, hb.tape.trans h2, hb.output.trans h3, Nat.le_trans h4 hb.size, fun k hk hne => (hb.block k (by omega)).trans (h5 k hk hne)⟩
/-- a number of from stays while to is written -/
def Stays (w : World) (B g N Cp : Nat) (L : List F) (lo n : Nat) (P : World → Prop) : Prop :=
  ∀ (wr : World) (L' : List F), Beside g w wr → wr.ownsRow B 5 1 (.slice (some ⟨g, 0, none⟩) N Cp) N (L'.map bv) → (∀ j, j < lo ∨ lo + n ≤ j → L'.getD j 0 = L.getD j 0) → P wr
set_option maxRecDepth 100000 in
theorem mx_adds (b B g N Cp lo c1 : Nat) (L q : List F) (A2 : Option Addr) (c2 : Nat) (x : F) (w : World) (hL : L.length = N) (hlo : lo + q.length ≤ N) (hc : q.length ≤ c1) (hc1 : c1 ≤ 1000000)
    (hown : w.ownsRow B 5 1 (.slice (some ⟨g, 0, none⟩) N Cp) N (L.map bv)) (hf : Stays w B g N Cp L lo q.length fun wr => Bs wr A2 c2 q) (hgf : Stays w B g N Cp L lo q.length fun wr => GfAt wr b) :
    Calls Try.prog 27 #[fp b, .slice (some ⟨g, lo, none⟩) q.length c1, .slice A2 q.length c2, .int .u8 x.n] w fun e w' => e = .returned (.tuple #[]) ∧ w'.ownsRow B 5 1 (.slice (some ⟨g, 0, none⟩) N Cp) N ((addAt L lo q x q.length).map bv) ∧ Beside g w w' := by
  have hql : q.length ≤ 1000000 := by omega
  have HO := Lib.hid hown
  have HF := Lib.hid hf
  have HG := Lib.hid hgf
  have HL := Lib.hid hL
  clear hown hf hgf hL
  unfold fp
  go_enter Try.func27, Try.ntmps27
  go_wp2
  go_loopw [12] (fun k wr => ∃ i : Nat, i ≤ q.length ∧ k = .int .i64 i ∧ wr.ownsRow B 5 1 (.slice (some ⟨g, 0, none⟩) N Cp) N ((addAt L lo q x i).map bv) ∧ Beside g w wr) (fun k _ => q.length - (intOf k).toNat)
  case atStart => exact ⟨0, Nat.zero_le _, rfl, by rw [addAt_zero]; exact HO.out, Beside.refl _ _⟩
  case round =>
    obtain ⟨i, hi, rfl, hown, hb⟩ := hrel
    clear HO
    by_cases hlt : i < q.length
    · have hkeep : ∀ j, j < lo ∨ lo + q.length ≤ j → (addAt L lo q x i).getD j 0 = L.getD j 0 := fun j hj => getD_addAt_out (by omega)
      have hbs := HF.out wr _ hb hown hkeep
      have hgf := HG.out wr _ hb hown hkeep
      obtain ⟨b2, o2, hA, hbl, hc⟩ := Bs.at' hbs (by omega)
      subst hA
      have hcell := hc i hlt
      have hcl := hown.cellAt (lo + i) (by omega)
      rw [getElem?_bv (by rw [length_addAt, HL.out]; omega), getD_addAt_out (by omega)] at hcl
      have hfz := hown.frozenAt (lo + i)
      have hst := hown.stored (lo + i) (bv (L.getD (lo + i) 0 + q.getD i 0 * x))
      rw [map_set, addAt_set L lo q x i (by rw [HL.out]; omega)] at hst
      have HST := Lib.hid hst
      have HB := Lib.hid hb
      have MU := Lib.hid (gf_mul b (q.getD i 0) x wr hgf)
      have MU2 := Lib.hid (gf_mul b (q.getD i 0) x wr.drew ⟨hgf.lt, hgf.e, hgf.l⟩)
      clear hkeep hbs hgf hc hown hst hb HF HG
      generalize L.getD (lo + i) 0 = u at *
      generalize q.getD i 0 = y at *
      have hxor := xor_n u (y * x)
      unfold fp at MU MU2
      go_wp2
      go_region_law (go_simp; go_at_call 30; (with_reducible refine MU2.out.mono ?_); rintro e w2 ⟨rfl, n, rfl⟩)
      all_goals
        go_wp2
        go_roundw
        case rel => exact ⟨i + 1, by omega, by go_num, HST.out.1, (HB.out.drewN _).setCell _ _⟩
        case measure => simp [intOf]; omega
    · have : i = q.length := by omega
      subst this
      have HO := Lib.hid hown
      have HB := Lib.hid hb
      clear hown hb HF HG
      go_wp2
      go_end0
      exact ⟨rfl, HO.out, HB.out⟩
end Go.Proofs.Ytbepadepepoilaa
