/- Package syndrome, and the document's answer for it (aumbryref08), walked. -/
import Derived.Test.YtmkjplpnoohfnaaKn
import Derived.Test.YtmkjplpnoohfnaaSyn
import Derived.Test.YtmkjplpnoohfnaaCauFacts
import Derived.BigQuiet
namespace Go.Proofs.Ytmkjplpnoohfnaa
open Go.RowKit
set_option linter.unusedVariables false
set_option linter.unusedSimpArgs false
/-- the product while it is made -/
def prw (k i t : Nat) : F := prodF t (fun x => k + x != i) fun x => F.of (k + x) + F.of i
theorem prw_ne {k i y : Nat} (hy : k ≤ y) (h : y ≠ i) : prw k i (y + 1 - k) = prw k i (y - k) * (F.of y + F.of i) := by
  obtain ⟨d, rfl⟩ : ∃ d, y = k + d := ⟨y - k, by omega⟩
  rw [show k + d + 1 - k = d + 1 by omega, Nat.add_sub_cancel_left, prw, prodF, if_pos (by simp; exact h)]; rfl
theorem prw_eq {k i y : Nat} (hy : k ≤ y) (h : y = i) : prw k i (y + 1 - k) = prw k i (y - k) := by
  subst h
  obtain ⟨d, rfl⟩ : ∃ d, y = k + d := ⟨y - k, by omega⟩
  rw [show k + d + 1 - k = d + 1 by omega, Nat.add_sub_cancel_left, prw, prodF, if_neg (by simp)]; rfl
theorem GfAt.drewN' {w : World} {b : Nat} (h : GfAt w b) (n : Nat) : GfAt (w.drewN n) b := ⟨h.lt, h.e, h.l⟩
theorem syn_weight1 (b k m i : Nat) (hkm : k + m ≤ 256) (hi : i < 256) (a1 a2 a3 : Addr) (w : World) (hg : GfAt w b) (h1 : w.cell? a1 = some (.int .i64 k)) (h2 : w.cell? a2 = some (.int .i64 m)) (h3 : w.cell? a3 = some (fp b)) :
    Calls Try.prog 97 #[.int .i64 i, .pointer (some a1), .pointer (some a2), .pointer (some a3)] w fun e w' => e = .returned (.int .u8 (wt k m i).n) ∧ ∃ n, w' = w.drewN n := by
  have HG := Lib.hid hg
  have hwt : wt k m i = F.inv (prw k i (k + m - k)) := by rw [Nat.add_sub_cancel_left]; rfl
  have HW := Lib.hid hwt
  clear hg hwt
  go_enter Try.func97, Try.ntmps97
  go_wp2
  go_loopw [6, 7] (fun p x wr => ∃ y n : Nat, k ≤ y ∧ y ≤ k + m ∧ x = .int .i64 y ∧ p = .int .u8 (prw k i (y - k)).n ∧ wr = w.drewN n) (fun _ x _ => k + m - (intOf x).toNat)
  case atStart => exact ⟨k, 0, Nat.le_refl _, by omega, rfl, by rw [Nat.sub_self]; rfl, rfl⟩
  case round =>
    obtain ⟨y, n, hy1, hy2, rfl, rfl, rfl⟩ := hrel
    by_cases hlt : y < k + m
    · by_cases he : y = i
      · have hp := prw_eq hy1 he
        subst he
        have HP := Lib.hid hp
        clear hp
        generalize prw k y (y - k) = p at *
        go_wp2
        go_roundw
        case rel => exact ⟨y + 1, n, by omega, by omega, by go_num, by rw [HP.out], rfl⟩
        case measure => simp [intOf]; omega
      · have hp := prw_ne hy1 he
        have HP := Lib.hid hp
        have hm := gf_mul b (prw k i (y - k)) (F.of (y ^^^ i)) (w.drewN n) (HG.out.drewN' n)
        rw [F.n_of (xor_lt (by omega) hi), of_xor y i (by omega) hi] at hm
        have e1 := i64_xor_nat y i (by omega) (by omega)
        have e2 : IntKind.u8.wrap ((y ^^^ i : Nat) : Int) = ((y ^^^ i : Nat) : Int) := wrapu8 _ (xor_lt (by omega) hi)
        have ne1 : ((y : Int) != (i : Int)) = true := by rw [bne_iff_ne]; omega
        have ne2 : (y != i) = true := by rw [bne_iff_ne]; exact he
        have HM := Lib.hid hm
        clear hp hm he
        generalize prw k i (y - k) = p at *
        go_wp2_with (go_at_call 55; (with_reducible refine HM.out.mono ?_); rintro e w1 ⟨rfl, n2, rfl⟩)
        go_roundw
        case rel => exact ⟨y + 1, n + n2, by omega, by omega, by go_num, by rw [HP.out], by simp⟩
        case measure => simp [intOf]; omega
    · have hye : wt k m i = F.inv (prw k i (y - k)) := by rw [HW.out]; congr 2; omega
      have hm := gf_inv b (prw k i (y - k)) (w.drewN n) (HG.out.drewN' n)
      rw [← hye] at hm
      have HM := Lib.hid hm
      clear hm hye
      generalize prw k i (y - k) = p at *
      go_wp2_with (go_at_call 98; (with_reducible refine HM.out.mono ?_); rintro e w1 ⟨rfl, n2, rfl⟩)
      all_goals (go_ret; exact ⟨rfl, n + n2, by simp⟩)
/-- the weights that are there -/
def wtT (k m i : Nat) : List F := tab (k + m) fun j => if j < i then wt k m j else 0
def wtL (k m : Nat) : List F := tab (k + m) (wt k m)
theorem wtT_zero (k m : Nat) : wtT k m 0 = tab (k + m) fun _ => 0 := tab_congr fun j _ => if_neg (by omega)
theorem wtT_all (k m : Nat) : wtT k m (k + m) = wtL k m := tab_congr fun j hj => if_pos hj
theorem wtT_set (k m : Nat) {i : Nat} (hi : i < k + m) : (wtT k m i).set i (wt k m i) = wtT k m (i + 1) := by
  unfold wtT
  rw [set_tab]
  refine tab_congr fun j _ => ?_
  by_cases e : j = i
  · subst e; rw [if_pos rfl, if_pos (by omega)]
  · rw [if_neg e]
    by_cases e2 : j < i
    · rw [if_pos e2, if_pos (by omega)]
    · rw [if_neg e2, if_neg (by omega)]
theorem length_wtL (k m : Nat) : (wtL k m).length = k + m := length_tab _ _
theorem rep_tab (n : Nat) : List.replicate n (0 : F) = tab n fun _ => 0 := by
  unfold tab
  symm
  rw [List.eq_replicate_iff]
  exact ⟨by simp, fun x hx => by obtain ⟨_, _, rfl⟩ := List.mem_map.1 hx; rfl⟩
theorem below_of_drewN {w0 w : World} (h : Below w0.heap.size w0 w) (n : Nat) : Below w0.heap.size w0 (w.drewN n) := below_drewN h n
set_option maxRecDepth 1000000 in
theorem syn_weights (b k m : Nat) (hkm : okkm k m) (w : World) (hg : GfAt w b) :
    Calls Try.prog 50 #[fp b, .int .i64 k, .int .i64 m] w fun e w' => ∃ A' c', e = .returned (.tuple #[.slice A' (k + m) c', .int .i64 0]) ∧ w'.ownsRow w.heap.size 5 1 (.slice A' (k + m) c') (k + m) ((wtL k m).map bv) ∧ Below w.heap.size w w' := by
  obtain ⟨k1, k2, k3⟩ := hkm
  have HG := Lib.hid hg
  have CK : Hid (∀ w, Calls Try.prog 38 #[.int .i64 k, .int .i64 m] w fun e w' => e = .returned (.int .i64 0) ∧ w = w') := fun w => cauchy_check_ok k m ⟨k1, k2, k3⟩ w
  have K0 := Lib.hid (kn3 w 23 3 3 #[fp b] #[.int .i64 k] #[.int .i64 m])
  have HW := Lib.hid (below3 w (.cells #[fp b] 23) (.cells #[.int .i64 k] 3) (.cells #[.int .i64 m] 3))
  have hsum : (k : Int) + (m : Int) = ((k + m : Nat) : Int) := by simp
  have HSUM := Lib.hid hsum
  have Z : Hid (List.replicate (k + m) (0 : F) = wtT k m 0) := by show _ = _; rw [wtT_zero, rep_tab]
  have SE : Hid (∀ i, i < k + m → (wtT k m i).set i (wt k m i) = wtT k m (i + 1)) := fun i hi => wtT_set k m hi
  have AL : Hid (wtT k m (k + m) = wtL k m) := wtT_all k m
  have LT : Hid (∀ i, (wtT k m i).length = k + m) := fun i => length_tab _ _
  clear hg hsum
  go_enter Try.func50, Try.ntmps50
  go_wp2_with (first
    | (go_at_call 38; (with_reducible refine (CK.out _).mono ?_); rintro e w1 ⟨rfl, rfl⟩)
    | (refine make_bytes _ rfl _ _ rfl .i64 .i64 ((k : Int) + (m : Int)) ((k : Int) + (m : Int)) (k + m) rfl rfl HSUM.out HSUM.out ?b ?_; (case b => omega); intro w1 hown hbel; have HO := Lib.hid hown; have HR := Lib.hid hbel; clear hown hbel))
  have ST0 : Hid (St w w1 (w.heap.size + 3) (w.heap.size + 3) (k + m) (k + m) (wtT k m 0) [(w.heap.size, 23, #[fp b]), (w.heap.size + 1, 3, #[.int .i64 k]), (w.heap.size + 2, 3, #[.int .i64 m])]) := by
    have h := HO.out
    simp only [size_alloc'] at h
    rw [Z.out] at h
    have hr := HR.out
    exact ⟨K0.out.below hr, h, HW.out.trans (hr.mono HW.out.size)⟩
  have NE : Hid (∀ x : Nat × TypeId × Array Value, x ∈ [(w.heap.size, 23, #[fp b]), (w.heap.size + 1, 3, #[.int .i64 k]), (w.heap.size + 2, 3, #[.int .i64 m])] → x.1 ≠ w.heap.size + 3) := fun x hx => by
    simp only [List.mem_cons, List.not_mem_nil, or_false] at hx
    rcases hx with rfl | rfl | rfl
    · show w.heap.size ≠ _; omega
    · show w.heap.size + 1 ≠ _; omega
    · show w.heap.size + 2 ≠ _; omega
  clear K0 HW HO HR
  go_loopw [27] (fun v wr => ∃ i : Nat, i ≤ k + m ∧ v = .int .i64 i ∧ St w wr (w.heap.size + 3) (w.heap.size + 3) (k + m) (k + m) (wtT k m i) [(w.heap.size, 23, #[fp b]), (w.heap.size + 1, 3, #[.int .i64 k]), (w.heap.size + 2, 3, #[.int .i64 m])]) (fun v _ => k + m - (intOf v).toNat)
  case atStart => exact ⟨0, Nat.zero_le _, rfl, ST0.out⟩
  case round =>
    clear ST0
    obtain ⟨i, hi, rfl, hst⟩ := hrel
    have ST := Lib.hid hst
    by_cases hlt : i < k + m
    · have p0 := (ST.out.kn.at (.head _)).cell 0; simp only [List.getElem?_toArray, List.getElem?_cons_zero] at p0; have q0 := (ST.out.kn.at (.tail _ (.head _))).cell 0; simp only [List.getElem?_toArray, List.getElem?_cons_zero] at q0; have r0 := (ST.out.kn.at (.tail _ (.tail _ (.head _)))).cell 0; simp only [List.getElem?_toArray, List.getElem?_cons_zero] at r0
      have hcl := hst.own.cellAt i (by omega)
      have hfz := hst.own.frozenAt i
      have hset := hst.set i (wt k m i) NE.out (by omega)
      rw [SE.out i hlt] at hset
      rw [getElem?_bv (by rw [LT.out]; exact hlt)] at hcl
      have HS := Lib.hid hset
      have WT := Lib.hid (syn_weight1 b k m i (by omega) (by omega) ⟨w.heap.size + 1, 0, none⟩ ⟨w.heap.size + 2, 0, none⟩ ⟨w.heap.size, 0, none⟩ wr (HG.out.below hst.bel) q0 r0 p0)
      clear hst hset p0 q0 r0
      go_wp2_with (go_at_call 97; (with_reducible refine WT.out.mono ?_); rintro e w2 ⟨rfl, n, rfl⟩)
      go_roundw
      case rel => exact ⟨i + 1, by omega, by go_num, HS.out.drewN n⟩
      case measure => simp [intOf]; omega
    · have hie : i = k + m := by omega
      subst hie
      clear hst
      go_wp2
      go_ret2
      have h := ST.out
      rw [AL.out] at h
      exact ⟨_, _, rfl, own_mono h.own (by omega), h.bel⟩
end Go.Proofs.Ytmkjplpnoohfnaa
