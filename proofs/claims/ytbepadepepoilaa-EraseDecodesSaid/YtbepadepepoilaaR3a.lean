/- aumbryref03.Identity and Mul, walked. -/
import Derived.Test.YtbepadepepoilaaSm
import Derived.Test.YtbepadepepoilaaMxP
namespace Go.Proofs.Ytbepadepepoilaa
open Go.RowKit
set_option linter.unusedVariables false
set_option linter.unusedSimpArgs false
attribute [local go_sem ↓] Go.wp_at_zero Go.wp_at_succ
theorem step_make_bytes {ops : Array Oper} {o : Oper} {a : Act} {w : World} {K : Act → World → Prop} {Q : Exit → Act → World → Prop} {E : Prop} (hgd : o.guard = none) (l c : Operand) (hop : o.op = Op.makeSlice 22 l c)
    (kl kc : IntKind) (L C : Int) (N : Nat) (hl : a.eval l = .int kl L) (hc : a.eval c = .int kc C) (hL : L = (N : Int)) (hC : C = (N : Int)) (hN : N ≤ 140737488351232)
    (h : ∀ w', w'.ownsRow w.heap.size 5 1 (.slice (some ⟨w.heap.size, 0, none⟩) N N) N ((List.replicate N (0 : F)).map bv) → Below w.heap.size w w' → K (a.put o.dst (.slice (some ⟨w.heap.size, 0, none⟩) N N)) w') :
    if Region.wanted o (yielded ops a.tmps) = true then Oper.wp Try.prog o a w K Q else E := by
  have hw : Region.wanted o (yielded ops a.tmps) = true := by simp [Region.wanted, hgd]
  rw [if_pos hw]
  obtain ⟨i0, hi0, hz0, hz1, hz2⟩ := info_parts info_byte
  obtain ⟨w', hrun, r1, r2⟩ := run_make_full (P := Try.prog) w w.heap.size 22 5 i0 _ 1 Try.underlying22 hi0 hz0 hz1 kl kc N (by rw [hz2]; omega) (by unfold maxLen; omega) (Nat.le_refl _)
  subst hL
  subst hC
  unfold Oper.wp
  simp [execOp, hop, hl, hc, hrun, Result.andThen]
  exact h w' (zeros_own r1) ((Below.refl _ _).grown r2 (Nat.le_refl _) (by simp))
theorem rep_matL (r c n : Nat) (h : r * c = n) : (List.replicate n (0 : F)).map bv = (matL r c fun _ _ => 0).map bv := by rw [matL_zero, List.map_replicate, h]; rfl
theorem ref03_identity_bad (n : Int) (h : n < 0 ∨ 256 < n) (w : World) : Calls Try.prog 15 #[.int .i64 n] w fun e w' => e = .returned (.tuple #[matV 0 0 none 0 0, .int .i64 30]) ∧ Below w.heap.size w w' := by
  by_cases h0 : n < 0
  · have e0 : decide (n < 0) = true := decide_eq_true h0
    clear h
    go_enter Try.func15, Try.ntmps15
    go_wp2
    refine bodyPost_ret (v := .tuple #[matV 0 0 none 0 0, .int .i64 30]) ?_ rfl ⟨rfl, by first | exact below_alloc _ _ | exact (((below_alloc w _).setCell (Nat.le_refl _) _).setCell (Nat.le_refl _) _).setCell (Nat.le_refl _) _⟩
    rw [results_cell_tmp rfl]
    go_simp
  · have e0 : decide (n < 0) = false := decide_eq_false h0
    have e1 : decide (256 < n) = true := decide_eq_true (by omega)
    clear h
    go_enter Try.func15, Try.ntmps15
    go_wp2
    refine bodyPost_ret (v := .tuple #[matV 0 0 none 0 0, .int .i64 30]) ?_ rfl ⟨rfl, by first | exact below_alloc _ _ | exact (((below_alloc w _).setCell (Nat.le_refl _) _).setCell (Nat.le_refl _) _).setCell (Nat.le_refl _) _⟩
    rw [results_cell_tmp rfl]
    go_simp
set_option maxRecDepth 1000000 in
theorem ref03_identity (N : Nat) (hN : N ≤ 256) (w : World) :
    Calls Try.prog 15 #[.int .i64 N] w fun e w' => ∃ A' c', e = .returned (.tuple #[matV N N A' (N * N) c', .int .i64 0]) ∧ w'.ownsRow w.heap.size 5 1 (.slice A' (N * N) c') (N * N) ((matL N N dlt).map bv) ∧ Below w.heap.size w w' := by
  have hnN : N * N ≤ 65536 := Nat.mul_le_mul hN hN
  have LM : Hid (∀ i, (idT N i).length = N * N) := fun i => length_idT N i
  have Z : Hid ((List.replicate (N * N) (0 : F)).map bv = (idT N 0).map bv) := by show _ = _; rw [rep_matL N N _ rfl, idT_zero N]
  have SE : Hid (∀ i, i < N → (idT N i).set (i * N + i) 1 = idT N (i + 1)) := fun i hi => idT_set N hi
  have AL : Hid (idT N N = matL N N dlt) := idT_all N
  have LO : Hid (∀ i, i < N → i * N + i < N * N) := fun i hi => row_lt hi hi
  have cn : (N : Int) * (N : Int) = ((N * N : Nat) : Int) := by simp
  have wn : IntKind.i64.wrap ((N : Int) * (N : Int)) = ((N * N : Nat) : Int) := by rw [cn, IntKind.wrap_i64]; omega
  clear cn
  generalize hn : N * N = n at *
  have e0 : decide ((N : Int) < 0) = false := decide_eq_false (by omega)
  have e1 : decide ((256 : Int) < (N : Int)) = false := decide_eq_false (by omega)
  have K0 := Lib.hid (kn1 w 24 #[.int .i64 0, .int .i64 0, .slice none 0 0])
  have HW := Lib.hid (below1 w (.cells #[.int .i64 0, .int .i64 0, .slice none 0 0] 24))
  go_enter Try.func15, Try.ntmps15
  go_wp2_with (refine make_bytes _ rfl _ _ rfl .i64 .i64 (n : Int) (n : Int) n rfl rfl rfl rfl ?b ?_; (case b => omega); intro w2 ho2 hb2; have K1 := Lib.hid (K0.out.below hb2); have HW1 := Lib.hid (HW.out.trans (hb2.mono HW.out.size)); rw [size_alloc'] at ho2; have hg2 := own_some ho2; have HO2 := Lib.hid ho2; clear hb2 ho2)
  have K2 := Lib.hid ((K1.out.alloc (.cells #[.int .i64 N, .int .i64 N, .slice (some ⟨w.heap.size + 1, 0, none⟩) n n] 24)).blk (Blk.new w2 #[.int .i64 N, .int .i64 N, .slice (some ⟨w.heap.size + 1, 0, none⟩) n n] 24))
  have ST0 : Hid (St w (w2.alloc (.cells #[.int .i64 N, .int .i64 N, .slice (some ⟨w.heap.size + 1, 0, none⟩) n n] 24)) (w.heap.size + 1) (w.heap.size + 1) n n (idT N 0) [(w2.heap.size, 24, #[.int .i64 N, .int .i64 N, .slice (some ⟨w.heap.size + 1, 0, none⟩) n n]), (w.heap.size, 24, #[.int .i64 0, .int .i64 0, .slice none 0 0])]) := ⟨K2.out, by have := HO2.out.alloc (.cells #[.int .i64 N, .int .i64 N, .slice (some ⟨w.heap.size + 1, 0, none⟩) n n] 24); rwa [Z.out] at this, HW1.out.alloc HW1.out.size _⟩
  have NE : Hid (∀ x : Nat × TypeId × Array Value, x ∈ [(w2.heap.size, 24, #[.int .i64 N, .int .i64 N, .slice (some ⟨w.heap.size + 1, 0, none⟩) n n]), (w.heap.size, 24, #[.int .i64 0, .int .i64 0, .slice none 0 0])] → x.1 ≠ w.heap.size + 1) := fun x hx => by
    simp only [List.mem_cons, List.not_mem_nil, or_false] at hx
    rcases hx with rfl | rfl
    · show w2.heap.size ≠ w.heap.size + 1; omega
    · show w.heap.size ≠ w.heap.size + 1; omega
  clear K0 K1 K2 HO2 HW HW1 hg2
  go_loopw [5] (fun v wr => ∃ i : Nat, i ≤ N ∧ v = .int .i64 i ∧ St w wr (w.heap.size + 1) (w.heap.size + 1) n n (idT N i) [(w2.heap.size, 24, #[.int .i64 N, .int .i64 N, .slice (some ⟨w.heap.size + 1, 0, none⟩) n n]), (w.heap.size, 24, #[.int .i64 0, .int .i64 0, .slice none 0 0])]) (fun v _ => N - (intOf v).toNat)
  case atStart => exact ⟨0, Nat.zero_le _, rfl, ST0.out⟩
  case round =>
    clear ST0
    obtain ⟨i, hi, rfl, hst⟩ := hrel
    have ST := Lib.hid hst
    by_cases hlt : i < N
    · have p0 := (ST.out.kn.at (.head _)).cell 0; have p1 := (ST.out.kn.at (.head _)).cell 1; have p2 := (ST.out.kn.at (.head _)).cell 2; simp only [List.getElem?_toArray, List.getElem?_cons_succ, List.getElem?_cons_zero] at p0 p1 p2
      have hlo := LO.out i hlt
      have c1 : (i : Int) * (N : Int) = ((i * N : Nat) : Int) := by simp
      have w1 : IntKind.i64.wrap ((i : Int) * (N : Int)) = ((i * N : Nat) : Int) := by rw [c1, IntKind.wrap_i64]; omega
      have hset := hst.set (i * N + i) 1 NE.out (by omega)
      rw [SE.out i hlt] at hset
      have hfz := hst.own.frozenAt (i * N + i)
      have hcl := hst.own.cellAt (i * N + i) (by omega)
      rw [getElem?_bv (by rw [LM.out]; exact hlo)] at hcl
      have HS := Lib.hid hset
      clear hst hset c1
      generalize (idT N i).getD (i * N + i) 0 = old at *
      generalize i * N = lo at *
      go_wp2
      go_roundw
      case rel => exact ⟨i + 1, by omega, by go_num, HS.out⟩
      case measure => simp [intOf]; omega
    · have hie : i = N := by omega
      subst hie
      clear hst
      have p0 := (ST.out.kn.at (.head _)).cell 0; have p1 := (ST.out.kn.at (.head _)).cell 1; have p2 := (ST.out.kn.at (.head _)).cell 2; simp only [List.getElem?_toArray, List.getElem?_cons_succ, List.getElem?_cons_zero] at p0 p1 p2; have q0 := (ST.out.kn.at (.tail _ (.head _))).cell 0; have q1 := (ST.out.kn.at (.tail _ (.head _))).cell 1; have q2 := (ST.out.kn.at (.tail _ (.head _))).cell 2; have qz0 := (ST.out.kn.at (.tail _ (.head _))).frozen 0; have qz1 := (ST.out.kn.at (.tail _ (.head _))).frozen 1; have qz2 := (ST.out.kn.at (.tail _ (.head _))).frozen 2; simp only [List.getElem?_toArray, List.getElem?_cons_succ, List.getElem?_cons_zero] at q0 q1 q2
      go_wp2
      have hfin := ((ST.out.kn.at (.tail _ (.head _))).set 0 (.int .i64 (i : Int))).set 1 (.int .i64 (i : Int)) |>.set 2 (.slice (some ⟨w.heap.size + 1, 0, none⟩) n n)
      have h3 := hfin.cell 0
      have h4 := hfin.cell 1
      have h5 := hfin.cell 2
      simp only [List.getElem?_toArray, List.getElem?_cons_succ, List.getElem?_cons_zero, List.setIfInBounds_toArray, List.set_cons_zero, List.set_cons_succ] at h3 h4 h5
      refine bodyPost_ret (v := .tuple #[matV i i (some ⟨w.heap.size + 1, 0, none⟩) n n, .int .i64 0]) ?_ rfl ?_
      · rw [results_cell_tmp rfl]
        go_simp
      · have hle : w.heap.size ≤ w.heap.size := by omega
        have hs := ST.out
        rw [AL.out] at hs
        have NE2 := own_ne_blk hs.own (hs.kn.at (.tail _ (.head _))) (by decide)
        refine ⟨_, _, rfl, own_mono (ownsRow_setCell_other (ownsRow_setCell_other (ownsRow_setCell_other hs.own NE2 _) NE2 _) NE2 _) (by omega), ((hs.bel.setCell hle _).setCell hle _).setCell hle _⟩
end Go.Proofs.Ytbepadepepoilaa
