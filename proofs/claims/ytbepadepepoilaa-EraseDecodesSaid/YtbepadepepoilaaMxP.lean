/- matrix.Identity and matrix.Pick, walked. -/
import Derived.Test.YtbepadepepoilaaMxM
import Derived.Test.YtbepadepepoilaaCopy
namespace Go.Proofs.Ytbepadepepoilaa
open Go.RowKit
set_option linter.unusedVariables false
set_option linter.unusedSimpArgs false
attribute [local go_sem ↓] Go.wp_at_zero Go.wp_at_succ
def idT (n i : Nat) : List F := matL n n fun r c => if r = c ∧ r < i then 1 else 0
theorem length_idT (n i : Nat) : (idT n i).length = n * n := length_matL _ _ _
theorem idT_zero (n : Nat) : idT n 0 = matL n n fun _ _ => 0 := matL_congr fun r c _ _ => if_neg (by omega)
theorem idT_all (n : Nat) : idT n n = matL n n dlt := matL_congr fun r c hr _ => by
  unfold dlt
  by_cases h : r = c
  · rw [if_pos ⟨h, hr⟩, if_pos h]
  · rw [if_neg (fun e => h e.1), if_neg h]
theorem idT_set (n : Nat) {i : Nat} (hi : i < n) : (idT n i).set (i * n + i) 1 = idT n (i + 1) := by
  rw [idT, matL_set _ hi hi]
  refine matL_congr fun r c _ _ => ?_
  by_cases h : r = i ∧ c = i
  · rw [if_pos h, if_pos ⟨by omega, by omega⟩]
  · rw [if_neg h]
    by_cases e : r = c ∧ r < i
    · rw [if_pos e, if_pos ⟨e.1, by omega⟩]
    · rw [if_neg e, if_neg (by omega)]
theorem mx_identity_bad (n : Int) (h : n < 0 ∨ 256 < n) (w : World) : Calls Try.prog 14 #[.int .i64 n] w fun e w' => e = .returned (.tuple #[matV 0 0 none 0 0, .int .i64 30]) ∧ Below w.heap.size w w' := by
  by_cases h0 : n < 0
  · have e0 : decide (n < 0) = true := decide_eq_true h0
    clear h
    go_enter Try.func14, Try.ntmps14
    go_wp2
    refine bodyPost_ret (v := .tuple #[matV 0 0 none 0 0, .int .i64 30]) ?_ rfl ⟨rfl, below_alloc _ _⟩
    rw [results_cell_tmp rfl]
    go_simp
  · have e0 : decide (n < 0) = false := decide_eq_false h0
    have e1 : decide (256 < n) = true := decide_eq_true (by omega)
    clear h
    go_enter Try.func14, Try.ntmps14
    go_wp2
    refine bodyPost_ret (v := .tuple #[matV 0 0 none 0 0, .int .i64 30]) ?_ rfl ⟨rfl, below_alloc _ _⟩
    rw [results_cell_tmp rfl]
    go_simp
set_option maxRecDepth 1000000 in
theorem mx_identity (N : Nat) (hN : N ≤ 256) (w : World) :
    Calls Try.prog 14 #[.int .i64 N] w fun e w' => ∃ A' c', e = .returned (.tuple #[matV N N A' (N * N) c', .int .i64 0]) ∧ w'.ownsRow w.heap.size 5 1 (.slice A' (N * N) c') (N * N) ((matL N N dlt).map bv) ∧ Below w.heap.size w w' := by
  have EM := Lib.hid (mx_empty N N hN (by omega))
  have hnN : N * N ≤ 65536 := Nat.mul_le_mul hN hN
  have LM : Hid (∀ i, (idT N i).length = N * N) := fun i => length_idT N i
  have Z : Hid (matL N N (fun _ _ => (0 : F)) = idT N 0) := (idT_zero N).symm
  have SE : Hid (∀ i, i < N → (idT N i).set (i * N + i) 1 = idT N (i + 1)) := fun i hi => idT_set N hi
  have AL : Hid (idT N N = matL N N dlt) := idT_all N
  have LO : Hid (∀ i, i < N → i * N + i < N * N) := fun i hi => row_lt hi hi
  generalize hn : N * N = n at *
  have e0 : decide ((N : Int) < 0) = false := decide_eq_false (by omega)
  have e1 : decide ((256 : Int) < (N : Int)) = false := decide_eq_false (by omega)
  have K0 := Lib.hid (kn1 w 24 #[.int .i64 0, .int .i64 0, .slice none 0 0])
  have HW := Lib.hid (below1 w (.cells #[.int .i64 0, .int .i64 0, .slice none 0 0] 24))
  go_enter Try.func14, Try.ntmps14
  go_wp2_with (go_at_call 25; (with_reducible refine (EM.out _).mono ?_); rintro e w2 ⟨g, rfl, ho2, hb2⟩; have K1 := Lib.hid (K0.out.below hb2); have HW1 := Lib.hid (HW.out.trans (hb2.mono HW.out.size)); have hg2 := own_some ho2; have HO2 := Lib.hid ho2; have hsz : w.heap.size + 1 ≤ g := (by have h9 := hg2.1; simp at h9; omega); clear hb2 ho2)
  have K2 := Lib.hid ((K1.out.alloc (.cells #[.int .i64 N, .int .i64 N, .slice (some ⟨g, 0, none⟩) n n] 24)).blk (Blk.new w2 #[.int .i64 N, .int .i64 N, .slice (some ⟨g, 0, none⟩) n n] 24))
  have ST0 : Hid (St w (w2.alloc (.cells #[.int .i64 N, .int .i64 N, .slice (some ⟨g, 0, none⟩) n n] 24)) (w.heap.size + 1) g n n (idT N 0) [(w2.heap.size, 24, #[.int .i64 N, .int .i64 N, .slice (some ⟨g, 0, none⟩) n n]), (w.heap.size, 24, #[.int .i64 0, .int .i64 0, .slice none 0 0])]) := ⟨K2.out, by have := HO2.out.alloc (.cells #[.int .i64 N, .int .i64 N, .slice (some ⟨g, 0, none⟩) n n] 24); rwa [Z.out, size_alloc'] at this, HW1.out.alloc HW1.out.size _⟩
  have NE : Hid (∀ x : Nat × TypeId × Array Value, x ∈ [(w2.heap.size, 24, #[.int .i64 N, .int .i64 N, .slice (some ⟨g, 0, none⟩) n n]), (w.heap.size, 24, #[.int .i64 0, .int .i64 0, .slice none 0 0])] → x.1 ≠ g) := fun x hx => by
    simp only [List.mem_cons, List.not_mem_nil, or_false] at hx
    rcases hx with rfl | rfl
    · show w2.heap.size ≠ g; omega
    · show w.heap.size ≠ g; omega
  clear K0 K1 K2 HO2 HW HW1 hg2
  go_loopw [17] (fun v wr => ∃ i : Nat, i ≤ N ∧ v = .int .i64 i ∧ St w wr (w.heap.size + 1) g n n (idT N i) [(w2.heap.size, 24, #[.int .i64 N, .int .i64 N, .slice (some ⟨g, 0, none⟩) n n]), (w.heap.size, 24, #[.int .i64 0, .int .i64 0, .slice none 0 0])]) (fun v _ => N - (intOf v).toNat)
  case atStart => exact ⟨0, Nat.zero_le _, rfl, ST0.out⟩
  case round =>
    clear ST0
    obtain ⟨i, hi, rfl, hst⟩ := hrel
    have ST := Lib.hid hst
    by_cases hlt : i < N
    · have p0 := (ST.out.kn.at (.head _)).cell 0; have p1 := (ST.out.kn.at (.head _)).cell 1; have p2 := (ST.out.kn.at (.head _)).cell 2; simp only [List.getElem?_toArray, List.getElem?_cons_succ, List.getElem?_cons_zero] at p0 p1 p2
      have hlo := LO.out i hlt
      have c1 : (i : Int) * (N : Int) = ((i * N : Nat) : Int) := by simp
      have w1 : IntKind.i64.wrap ((i : Int) * (N : Int)) = ((i * N : Nat) : Int) := by rw [c1, IntKind.wrap_i64]; omega
      have hset := hst.set (i * N + i) 1 NE.out (by omega)
      rw [SE.out i hlt] at hset
      have hfz := hst.own.frozenAt (i * N + i)
      have hcl := hst.own.cellAt (i * N + i) (by omega)
      rw [getElem?_bv (by rw [LM.out]; exact hlo)] at hcl
      have HS := Lib.hid hset
      clear hst hset c1
      generalize (idT N i).getD (i * N + i) 0 = old at *
      generalize i * N = lo at *
      go_wp2
      go_roundw
      case rel => exact ⟨i + 1, by omega, by go_num, HS.out⟩
      case measure => simp [intOf]; omega
    · have hie : i = N := by omega
      subst hie
      clear hst
      have p0 := (ST.out.kn.at (.head _)).cell 0; have p1 := (ST.out.kn.at (.head _)).cell 1; have p2 := (ST.out.kn.at (.head _)).cell 2; simp only [List.getElem?_toArray, List.getElem?_cons_succ, List.getElem?_cons_zero] at p0 p1 p2; have q0 := (ST.out.kn.at (.tail _ (.head _))).cell 0; have q1 := (ST.out.kn.at (.tail _ (.head _))).cell 1; have q2 := (ST.out.kn.at (.tail _ (.head _))).cell 2; have qz0 := (ST.out.kn.at (.tail _ (.head _))).frozen 0; have qz1 := (ST.out.kn.at (.tail _ (.head _))).frozen 1; have qz2 := (ST.out.kn.at (.tail _ (.head _))).frozen 2; simp only [List.getElem?_toArray, List.getElem?_cons_succ, List.getElem?_cons_zero] at q0 q1 q2
      go_wp2
      have hfin := ((ST.out.kn.at (.tail _ (.head _))).set 0 (.int .i64 (i : Int))).set 1 (.int .i64 (i : Int)) |>.set 2 (.slice (some ⟨g, 0, none⟩) n n)
      have h3 := hfin.cell 0
      have h4 := hfin.cell 1
      have h5 := hfin.cell 2
      simp only [List.getElem?_toArray, List.getElem?_cons_succ, List.getElem?_cons_zero, List.setIfInBounds_toArray, List.set_cons_zero, List.set_cons_succ] at h3 h4 h5
      refine bodyPost_ret (v := .tuple #[matV i i (some ⟨g, 0, none⟩) n n, .int .i64 0]) ?_ rfl ?_
      · rw [results_cell_tmp rfl]
        go_simp
      · have hle : w.heap.size ≤ w.heap.size := by omega
        have hs := ST.out
        rw [AL.out] at hs
        have NE2 := own_ne_blk hs.own (hs.kn.at (.tail _ (.head _))) (by decide)
        refine ⟨_, _, rfl, own_mono (ownsRow_setCell_other (ownsRow_setCell_other (ownsRow_setCell_other hs.own NE2 _) NE2 _) NE2 _) (by omega), ((hs.bel.setCell hle _).setCell hle _).setCell hle _⟩
end Go.Proofs.Ytbepadepepoilaa
