/- aumbryref03.Mul, walked. -/
import Derived.Test.YtbepadepepoilaaR3a
import Derived.Deep.CutRange
namespace Go.Proofs.Ytbepadepepoilaa
open Go.RowKit
set_option linter.unusedVariables false
set_option linter.unusedSimpArgs false
def ent (R C : Nat) (h : Mx) (r c : Nat) : List F := matL R C fun i j => if i < r ∨ i = r ∧ j < c then h i j else 0
theorem length_ent (R C : Nat) (h : Mx) (r c : Nat) : (ent R C h r c).length = R * C := length_matL _ _ _
theorem ent_zero (R C : Nat) (h : Mx) : (matL R C fun _ _ => 0) = ent R C h 0 0 := matL_congr fun i j _ _ => by rw [if_neg (by omega)]
theorem ent_row (R C : Nat) (h : Mx) (r : Nat) : ent R C h r C = ent R C h (r + 1) 0 := matL_congr fun i j _ hj => by
  by_cases e : i < r ∨ i = r
  · rw [if_pos (by omega), if_pos (by omega)]
  · rw [if_neg (by omega), if_neg (by omega)]
theorem ent_all (R C : Nat) (h : Mx) : ent R C h R 0 = matL R C h := matL_congr fun i j hi _ => by rw [if_pos (.inl hi)]
theorem ent_set (R C : Nat) (h : Mx) {r c : Nat} (hr : r < R) (hc : c < C) : (ent R C h r c).set (r * C + c) (h r c) = ent R C h r (c + 1) := by
  rw [ent, matL_set _ hr hc]
  refine matL_congr fun i j _ _ => ?_
  by_cases e : i = r ∧ j = c
  · obtain ⟨rfl, rfl⟩ := e
    rw [if_pos ⟨rfl, rfl⟩, if_pos (by omega)]
  · rw [if_neg e]
    by_cases e2 : i < r ∨ i = r ∧ j < c
    · rw [if_pos e2, if_pos (by omega)]
    · rw [if_neg e2, if_neg (by omega)]
theorem make_run (w : World) (N : Nat) (hN : N ≤ 140737488351232) :
    ∃ w', Sem.run Try.prog (Instr.makeSlice 22 (.int .i64 (N : Int)) (.int .i64 (N : Int))) w = .ok (.slice (some ⟨w.heap.size, 0, none⟩) N N) w' ∧ w'.ownsRow w.heap.size 5 1 (.slice (some ⟨w.heap.size, 0, none⟩) N N) N ((List.replicate N (0 : F)).map bv) ∧ Below w.heap.size w w' := by
  obtain ⟨i0, hi0, hz0, hz1, hz2⟩ := info_parts info_byte
  obtain ⟨w', hrun, r1, r2⟩ := run_make_full (P := Try.prog) w w.heap.size 22 5 i0 _ 1 Try.underlying22 hi0 hz0 hz1 .i64 .i64 N (by rw [hz2]; omega) (by unfold maxLen; omega) (Nat.le_refl _)
  exact ⟨w', hrun, zeros_own r1, (Below.refl _ _).grown r2 (Nat.le_refl _) (by simp)⟩
set_option maxRecDepth 1000000 in
set_option maxHeartbeats 4000000 in
theorem ref03_mul (R K C : Nat) (A1 : Option Addr) (c1 : Nat) (f : Mx) (A2 : Option Addr) (c2 : Nat) (g' : Mx) (w : World) (hR : R ≤ 256) (hK : K ≤ 256) (hC : C ≤ 256) (ha : Bs w A1 c1 (matL R K f)) (hb : Bs w A2 c2 (matL K C g')) :
    Calls Try.prog 9 #[matV R K A1 (R * K) c1, matV K C A2 (K * C) c2] w fun e w' => ∃ A' c', e = .returned (.tuple #[matV R C A' (R * C) c', .int .i64 0]) ∧ w'.ownsRow w.heap.size 5 1 (.slice A' (R * C) c') (R * C) ((matL R C (mmul K f g')).map bv) ∧ Below w.heap.size w w' := by
  have HA := Lib.hid ha
  have HB := Lib.hid hb
  have C1 : Hid (∀ w, Calls Try.prog 18 #[matV R K A1 (R * K) c1] w fun e w' => e = .returned (.int .i64 0) ∧ Below w.heap.size w w') := fun w => ref03_check_ok R K A1 (R * K) c1 ⟨by omega, by omega, by omega, by omega, by simp⟩ w
  have C2 : Hid (∀ w, Calls Try.prog 18 #[matV K C A2 (K * C) c2] w fun e w' => e = .returned (.int .i64 0) ∧ Below w.heap.size w w') := fun w => ref03_check_ok K C A2 (K * C) c2 ⟨by omega, by omega, by omega, by omega, by simp⟩ w
  have hnR : R * C ≤ 65536 := Nat.mul_le_mul hR hC
  have hnA : R * K ≤ 65536 := Nat.mul_le_mul hR hK
  have hnB : K * C ≤ 65536 := Nat.mul_le_mul hK hC
  have LM : Hid (∀ r c, (ent R C (mmul K f g') r c).length = R * C) := fun r c => length_ent _ _ _ _ _
  have LA : Hid ((matL R K f).length = R * K) := length_matL _ _ _
  have LB : Hid ((matL K C g').length = K * C) := length_matL _ _ _
  have LO : Hid (∀ r c, r < R → c < C → r * C + c < R * C) := fun r c hr hc => row_lt hr hc
  have LOA : Hid (∀ r i, r < R → i < K → r * K + i < R * K ∧ (matL R K f).getD (r * K + i) 0 = f r i) := fun r i hr hi => ⟨row_lt hr hi, getD_matL f hr hi⟩
  have LOB : Hid (∀ i c, i < K → c < C → i * C + c < K * C ∧ (matL K C g').getD (i * C + c) 0 = g' i c) := fun i c hi hc => ⟨row_lt hi hc, getD_matL g' hi hc⟩
  have M0 : Hid ((List.replicate (R * C) (0 : F)).map bv = (ent R C (mmul K f g') 0 0).map bv) := by show _ = _; rw [rep_matL R C _ rfl, ent_zero R C (mmul K f g')]
  have M1 : Hid (∀ r, ent R C (mmul K f g') r C = ent R C (mmul K f g') (r + 1) 0) := fun r => ent_row _ _ _ _
  have M2 : Hid (ent R C (mmul K f g') R 0 = matL R C (mmul K f g')) := ent_all _ _ _
  have M3 : Hid (∀ r c, r < R → c < C → (ent R C (mmul K f g') r c).set (r * C + c) (sumF K fun t => f r t * g' t c) = ent R C (mmul K f g') r (c + 1)) := fun r c hr hc => ent_set R C (mmul K f g') hr hc
  have cn : (R : Int) * (C : Int) = ((R * C : Nat) : Int) := by simp
  have wn : IntKind.i64.wrap ((R : Int) * (C : Int)) = ((R * C : Nat) : Int) := by rw [cn, IntKind.wrap_i64]; omega
  have dk : ((K : Int) != (K : Int)) = false := by rw [bne_self_eq_false]
  clear ha hb cn
  generalize hn : R * C = n at *
  generalize hn1 : R * K = n1 at *
  generalize hn2 : K * C = n2 at *
  generalize matL R C (mmul K f g') = out at *
  generalize ent R C (mmul K f g') = en at *
  generalize matL R K f = l1 at *
  generalize matL K C g' = l2 at *
  have K0 := Lib.hid (kn3 w 24 24 24 #[.int .i64 R, .int .i64 K, .slice A1 n1 c1] #[.int .i64 K, .int .i64 C, .slice A2 n2 c2] #[.int .i64 0, .int .i64 0, .slice none 0 0])
  have HW := Lib.hid (below3 w (.cells #[.int .i64 R, .int .i64 K, .slice A1 n1 c1] 24) (.cells #[.int .i64 K, .int .i64 C, .slice A2 n2 c2] 24) (.cells #[.int .i64 0, .int .i64 0, .slice none 0 0] 24))
  go_enter Try.func9, Try.ntmps9
  go_upto_region 3 with (first
    | (go_at_call 18; (with_reducible refine (C1.out _).mono ?_); rintro e w1 ⟨rfl, hb1⟩; have K1 := Lib.hid (K0.out.below hb1); have HW1 := Lib.hid (HW.out.trans (hb1.mono HW.out.size)); clear hb1; have p0 := (K1.out.at (.head _)).cell 0; have p1 := (K1.out.at (.head _)).cell 1; have p2 := (K1.out.at (.head _)).cell 2; simp only [List.getElem?_toArray, List.getElem?_cons_succ, List.getElem?_cons_zero] at p0 p1 p2; have q0 := (K1.out.at (.tail _ (.head _))).cell 0; have q1 := (K1.out.at (.tail _ (.head _))).cell 1; have q2 := (K1.out.at (.tail _ (.head _))).cell 2; simp only [List.getElem?_toArray, List.getElem?_cons_succ, List.getElem?_cons_zero] at q0 q1 q2)
    | (go_at_call 18; (with_reducible refine (C2.out _).mono ?_); rintro e w2 ⟨rfl, hb2⟩; have K2 := Lib.hid (K1.out.below hb2); have HW2 := Lib.hid (HW1.out.trans (hb2.mono HW1.out.size)); clear hb2; clear p0 p1 p2; clear q0 q1 q2; have p0 := (K2.out.at (.head _)).cell 0; have p1 := (K2.out.at (.head _)).cell 1; have p2 := (K2.out.at (.head _)).cell 2; simp only [List.getElem?_toArray, List.getElem?_cons_succ, List.getElem?_cons_zero] at p0 p1 p2; have q0 := (K2.out.at (.tail _ (.head _))).cell 0; have q1 := (K2.out.at (.tail _ (.head _))).cell 1; have q2 := (K2.out.at (.tail _ (.head _))).cell 2; simp only [List.getElem?_toArray, List.getElem?_cons_succ, List.getElem?_cons_zero] at q0 q1 q2))
  clear K0 K1 HW HW1
  obtain ⟨wA, hA, oA, bA⟩ := make_run w2.drew n (by omega)
  obtain ⟨wB, hB, oB, bB⟩ := make_run (w2.drew.alloc (.cells #[.int .i64 0, .int .i64 0, .slice none 0 0] 24)) n (by omega)
  rw [size_alloc'] at hB oB
  have KA := Lib.hid ((K2.out.drewN 1).below bA)
  have KB := Lib.hid (((K2.out.drewN 1).alloc _).below bB)
  have HMB : Hid (Blk wB w2.heap.size 24 #[.int .i64 0, .int .i64 0, .slice none 0 0]) := (Blk.new w2.drew #[.int .i64 0, .int .i64 0, .slice none 0 0] 24).below bB
  have OA : Hid (wA.ownsRow w2.heap.size 5 1 (.slice (some ⟨w2.heap.size, 0, none⟩) n n) n ((List.replicate n (0 : F)).map bv)) := oA
  have OB : Hid (wB.ownsRow (w2.heap.size + 1) 5 1 (.slice (some ⟨w2.heap.size + 1, 0, none⟩) n n) n ((List.replicate n (0 : F)).map bv)) := oB
  have BA_ : Hid (Below w2.heap.size w2 wA) := (below_drewN (Below.refl _ w2) 1).trans bA
  have BB_ : Hid (Below w2.heap.size w2 wB) := ((below_drewN (Below.refl _ w2) 1).trans (below_alloc _ _)).trans (bB.mono (by rw [size_alloc']; exact Nat.le_succ _))
  have hA' : Sem.run Try.prog (Instr.makeSlice 22 (.int .i64 (n : Int)) (.int .i64 (n : Int))) w2.drew = .ok (.slice (some ⟨w2.heap.size, 0, none⟩) n n) wA := hA
  have hB' : Sem.run Try.prog (Instr.makeSlice 22 (.int .i64 (n : Int)) (.int .i64 (n : Int))) (w2.alloc (.cells #[.int .i64 0, .int .i64 0, .slice none 0 0] 24)).drew = .ok (.slice (some ⟨w2.heap.size + 1, 0, none⟩) n n) wB := hB
  clear hA hB oA oB bA bB
  have KC := Lib.hid (K2.out.alloc (.cells #[.int .i64 0, .int .i64 0, .slice none 0 0] 24))
  have pc0 := (KC.out.at (.head _)).cell 0; have pc1 := (KC.out.at (.head _)).cell 1; have pc2 := (KC.out.at (.head _)).cell 2; simp only [List.getElem?_toArray, List.getElem?_cons_succ, List.getElem?_cons_zero] at pc0 pc1 pc2; have qc0 := (KC.out.at (.tail _ (.head _))).cell 0; have qc1 := (KC.out.at (.tail _ (.head _))).cell 1; have qc2 := (KC.out.at (.tail _ (.head _))).cell 2; simp only [List.getElem?_toArray, List.getElem?_cons_succ, List.getElem?_cons_zero] at qc0 qc1 qc2
  have KE := Lib.hid (KA.out.alloc (.cells #[.int .i64 0, .int .i64 0, .slice none 0 0] 24))
  have pe0 := (KE.out.at (.head _)).cell 0; have pe1 := (KE.out.at (.head _)).cell 1; have pe2 := (KE.out.at (.head _)).cell 2; simp only [List.getElem?_toArray, List.getElem?_cons_succ, List.getElem?_cons_zero] at pe0 pe1 pe2; have qe0 := (KE.out.at (.tail _ (.head _))).cell 0; have qe1 := (KE.out.at (.tail _ (.head _))).cell 1; have qe2 := (KE.out.at (.tail _ (.head _))).cell 2; simp only [List.getElem?_toArray, List.getElem?_cons_succ, List.getElem?_cons_zero] at qe0 qe1 qe2
  have pa0 := (KA.out.at (.head _)).cell 0; have pa1 := (KA.out.at (.head _)).cell 1; have pa2 := (KA.out.at (.head _)).cell 2; simp only [List.getElem?_toArray, List.getElem?_cons_succ, List.getElem?_cons_zero] at pa0 pa1 pa2; have qa0 := (KA.out.at (.tail _ (.head _))).cell 0; have qa1 := (KA.out.at (.tail _ (.head _))).cell 1; have qa2 := (KA.out.at (.tail _ (.head _))).cell 2; simp only [List.getElem?_toArray, List.getElem?_cons_succ, List.getElem?_cons_zero] at qa0 qa1 qa2
  have pb0 := (KB.out.at (.head _)).cell 0; have pb1 := (KB.out.at (.head _)).cell 1; have pb2 := (KB.out.at (.head _)).cell 2; simp only [List.getElem?_toArray, List.getElem?_cons_succ, List.getElem?_cons_zero] at pb0 pb1 pb2; have qb0 := (KB.out.at (.tail _ (.head _))).cell 0; have qb1 := (KB.out.at (.tail _ (.head _))).cell 1; have qb2 := (KB.out.at (.tail _ (.head _))).cell 2; simp only [List.getElem?_toArray, List.getElem?_cons_succ, List.getElem?_cons_zero] at qb0 qb1 qb2
  have m0 := HMB.out.cell 0; have m1 := HMB.out.cell 1; have m2 := HMB.out.cell 2; have mz0 := HMB.out.frozen 0; have mz1 := HMB.out.frozen 1; have mz2 := HMB.out.frozen 2; simp only [List.getElem?_toArray, List.getElem?_cons_succ, List.getElem?_cons_zero] at m0 m1 m2
  have l0 := K2.out.lt (.head _)
  have l1 := K2.out.lt (.tail _ (.head _))
  have l2 := K2.out.lt (.tail _ (.tail _ (.head _)))
  have gA := own_some OA.out
  have hw2 := HW2.out.size
  have NEA : Hid (∀ x : Nat × TypeId × Array Value, x ∈ [(wA.heap.size, 24, #[.int .i64 R, .int .i64 C, .slice (some ⟨w2.heap.size, 0, none⟩) n n]), (w.heap.size, 24, #[.int .i64 R, .int .i64 K, .slice A1 n1 c1]), (w.heap.size + 1, 24, #[.int .i64 K, .int .i64 C, .slice A2 n2 c2]), (w.heap.size + 2, 24, #[.int .i64 0, .int .i64 0, .slice none 0 0])] → x.1 ≠ w2.heap.size) := fun x hx => by
    simp only [List.mem_cons, List.not_mem_nil, or_false] at hx
    rcases hx with rfl | rfl | rfl | rfl
    · show wA.heap.size ≠ w2.heap.size; omega
    · show w.heap.size ≠ w2.heap.size; omega
    · show w.heap.size + 1 ≠ w2.heap.size; omega
    · show w.heap.size + 2 ≠ w2.heap.size; omega
  have NEB : Hid (∀ x : Nat × TypeId × Array Value, x ∈ [(w2.heap.size, 24, #[.int .i64 R, .int .i64 C, .slice (some ⟨w2.heap.size + 1, 0, none⟩) n n]), (w.heap.size, 24, #[.int .i64 R, .int .i64 K, .slice A1 n1 c1]), (w.heap.size + 1, 24, #[.int .i64 K, .int .i64 C, .slice A2 n2 c2]), (w.heap.size + 2, 24, #[.int .i64 0, .int .i64 0, .slice none 0 0])] → x.1 ≠ w2.heap.size + 1) := fun x hx => by
    simp only [List.mem_cons, List.not_mem_nil, or_false] at hx
    rcases hx with rfl | rfl | rfl | rfl
    · show w2.heap.size ≠ w2.heap.size + 1; omega
    · show w.heap.size ≠ w2.heap.size + 1; omega
    · show w.heap.size + 1 ≠ w2.heap.size + 1; omega
    · show w.heap.size + 2 ≠ w2.heap.size + 1; omega
  have GA : Hid (St w (wA.alloc (.cells #[.int .i64 R, .int .i64 C, .slice (some ⟨w2.heap.size, 0, none⟩) n n] 24)) w2.heap.size w2.heap.size n n (en 0 0) [(wA.heap.size, 24, #[.int .i64 R, .int .i64 C, .slice (some ⟨w2.heap.size, 0, none⟩) n n]), (w.heap.size, 24, #[.int .i64 R, .int .i64 K, .slice A1 n1 c1]), (w.heap.size + 1, 24, #[.int .i64 K, .int .i64 C, .slice A2 n2 c2]), (w.heap.size + 2, 24, #[.int .i64 0, .int .i64 0, .slice none 0 0])]) := ⟨(KA.out.alloc _).blk (Blk.new wA #[.int .i64 R, .int .i64 C, .slice (some ⟨w2.heap.size, 0, none⟩) n n] 24), by have := OA.out.alloc (.cells #[.int .i64 R, .int .i64 C, .slice (some ⟨w2.heap.size, 0, none⟩) n n] 24); rwa [M0.out] at this, (HW2.out.trans (BA_.out.mono hw2)).alloc (HW2.out.trans (BA_.out.mono hw2)).size _⟩
  have GB : Hid (St w (((wB.setCell ⟨w2.heap.size, 0, none⟩ (.int .i64 R)).setCell ⟨w2.heap.size, 1, none⟩ (.int .i64 C)).setCell ⟨w2.heap.size, 2, none⟩ (.slice (some ⟨w2.heap.size + 1, 0, none⟩) n n)) w2.heap.size (w2.heap.size + 1) n n (en 0 0) [(w2.heap.size, 24, #[.int .i64 R, .int .i64 C, .slice (some ⟨w2.heap.size + 1, 0, none⟩) n n]), (w.heap.size, 24, #[.int .i64 R, .int .i64 K, .slice A1 n1 c1]), (w.heap.size + 1, 24, #[.int .i64 K, .int .i64 C, .slice A2 n2 c2]), (w.heap.size + 2, 24, #[.int .i64 0, .int .i64 0, .slice none 0 0])]) := by
    have hbs := (((Beside.refl w2.heap.size wB).setCell 0 (.int .i64 R)).setCell 1 (.int .i64 C)).setCell 2 (.slice (some ⟨w2.heap.size + 1, 0, none⟩) n n)
    have hk := KB.out.beside hbs (fun b e => by cases e) (fun x hx => by
      simp only [List.mem_cons, List.not_mem_nil, or_false] at hx
      rcases hx with rfl | rfl | rfl
      · show w.heap.size ≠ w2.heap.size; omega
      · show w.heap.size + 1 ≠ w2.heap.size; omega
      · show w.heap.size + 2 ≠ w2.heap.size; omega) (fun x hx => by cases hx)
    have hm := ((HMB.out.set 0 (.int .i64 R)).set 1 (.int .i64 C)).set 2 (.slice (some ⟨w2.heap.size + 1, 0, none⟩) n n)
    have NE2 := own_ne_blk OB.out HMB.out (by decide)
    have ho := OB.out
    rw [M0.out] at ho
    exact ⟨hk.blk hm, own_mono (ownsRow_setCell_other (ownsRow_setCell_other (ownsRow_setCell_other ho NE2 _) NE2 _) NE2 _) (Nat.le_succ _), ((((HW2.out.trans (BB_.out.mono hw2)).setCell hw2 _).setCell hw2 _).setCell hw2 _)⟩
  clear gA l0 l1 l2
  go_cut [6] from 27 to 37 (fun p wx => ∃ g mb : Nat, p = .pointer (some ⟨mb, 0, none⟩) ∧ w.heap.size ≤ g ∧ (∀ x : Nat × TypeId × Array Value, x ∈ [(mb, 24, #[.int .i64 R, .int .i64 C, .slice (some ⟨g, 0, none⟩) n n]), (w.heap.size, 24, #[.int .i64 R, .int .i64 K, .slice A1 n1 c1]), (w.heap.size + 1, 24, #[.int .i64 K, .int .i64 C, .slice A2 n2 c2]), (w.heap.size + 2, 24, #[.int .i64 0, .int .i64 0, .slice none 0 0])] → x.1 ≠ g) ∧ St w wx w2.heap.size g n n (en 0 0) [(mb, 24, #[.int .i64 R, .int .i64 C, .slice (some ⟨g, 0, none⟩) n n]), (w.heap.size, 24, #[.int .i64 R, .int .i64 K, .slice A1 n1 c1]), (w.heap.size + 1, 24, #[.int .i64 K, .int .i64 C, .slice A2 n2 c2]), (w.heap.size + 2, 24, #[.int .i64 0, .int .i64 0, .slice none 0 0])])
  case first =>
    go_region
    all_goals (go_wp2_with fail; go_meet; first | exact ⟨w2.heap.size, wA.heap.size, rfl, hw2, NEA.out, GA.out⟩ | exact ⟨w2.heap.size + 1, w2.heap.size, rfl, Nat.le_succ_of_le hw2, NEB.out, GB.out⟩)
  case rest =>
  clear GA GB NEA NEB KE pe0 pe1 pe2 qe0 qe1 qe2 KC pc0 pc1 pc2 qc0 qc1 qc2 p0 p1 p2 q0 q1 q2 pa0 pa1 pa2 qa0 qa1 qa2 pb0 pb1 pb2 qb0 qb1 qb2 m0 m1 m2 mz0 mz1 mz2 KA KB HMB OA OB BA_ BB_ hA' hB'
  obtain ⟨g, mb, rfl, hgw, hne, hst0⟩ := hcut
  have NE := Lib.hid hne
  have ST0 := Lib.hid hst0
  clear hne hst0 K2 HW2
  go_wp2
  go_loopw [7] (fun v wr => ∃ r : Nat, r ≤ R ∧ v = .int .i64 r ∧ St w wr w2.heap.size g n n (en r 0) [(mb, 24, #[.int .i64 R, .int .i64 C, .slice (some ⟨g, 0, none⟩) n n]), (w.heap.size, 24, #[.int .i64 R, .int .i64 K, .slice A1 n1 c1]), (w.heap.size + 1, 24, #[.int .i64 K, .int .i64 C, .slice A2 n2 c2]), (w.heap.size + 2, 24, #[.int .i64 0, .int .i64 0, .slice none 0 0])]) (fun v _ => R - (intOf v).toNat)
  case atStart => exact ⟨0, Nat.zero_le _, rfl, ST0.out⟩
  case round =>
    clear ST0
    obtain ⟨r, hr, rfl, hst⟩ := hrel
    have ST := Lib.hid hst
    clear hst
    have p0 := (ST.out.kn.at (.head _)).cell 0; have p1 := (ST.out.kn.at (.head _)).cell 1; have p2 := (ST.out.kn.at (.head _)).cell 2; simp only [List.getElem?_toArray, List.getElem?_cons_succ, List.getElem?_cons_zero] at p0 p1 p2; have q0 := (ST.out.kn.at (.tail _ (.head _))).cell 0; have q1 := (ST.out.kn.at (.tail _ (.head _))).cell 1; have q2 := (ST.out.kn.at (.tail _ (.head _))).cell 2; simp only [List.getElem?_toArray, List.getElem?_cons_succ, List.getElem?_cons_zero] at q0 q1 q2; have s0 := (ST.out.kn.at (.tail _ (.tail _ (.head _)))).cell 0; have s1 := (ST.out.kn.at (.tail _ (.tail _ (.head _)))).cell 1; have s2 := (ST.out.kn.at (.tail _ (.tail _ (.head _)))).cell 2; simp only [List.getElem?_toArray, List.getElem?_cons_succ, List.getElem?_cons_zero] at s0 s1 s2
    by_cases hlt : r < R
    · go_wp2
      clear p0 p1 p2; clear q0 q1 q2; clear s0 s1 s2
      go_loopw [8] (fun v wr => ∃ c : Nat, c ≤ C ∧ v = .int .i64 c ∧ St w wr w2.heap.size g n n (en r c) [(mb, 24, #[.int .i64 R, .int .i64 C, .slice (some ⟨g, 0, none⟩) n n]), (w.heap.size, 24, #[.int .i64 R, .int .i64 K, .slice A1 n1 c1]), (w.heap.size + 1, 24, #[.int .i64 K, .int .i64 C, .slice A2 n2 c2]), (w.heap.size + 2, 24, #[.int .i64 0, .int .i64 0, .slice none 0 0])]) (fun v _ => C - (intOf v).toNat)
      case atStart => exact ⟨0, Nat.zero_le _, rfl, ST.out⟩
      case round =>
        rename World => wi
        clear ST
        obtain ⟨c, hc, rfl, hst⟩ := hrel
        have ST := Lib.hid hst
        clear hst
        have p0 := (ST.out.kn.at (.head _)).cell 0; have p1 := (ST.out.kn.at (.head _)).cell 1; have p2 := (ST.out.kn.at (.head _)).cell 2; simp only [List.getElem?_toArray, List.getElem?_cons_succ, List.getElem?_cons_zero] at p0 p1 p2; have q0 := (ST.out.kn.at (.tail _ (.head _))).cell 0; have q1 := (ST.out.kn.at (.tail _ (.head _))).cell 1; have q2 := (ST.out.kn.at (.tail _ (.head _))).cell 2; simp only [List.getElem?_toArray, List.getElem?_cons_succ, List.getElem?_cons_zero] at q0 q1 q2; have s0 := (ST.out.kn.at (.tail _ (.tail _ (.head _)))).cell 0; have s1 := (ST.out.kn.at (.tail _ (.tail _ (.head _)))).cell 1; have s2 := (ST.out.kn.at (.tail _ (.tail _ (.head _)))).cell 2; simp only [List.getElem?_toArray, List.getElem?_cons_succ, List.getElem?_cons_zero] at s0 s1 s2
        by_cases hlc : c < C
        · go_wp2
          clear p0 p1 p2; clear q0 q1 q2; clear s0 s1 s2
          go_loopw [9, 10] (fun u v wr => ∃ i : Nat, i ≤ K ∧ v = .int .i64 i ∧ u = .int .u8 (sumF i fun t => f r t * g' t c).n ∧ St w wr w2.heap.size g n n (en r c) [(mb, 24, #[.int .i64 R, .int .i64 C, .slice (some ⟨g, 0, none⟩) n n]), (w.heap.size, 24, #[.int .i64 R, .int .i64 K, .slice A1 n1 c1]), (w.heap.size + 1, 24, #[.int .i64 K, .int .i64 C, .slice A2 n2 c2]), (w.heap.size + 2, 24, #[.int .i64 0, .int .i64 0, .slice none 0 0])]) (fun _ v _ => K - (intOf v).toNat)
          case atStart => exact ⟨0, Nat.zero_le _, rfl, rfl, ST.out⟩
          case round =>
            rename World => wj
            clear ST
            obtain ⟨i, hi, rfl, rfl, hst⟩ := hrel
            have ST := Lib.hid hst
            clear hst
            have p0 := (ST.out.kn.at (.head _)).cell 0; have p1 := (ST.out.kn.at (.head _)).cell 1; have p2 := (ST.out.kn.at (.head _)).cell 2; simp only [List.getElem?_toArray, List.getElem?_cons_succ, List.getElem?_cons_zero] at p0 p1 p2; have q0 := (ST.out.kn.at (.tail _ (.head _))).cell 0; have q1 := (ST.out.kn.at (.tail _ (.head _))).cell 1; have q2 := (ST.out.kn.at (.tail _ (.head _))).cell 2; simp only [List.getElem?_toArray, List.getElem?_cons_succ, List.getElem?_cons_zero] at q0 q1 q2; have s0 := (ST.out.kn.at (.tail _ (.tail _ (.head _)))).cell 0; have s1 := (ST.out.kn.at (.tail _ (.tail _ (.head _)))).cell 1; have s2 := (ST.out.kn.at (.tail _ (.tail _ (.head _)))).cell 2; simp only [List.getElem?_toArray, List.getElem?_cons_succ, List.getElem?_cons_zero] at s0 s1 s2
            by_cases hli : i < K
            · obtain ⟨ha1, ha2⟩ := LOA.out r i hlt hli
              obtain ⟨hb1, hb2⟩ := LOB.out i c hli hlc
              obtain ⟨b1, o1, h1, _, hc1⟩ := Bs.at' (HA.out.below ST.out.bel) (by rw [LA.out]; omega)
              obtain ⟨b2, o2, h2, _, hc2⟩ := Bs.at' (HB.out.below ST.out.bel) (by rw [LB.out]; omega)
              have y1 := hc1 (r * K + i) (by rw [LA.out]; exact ha1)
              have y2 := hc2 (i * C + c) (by rw [LB.out]; exact hb1)
              rw [ha2] at y1
              rw [hb2] at y2
              subst h1
              subst h2
              have e1 : (r : Int) * (K : Int) = ((r * K : Nat) : Int) := by simp
              have e2 : (i : Int) * (C : Int) = ((i * C : Nat) : Int) := by simp
              have w1 : IntKind.i64.wrap ((r : Int) * (K : Int)) = ((r * K : Nat) : Int) := by rw [e1, IntKind.wrap_i64]; omega
              have w2 : IntKind.i64.wrap ((i : Int) * (C : Int)) = ((i * C : Nat) : Int) := by rw [e2, IntKind.wrap_i64]; omega
              have HSU : Hid ((sumF (i + 1) fun t => f r t * g' t c) = (sumF i fun t => f r t * g' t c) + f r i * g' i c) := sumF_succ _ _
              clear e1 e2 hc1 hc2 ha2 hb2
              generalize r * K = rk at *
              generalize i * C = ic at *
              generalize (sumF i fun t => f r t * g' t c) = acc at *
              generalize f r i = x at *
              generalize g' i c = y at *
              have hxor := xor_n acc (x * y)
              go_wp2
              go_quiet ((go_at_call 28; exact Calls.quiet_of_same ((ref_mul _ _ _).mono fun e w' h => ⟨h.1, h.2.symm⟩)))
              go_wp2
              go_roundw
              case rel => exact ⟨i + 1, by omega, by go_num, by rw [HSU.out], ST.out.drewN _⟩
              case measure => simp [intOf]; omega
            · have hie : K = i := by omega
              subst hie
              have hlo := LO.out r c hlt hlc
              have e1 : (r : Int) * (C : Int) = ((r * C : Nat) : Int) := by simp
              have w1 : IntKind.i64.wrap ((r : Int) * (C : Int)) = ((r * C : Nat) : Int) := by rw [e1, IntKind.wrap_i64]; omega
              have hset := ST.out.set (r * C + c) (sumF K fun t => f r t * g' t c) NE.out hgw
              rw [M3.out r c hlt hlc] at hset
              have hfz := ST.out.own.frozenAt (r * C + c)
              have hcl := ST.out.own.cellAt (r * C + c) (by omega)
              rw [getElem?_bv (by rw [LM.out]; exact hlo)] at hcl
              have HS := Lib.hid hset
              clear hset e1
              generalize (en r c).getD (r * C + c) 0 = old at *
              generalize r * C = lo at *
              generalize (sumF K fun t => f r t * g' t c) = acc at *
              go_wp2
              go_roundw
              case rel => exact ⟨c + 1, by omega, by go_num, HS.out⟩
              case measure => simp [intOf]; omega
        · have hce : C = c := by omega
          subst hce
          go_wp2
          go_roundw
          case rel => exact ⟨r + 1, by omega, by go_num, by rw [← M1.out r]; exact ST.out⟩
          case measure => simp [intOf]; omega
    · have hre : R = r := by omega
      subst hre
      clear p0 p1 p2; clear q0 q1 q2; clear s0 s1 s2
      have s0 := (ST.out.kn.at (.tail _ (.head _))).cell 0; have s1 := (ST.out.kn.at (.tail _ (.head _))).cell 1; have s2 := (ST.out.kn.at (.tail _ (.head _))).cell 2; simp only [List.getElem?_toArray, List.getElem?_cons_succ, List.getElem?_cons_zero] at s0 s1 s2; have p0 := (ST.out.kn.at (.head _)).cell 0; have p1 := (ST.out.kn.at (.head _)).cell 1; have p2 := (ST.out.kn.at (.head _)).cell 2; simp only [List.getElem?_toArray, List.getElem?_cons_succ, List.getElem?_cons_zero] at p0 p1 p2; have q0 := (ST.out.kn.at (.tail _ (.tail _ (.tail _ (.head _))))).cell 0; have q1 := (ST.out.kn.at (.tail _ (.tail _ (.tail _ (.head _))))).cell 1; have q2 := (ST.out.kn.at (.tail _ (.tail _ (.tail _ (.head _))))).cell 2; have qz0 := (ST.out.kn.at (.tail _ (.tail _ (.tail _ (.head _))))).frozen 0; have qz1 := (ST.out.kn.at (.tail _ (.tail _ (.tail _ (.head _))))).frozen 1; have qz2 := (ST.out.kn.at (.tail _ (.tail _ (.tail _ (.head _))))).frozen 2; simp only [List.getElem?_toArray, List.getElem?_cons_succ, List.getElem?_cons_zero] at q0 q1 q2
      go_wp2
      have hfin := ((ST.out.kn.at (.tail _ (.tail _ (.tail _ (.head _))))).set 0 (.int .i64 (R : Int))).set 1 (.int .i64 (C : Int)) |>.set 2 (.slice (some ⟨g, 0, none⟩) n n)
      have h3 := hfin.cell 0
      have h4 := hfin.cell 1
      have h5 := hfin.cell 2
      simp only [List.getElem?_toArray, List.getElem?_cons_succ, List.getElem?_cons_zero, List.setIfInBounds_toArray, List.set_cons_zero, List.set_cons_succ] at h3 h4 h5
      refine bodyPost_ret (v := .tuple #[matV R C (some ⟨g, 0, none⟩) n n, .int .i64 0]) ?_ rfl ?_
      · rw [results_cell_tmp rfl]
        go_simp
      · have hle : w.heap.size ≤ w.heap.size + 2 := Nat.le_add_right _ _
        have hs := ST.out
        rw [M2.out] at hs
        have NE2 := own_ne_blk hs.own (hs.kn.at (.tail _ (.tail _ (.tail _ (.head _))))) (by decide)
        refine ⟨_, _, rfl, own_mono (ownsRow_setCell_other (ownsRow_setCell_other (ownsRow_setCell_other hs.own NE2 _) NE2 _) NE2 _) (by omega), ((hs.bel.setCell hle _).setCell hle _).setCell hle _⟩
theorem ref03_mul_bad (R1 C1 R2 C2 : Int) (A1 : Option Addr) (n1 c1 : Nat) (A2 : Option Addr) (n2 c2 : Nat) (h : ¬ (mok R1 C1 n1 ∧ mok R2 C2 n2 ∧ C1 = R2)) (w : World) :
    Calls Try.prog 9 #[matV R1 C1 A1 n1 c1, matV R2 C2 A2 n2 c2] w fun e w' => e = .returned (.tuple #[matV 0 0 none 0 0, .int .i64 30]) ∧ Below w.heap.size w w' := by
  have K0 := Lib.hid (kn3 w 24 24 24 #[.int .i64 R1, .int .i64 C1, .slice A1 n1 c1] #[.int .i64 R2, .int .i64 C2, .slice A2 n2 c2] #[.int .i64 0, .int .i64 0, .slice none 0 0])
  have HW := Lib.hid (below3 w (.cells #[.int .i64 R1, .int .i64 C1, .slice A1 n1 c1] 24) (.cells #[.int .i64 R2, .int .i64 C2, .slice A2 n2 c2] 24) (.cells #[.int .i64 0, .int .i64 0, .slice none 0 0] 24))
  by_cases h1 : mok R1 C1 n1
  · have CK1 : Hid (∀ w, Calls Try.prog 18 #[matV R1 C1 A1 n1 c1] w fun e w' => e = .returned (.int .i64 0) ∧ Below w.heap.size w w') := fun w => ref03_check_ok R1 C1 A1 n1 c1 h1 w
    by_cases h2 : mok R2 C2 n2
    · have CK2 : Hid (∀ w, Calls Try.prog 18 #[matV R2 C2 A2 n2 c2] w fun e w' => e = .returned (.int .i64 0) ∧ Below w.heap.size w w') := fun w => ref03_check_ok R2 C2 A2 n2 c2 h2 w
      have h3 : ¬ C1 = R2 := fun e => h ⟨h1, h2, e⟩
      have d0 : (C1 == R2) = false := by rw [beq_eq_false_iff_ne]; exact h3
      have d1 : (C1 != R2) = true := by rw [bne_iff_ne]; exact h3
      clear h h1 h2 h3
      go_enter Try.func9, Try.ntmps9
      go_wp2_with (first
        | (go_at_call 18; (with_reducible refine (CK1.out _).mono ?_); rintro e w1 ⟨rfl, hb1⟩; have K0 := Lib.hid (K0.out.below hb1); have HW := Lib.hid (HW.out.trans (hb1.mono HW.out.size)); clear hb1; (try clear a0 a1 a2 b0 b1 b2 r0 r1 r2 rz0 rz1 rz2); have a0 := (K0.out.at (.head _)).cell 0; have a1 := (K0.out.at (.head _)).cell 1; have a2 := (K0.out.at (.head _)).cell 2; simp only [List.getElem?_toArray, List.getElem?_cons_succ, List.getElem?_cons_zero] at a0 a1 a2; have b0 := (K0.out.at (.tail _ (.head _))).cell 0; have b1 := (K0.out.at (.tail _ (.head _))).cell 1; have b2 := (K0.out.at (.tail _ (.head _))).cell 2; simp only [List.getElem?_toArray, List.getElem?_cons_succ, List.getElem?_cons_zero] at b0 b1 b2; have r0 := (K0.out.at (.tail _ (.tail _ (.head _)))).cell 0; have r1 := (K0.out.at (.tail _ (.tail _ (.head _)))).cell 1; have r2 := (K0.out.at (.tail _ (.tail _ (.head _)))).cell 2; have rz0 := (K0.out.at (.tail _ (.tail _ (.head _)))).frozen 0; have rz1 := (K0.out.at (.tail _ (.tail _ (.head _)))).frozen 1; have rz2 := (K0.out.at (.tail _ (.tail _ (.head _)))).frozen 2; simp only [List.getElem?_toArray, List.getElem?_cons_succ, List.getElem?_cons_zero] at r0 r1 r2)
        | (go_at_call 18; (with_reducible refine (CK2.out _).mono ?_); rintro e w1 ⟨rfl, hb1⟩; have K0 := Lib.hid (K0.out.below hb1); have HW := Lib.hid (HW.out.trans (hb1.mono HW.out.size)); clear hb1; (try clear a0 a1 a2 b0 b1 b2 r0 r1 r2 rz0 rz1 rz2); have a0 := (K0.out.at (.head _)).cell 0; have a1 := (K0.out.at (.head _)).cell 1; have a2 := (K0.out.at (.head _)).cell 2; simp only [List.getElem?_toArray, List.getElem?_cons_succ, List.getElem?_cons_zero] at a0 a1 a2; have b0 := (K0.out.at (.tail _ (.head _))).cell 0; have b1 := (K0.out.at (.tail _ (.head _))).cell 1; have b2 := (K0.out.at (.tail _ (.head _))).cell 2; simp only [List.getElem?_toArray, List.getElem?_cons_succ, List.getElem?_cons_zero] at b0 b1 b2; have r0 := (K0.out.at (.tail _ (.tail _ (.head _)))).cell 0; have r1 := (K0.out.at (.tail _ (.tail _ (.head _)))).cell 1; have r2 := (K0.out.at (.tail _ (.tail _ (.head _)))).cell 2; have rz0 := (K0.out.at (.tail _ (.tail _ (.head _)))).frozen 0; have rz1 := (K0.out.at (.tail _ (.tail _ (.head _)))).frozen 1; have rz2 := (K0.out.at (.tail _ (.tail _ (.head _)))).frozen 2; simp only [List.getElem?_toArray, List.getElem?_cons_succ, List.getElem?_cons_zero] at r0 r1 r2))
      (try rw [Exit.noGoto_ret])
      refine bodyPost_ret (v := .tuple #[matV 0 0 none 0 0, .int .i64 30]) ?_ rfl ?_
      · rw [results_cell_tmp rfl]
        go_simp
      · exact ⟨rfl, ((HW.out.setCell (show w.heap.size ≤ w.heap.size + 1 + 1 by omega) _).setCell (show w.heap.size ≤ w.heap.size + 1 + 1 by omega) _).setCell (show w.heap.size ≤ w.heap.size + 1 + 1 by omega) _⟩
    · have CK2 : Hid (∀ w, Calls Try.prog 18 #[matV R2 C2 A2 n2 c2] w fun e w' => e = .returned (.int .i64 30) ∧ Below w.heap.size w w') := fun w => ref03_check_bad R2 C2 A2 n2 c2 h2 w
      clear h h1 h2
      go_enter Try.func9, Try.ntmps9
      go_wp2_with (first
        | (go_at_call 18; (with_reducible refine (CK1.out _).mono ?_); rintro e w1 ⟨rfl, hb1⟩; have K0 := Lib.hid (K0.out.below hb1); have HW := Lib.hid (HW.out.trans (hb1.mono HW.out.size)); clear hb1; (try clear a0 a1 a2 b0 b1 b2 r0 r1 r2 rz0 rz1 rz2); have a0 := (K0.out.at (.head _)).cell 0; have a1 := (K0.out.at (.head _)).cell 1; have a2 := (K0.out.at (.head _)).cell 2; simp only [List.getElem?_toArray, List.getElem?_cons_succ, List.getElem?_cons_zero] at a0 a1 a2; have b0 := (K0.out.at (.tail _ (.head _))).cell 0; have b1 := (K0.out.at (.tail _ (.head _))).cell 1; have b2 := (K0.out.at (.tail _ (.head _))).cell 2; simp only [List.getElem?_toArray, List.getElem?_cons_succ, List.getElem?_cons_zero] at b0 b1 b2; have r0 := (K0.out.at (.tail _ (.tail _ (.head _)))).cell 0; have r1 := (K0.out.at (.tail _ (.tail _ (.head _)))).cell 1; have r2 := (K0.out.at (.tail _ (.tail _ (.head _)))).cell 2; have rz0 := (K0.out.at (.tail _ (.tail _ (.head _)))).frozen 0; have rz1 := (K0.out.at (.tail _ (.tail _ (.head _)))).frozen 1; have rz2 := (K0.out.at (.tail _ (.tail _ (.head _)))).frozen 2; simp only [List.getElem?_toArray, List.getElem?_cons_succ, List.getElem?_cons_zero] at r0 r1 r2)
        | (go_at_call 18; (with_reducible refine (CK2.out _).mono ?_); rintro e w1 ⟨rfl, hb1⟩; have K0 := Lib.hid (K0.out.below hb1); have HW := Lib.hid (HW.out.trans (hb1.mono HW.out.size)); clear hb1; (try clear a0 a1 a2 b0 b1 b2 r0 r1 r2 rz0 rz1 rz2); have a0 := (K0.out.at (.head _)).cell 0; have a1 := (K0.out.at (.head _)).cell 1; have a2 := (K0.out.at (.head _)).cell 2; simp only [List.getElem?_toArray, List.getElem?_cons_succ, List.getElem?_cons_zero] at a0 a1 a2; have b0 := (K0.out.at (.tail _ (.head _))).cell 0; have b1 := (K0.out.at (.tail _ (.head _))).cell 1; have b2 := (K0.out.at (.tail _ (.head _))).cell 2; simp only [List.getElem?_toArray, List.getElem?_cons_succ, List.getElem?_cons_zero] at b0 b1 b2; have r0 := (K0.out.at (.tail _ (.tail _ (.head _)))).cell 0; have r1 := (K0.out.at (.tail _ (.tail _ (.head _)))).cell 1; have r2 := (K0.out.at (.tail _ (.tail _ (.head _)))).cell 2; have rz0 := (K0.out.at (.tail _ (.tail _ (.head _)))).frozen 0; have rz1 := (K0.out.at (.tail _ (.tail _ (.head _)))).frozen 1; have rz2 := (K0.out.at (.tail _ (.tail _ (.head _)))).frozen 2; simp only [List.getElem?_toArray, List.getElem?_cons_succ, List.getElem?_cons_zero] at r0 r1 r2))
      (try rw [Exit.noGoto_ret])
      refine bodyPost_ret (v := .tuple #[matV 0 0 none 0 0, .int .i64 30]) ?_ rfl ?_
      · rw [results_cell_tmp rfl]
        go_simp
      · exact ⟨rfl, ((HW.out.setCell (show w.heap.size ≤ w.heap.size + 1 + 1 by omega) _).setCell (show w.heap.size ≤ w.heap.size + 1 + 1 by omega) _).setCell (show w.heap.size ≤ w.heap.size + 1 + 1 by omega) _⟩
  · have CK1 : Hid (∀ w, Calls Try.prog 18 #[matV R1 C1 A1 n1 c1] w fun e w' => e = .returned (.int .i64 30) ∧ Below w.heap.size w w') := fun w => ref03_check_bad R1 C1 A1 n1 c1 h1 w
    clear h h1
    go_enter Try.func9, Try.ntmps9
    go_wp2_with (go_at_call 18; (with_reducible refine (CK1.out _).mono ?_); rintro e w1 ⟨rfl, hb1⟩; have K0 := Lib.hid (K0.out.below hb1); have HW := Lib.hid (HW.out.trans (hb1.mono HW.out.size)); clear hb1; have a0 := (K0.out.at (.head _)).cell 0; have a1 := (K0.out.at (.head _)).cell 1; have a2 := (K0.out.at (.head _)).cell 2; simp only [List.getElem?_toArray, List.getElem?_cons_succ, List.getElem?_cons_zero] at a0 a1 a2; have b0 := (K0.out.at (.tail _ (.head _))).cell 0; have b1 := (K0.out.at (.tail _ (.head _))).cell 1; have b2 := (K0.out.at (.tail _ (.head _))).cell 2; simp only [List.getElem?_toArray, List.getElem?_cons_succ, List.getElem?_cons_zero] at b0 b1 b2; have r0 := (K0.out.at (.tail _ (.tail _ (.head _)))).cell 0; have r1 := (K0.out.at (.tail _ (.tail _ (.head _)))).cell 1; have r2 := (K0.out.at (.tail _ (.tail _ (.head _)))).cell 2; have rz0 := (K0.out.at (.tail _ (.tail _ (.head _)))).frozen 0; have rz1 := (K0.out.at (.tail _ (.tail _ (.head _)))).frozen 1; have rz2 := (K0.out.at (.tail _ (.tail _ (.head _)))).frozen 2; simp only [List.getElem?_toArray, List.getElem?_cons_succ, List.getElem?_cons_zero] at r0 r1 r2)
    (try rw [Exit.noGoto_ret])
    refine bodyPost_ret (v := .tuple #[matV 0 0 none 0 0, .int .i64 30]) ?_ rfl ?_
    · rw [results_cell_tmp rfl]
      go_simp
    · exact ⟨rfl, ((HW.out.setCell (show w.heap.size ≤ w.heap.size + 1 + 1 by omega) _).setCell (show w.heap.size ≤ w.heap.size + 1 + 1 by omega) _).setCell (show w.heap.size ≤ w.heap.size + 1 + 1 by omega) _⟩
end Go.Proofs.Ytbepadepepoilaa
