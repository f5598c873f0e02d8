/- matrix.Pick, walked. -/
import Derived.Test.YtbepadepepoilaaMxP
namespace Go.Proofs.Ytbepadepepoilaa
open Go.RowKit
set_option linter.unusedVariables false
set_option linter.unusedSimpArgs false
attribute [local go_sem ↓] Go.wp_at_zero Go.wp_at_succ
theorem copyAt_matL {R C r : Nat} (G : Mx) (q : Nat → F) (hr : r < R) : copyAt (matL R C G) (r * C) (tab C q) = matL R C fun i j => if i = r then q j else G i j := by
  refine ext_getD (by rw [length_copyAt, length_matL, length_matL]) fun i hi => ?_
  rw [length_copyAt, length_matL] at hi
  have hd := div_rows hi
  have e : i / C * C + i % C = i := by rw [Nat.mul_comm]; exact Nat.div_add_mod i C
  rw [copyAt, getD_tab _ (by rw [length_matL]; exact hi), length_tab, matL, getD_tab _ hi, matL, getD_tab _ hi]
  by_cases h : i / C = r
  · have h1 : r * C ≤ i ∧ i < r * C + C := by rw [← h]; omega
    rw [if_pos h1, if_pos h, getD_tab _ (by omega)]
    congr 1
    rw [← h]; omega
  · rw [if_neg h, if_neg]
    intro h1
    apply h
    obtain ⟨d, rfl⟩ : ∃ d, i = r * C + d := ⟨i - r * C, by omega⟩
    exact row_div (by omega)
def zr (zs : List Int) (i : Nat) : Nat := (zs.getD i 0).toNat
def pickT (C : Nat) (f : Mx) (zs : List Int) (k : Nat) : List F := matL zs.length C fun i j => if i < k then f (zr zs i) j else 0
theorem length_pickT (C : Nat) (f : Mx) (zs : List Int) (k : Nat) : (pickT C f zs k).length = zs.length * C := length_matL _ _ _
theorem pickT_zero (C : Nat) (f : Mx) (zs : List Int) : matL zs.length C (fun _ _ => 0) = pickT C f zs 0 := matL_congr fun i j _ _ => by rw [if_neg (by omega)]
theorem pickT_all (C : Nat) (f : Mx) (zs : List Int) : pickT C f zs zs.length = matL zs.length C fun i j => f (zr zs i) j := matL_congr fun i j hi _ => by rw [if_pos hi]
theorem pickT_step (C : Nat) (f : Mx) (zs : List Int) {k : Nat} (hk : k < zs.length) : copyAt (pickT C f zs k) (k * C) (tab C (f (zr zs k))) = pickT C f zs (k + 1) := by
  rw [pickT, copyAt_matL _ _ hk]
  refine matL_congr fun i j _ _ => ?_
  by_cases h : i = k
  · subst h; rw [if_pos rfl, if_pos (by omega)]
  · rw [if_neg h]
    by_cases h2 : i < k
    · rw [if_pos h2, if_pos (by omega)]
    · rw [if_neg h2, if_neg (by omega)]
def Goods (zs : List Int) (R k : Nat) : Prop := ∀ j, j < k → 0 ≤ zs.getD j 0 ∧ zs.getD j 0 < (R : Int)
/-- what Pick answers -/
def PickR (w : World) (R C : Nat) (f : Mx) (zs : List Int) (e : Ending) (w' : World) : Prop :=
  (Goods zs R zs.length ∧ ∃ A' c', e = .returned (.tuple #[matV zs.length C A' (zs.length * C) c', .int .i64 0]) ∧ w'.ownsRow w.heap.size 5 1 (.slice A' (zs.length * C) c') (zs.length * C) ((matL zs.length C fun i j => f (zr zs i) j).map bv) ∧ Below w.heap.size w w') ∨
  (¬ Goods zs R zs.length ∧ e = .returned (.tuple #[matV 0 0 none 0 0, .int .i64 30]) ∧ Below w.heap.size w w')
theorem mx_pick_bad (Rr Cc : Int) (A1 : Option Addr) (n1 c1 : Nat) (A2 : Option Addr) (n2 c2 : Nat) (hn2 : n2 ≤ maxLen) (h : ¬ mok Rr Cc n1 ∨ 256 < n2) (w : World) :
    Calls Try.prog 12 #[matV Rr Cc A1 n1 c1, .slice A2 n2 c2] w fun e w' => e = .returned (.tuple #[matV 0 0 none 0 0, .int .i64 30]) ∧ Below w.heap.size w w' := by
  have K0 := Lib.hid (kn2 w 24 24 #[.int .i64 Rr, .int .i64 Cc, .slice A1 n1 c1] #[.int .i64 0, .int .i64 0, .slice none 0 0])
  have HW := Lib.hid (below2 w (.cells #[.int .i64 Rr, .int .i64 Cc, .slice A1 n1 c1] 24) (.cells #[.int .i64 0, .int .i64 0, .slice none 0 0] 24))
  unfold maxLen at hn2
  by_cases h1 : mok Rr Cc n1
  · have h2 : 256 < n2 := h.resolve_left (fun e => e h1)
    have CK : Hid (∀ w, Calls Try.prog 17 #[matV Rr Cc A1 n1 c1] w fun e w' => e = .returned (.int .i64 0) ∧ Below w.heap.size w w') := fun w => mx_check_ok Rr Cc A1 n1 c1 h1 w
    have e1 : decide (256 < n2) = true := decide_eq_true h2
    have e2 : (256 : Int) < (n2 : Int) := by omega
    clear h h1 h2
    go_enter Try.func12, Try.ntmps12
    go_wp2_with (go_at_call 17; (with_reducible refine (CK.out _).mono ?_); rintro e w1 ⟨rfl, hb1⟩; have K1 := Lib.hid (K0.out.below hb1); have HW1 := Lib.hid (HW.out.trans (hb1.mono HW.out.size)); clear hb1; have p0 := (K1.out.at (.tail _ (.head _))).cell 0; have p1 := (K1.out.at (.tail _ (.head _))).cell 1; have p2 := (K1.out.at (.tail _ (.head _))).cell 2; have pz0 := (K1.out.at (.tail _ (.head _))).frozen 0; have pz1 := (K1.out.at (.tail _ (.head _))).frozen 1; have pz2 := (K1.out.at (.tail _ (.head _))).frozen 2; simp only [List.getElem?_toArray, List.getElem?_cons_succ, List.getElem?_cons_zero] at p0 p1 p2)
    have h3 := ((K1.out.at (.tail _ (.head _))).set 0 (.int .i64 0)).set 1 (.int .i64 0) |>.set 2 (.slice none 0 0)
    refine bodyPost_ret (v := .tuple #[matV 0 0 none 0 0, .int .i64 30]) ?_ rfl ?_
    · rw [results_cell_tmp rfl]
      go_simp
    · exact ⟨rfl, ((HW1.out.setCell (Nat.le_succ _) _).setCell (Nat.le_succ _) _).setCell (Nat.le_succ _) _⟩
  · have CK : Hid (∀ w, Calls Try.prog 17 #[matV Rr Cc A1 n1 c1] w fun e w' => e = .returned (.int .i64 30) ∧ Below w.heap.size w w') := fun w => mx_check_bad Rr Cc A1 n1 c1 h1 w
    clear h h1
    go_enter Try.func12, Try.ntmps12
    go_wp2_with (go_at_call 17; (with_reducible refine (CK.out _).mono ?_); rintro e w1 ⟨rfl, hb1⟩; have K1 := Lib.hid (K0.out.below hb1); have HW1 := Lib.hid (HW.out.trans (hb1.mono HW.out.size)); clear hb1; have p0 := (K1.out.at (.tail _ (.head _))).cell 0; have p1 := (K1.out.at (.tail _ (.head _))).cell 1; have p2 := (K1.out.at (.tail _ (.head _))).cell 2; have pz0 := (K1.out.at (.tail _ (.head _))).frozen 0; have pz1 := (K1.out.at (.tail _ (.head _))).frozen 1; have pz2 := (K1.out.at (.tail _ (.head _))).frozen 2; simp only [List.getElem?_toArray, List.getElem?_cons_succ, List.getElem?_cons_zero] at p0 p1 p2)
    have h3 := ((K1.out.at (.tail _ (.head _))).set 0 (.int .i64 0)).set 1 (.int .i64 0) |>.set 2 (.slice none 0 0)
    refine bodyPost_ret (v := .tuple #[matV 0 0 none 0 0, .int .i64 30]) ?_ rfl ?_
    · rw [results_cell_tmp rfl]
      go_simp
    · exact ⟨rfl, ((HW1.out.setCell (Nat.le_succ _) _).setCell (Nat.le_succ _) _).setCell (Nat.le_succ _) _⟩
set_option maxRecDepth 1000000 in
set_option maxHeartbeats 2000000 in
theorem mx_pick (R C : Nat) (A1 : Option Addr) (c1 : Nat) (f : Mx) (A2 : Option Addr) (c2 : Nat) (zs : List Int) (w : World) (hR : R ≤ 256) (hC : C ≤ 256) (hz : zs.length ≤ 256) (ha : Bs w A1 c1 (matL R C f)) (hrows : Sl w A2 c2 (zs.map (Value.int .i64))) (hi64 : ∀ z ∈ zs, -9223372036854775808 ≤ z ∧ z ≤ 9223372036854775807) :
    Calls Try.prog 12 #[matV R C A1 (R * C) c1, .slice A2 zs.length c2] w (PickR w R C f zs) := by
  have HA := Lib.hid ha
  have HR := Lib.hid hrows
  have HI : Hid (∀ i, i < zs.length → -9223372036854775808 ≤ zs.getD i 0 ∧ zs.getD i 0 ≤ 9223372036854775807) := fun i hi => hi64 _ (by rw [List.getD_eq_getElem?_getD, List.getElem?_eq_getElem hi]; exact List.getElem_mem _)
  have CK : Hid (∀ w, Calls Try.prog 17 #[matV R C A1 (R * C) c1] w fun e w' => e = .returned (.int .i64 0) ∧ Below w.heap.size w w') := fun w => mx_check_ok R C A1 (R * C) c1 ⟨by omega, by omega, by omega, by omega, by simp⟩ w
  have EM := Lib.hid (mx_empty zs.length C hz (by omega))
  have RA : Hid (∀ r, r < R → ∀ w, Calls Try.prog 26 #[matV R C A1 (R * C) c1, .int .i64 r] w fun e w' => e = .returned (.slice (rowA A1 c1 (r * C)) C (c1 - r * C)) ∧ Below w.heap.size w w') := fun r hr w => mx_row R C r A1 (R * C) c1 hr hR (by omega) rfl (by have := ha.len; rwa [length_matL] at this) ha.mx w
  have RM : Hid (∀ g r, r < zs.length → ∀ w, Calls Try.prog 26 #[matV zs.length C (some ⟨g, 0, none⟩) (zs.length * C) (zs.length * C), .int .i64 r] w fun e w' => e = .returned (.slice (some ⟨g, r * C, none⟩) C (zs.length * C - r * C)) ∧ Below w.heap.size w w') := fun g r hr w => by
    have := mx_row zs.length C r (some ⟨g, 0, none⟩) (zs.length * C) (zs.length * C) hr hz (by omega) rfl (Nat.le_refl _) (by have := Nat.mul_le_mul hz hC; unfold maxLen; omega) w
    rwa [rowA_own hr] at this
  have hnR : zs.length * C ≤ 65536 := Nat.mul_le_mul hz hC
  have LM : Hid (∀ k, (pickT C f zs k).length = zs.length * C) := fun k => length_pickT _ _ _ _
  have LO : Hid (∀ r, r < zs.length → r * C + C ≤ zs.length * C) := fun r hr => by rw [← Nat.succ_mul]; exact Nat.mul_le_mul_right _ hr
  have Z := Lib.hid (pickT_zero C f zs)
  have SE : Hid (∀ k, k < zs.length → copyAt (pickT C f zs k) (k * C) (tab C (f (zr zs k))) = pickT C f zs (k + 1)) := fun k hk => pickT_step C f zs hk
  have AL := Lib.hid (pickT_all C f zs)
  unfold PickR
  have PO : Hid (∀ (e : Ending) (w' : World), PickR w R C f zs e w' → PickR w R C f zs e w') := fun _ _ h => h
  unfold PickR at PO
  clear ha hrows hi64
  generalize hn : zs.length * C = n at *
  generalize hn1 : R * C = n1 at *
  generalize hm : zs.length = m at *
  have e1 : decide (256 < m) = false := decide_eq_false (by omega)
  have e2 : ¬ (256 : Int) < (m : Int) := by omega
  have K0 := Lib.hid (kn2 w 24 24 #[.int .i64 R, .int .i64 C, .slice A1 n1 c1] #[.int .i64 0, .int .i64 0, .slice none 0 0])
  have HW := Lib.hid (below2 w (.cells #[.int .i64 R, .int .i64 C, .slice A1 n1 c1] 24) (.cells #[.int .i64 0, .int .i64 0, .slice none 0 0] 24))
  have HM := Lib.hid hm
  clear hm
  go_enter Try.func12, Try.ntmps12
  go_wp2_with (first
    | (go_at_call 17; (with_reducible refine (CK.out _).mono ?_); rintro e w1 ⟨rfl, hb1⟩; have K1 := Lib.hid (K0.out.below hb1); have HW1 := Lib.hid (HW.out.trans (hb1.mono HW.out.size)); clear hb1; have p0 := (K1.out.at (.head _)).cell 0; have p1 := (K1.out.at (.head _)).cell 1; have p2 := (K1.out.at (.head _)).cell 2; simp only [List.getElem?_toArray, List.getElem?_cons_succ, List.getElem?_cons_zero] at p0 p1 p2)
    | (go_at_call 25; (with_reducible refine (EM.out _).mono ?_); rintro e w2 ⟨g, rfl, ho2, hb2⟩; have K2 := Lib.hid (K1.out.below hb2); have HW2 := Lib.hid (HW1.out.trans (hb2.mono HW1.out.size)); have hg2 := own_some ho2; have HO2 := Lib.hid ho2; have hsz := K1.out.lt (.tail _ (.head _)); have hw1 := HW1.out.size; clear hb2 ho2; clear p0 p1 p2))
  have K3 := Lib.hid ((K2.out.alloc (.cells #[.int .i64 m, .int .i64 C, .slice (some ⟨g, 0, none⟩) n n] 24)).blk (Blk.new w2 #[.int .i64 m, .int .i64 C, .slice (some ⟨g, 0, none⟩) n n] 24))
  have ST0 : Hid (St w (w2.alloc (.cells #[.int .i64 m, .int .i64 C, .slice (some ⟨g, 0, none⟩) n n] 24)) w1.heap.size g n n (pickT C f zs 0) [(w2.heap.size, 24, #[.int .i64 m, .int .i64 C, .slice (some ⟨g, 0, none⟩) n n]), (w.heap.size, 24, #[.int .i64 R, .int .i64 C, .slice A1 n1 c1]), (w.heap.size + 1, 24, #[.int .i64 0, .int .i64 0, .slice none 0 0])]) := ⟨K3.out, by have := HO2.out.alloc (.cells #[.int .i64 m, .int .i64 C, .slice (some ⟨g, 0, none⟩) n n] 24); rwa [Z.out] at this, HW2.out.alloc HW2.out.size _⟩
  have NE : Hid (∀ x : Nat × TypeId × Array Value, x ∈ [(w2.heap.size, 24, #[.int .i64 m, .int .i64 C, .slice (some ⟨g, 0, none⟩) n n]), (w.heap.size, 24, #[.int .i64 R, .int .i64 C, .slice A1 n1 c1]), (w.heap.size + 1, 24, #[.int .i64 0, .int .i64 0, .slice none 0 0])] → x.1 ≠ g) := fun x hx => by
    simp only [List.mem_cons, List.not_mem_nil, or_false] at hx
    rcases hx with rfl | rfl | rfl
    · show w2.heap.size ≠ g; omega
    · show w.heap.size ≠ g; omega
    · show w.heap.size + 1 ≠ g; omega
  have hgw : w.heap.size ≤ g := by omega
  clear K0 K1 K2 K3 HO2 HW HW1 HW2
  go_loopw [25] (fun v wr => ∃ i : Nat, i ≤ m ∧ v = .int .i64 i ∧ Hid (Goods zs R i) ∧ St w wr w1.heap.size g n n (pickT C f zs i) [(w2.heap.size, 24, #[.int .i64 m, .int .i64 C, .slice (some ⟨g, 0, none⟩) n n]), (w.heap.size, 24, #[.int .i64 R, .int .i64 C, .slice A1 n1 c1]), (w.heap.size + 1, 24, #[.int .i64 0, .int .i64 0, .slice none 0 0])]) (fun v _ => m - (intOf v).toNat)
  case atStart => exact ⟨0, Nat.zero_le _, rfl, fun j hj => absurd hj (Nat.not_lt_zero j), ST0.out⟩
  case round =>
    clear ST0
    obtain ⟨i, hi, rfl, hgood, hst⟩ := hrel
    have ST := Lib.hid hst
    by_cases hlt : i < m
    · obtain ⟨b2, o2, hA, _, hc⟩ := Sl.at' (HR.out.below hst.bel) (by rw [List.length_map, HM.out]; omega)
      subst hA
      have hcell := hc i (.int .i64 (zs.getD i 0)) (by rw [List.getElem?_map, List.getElem?_eq_getElem (by rw [HM.out]; exact hlt), List.getD_eq_getElem?_getD, List.getElem?_eq_getElem (by rw [HM.out]; exact hlt)]; rfl)
      have hzi := HI.out i hlt
      clear hc hst
      have p0 := (ST.out.kn.at (.head _)).cell 0; have p1 := (ST.out.kn.at (.head _)).cell 1; have p2 := (ST.out.kn.at (.head _)).cell 2; simp only [List.getElem?_toArray, List.getElem?_cons_succ, List.getElem?_cons_zero] at p0 p1 p2; have q0 := (ST.out.kn.at (.tail _ (.head _))).cell 0; have q1 := (ST.out.kn.at (.tail _ (.head _))).cell 1; have q2 := (ST.out.kn.at (.tail _ (.head _))).cell 2; simp only [List.getElem?_toArray, List.getElem?_cons_succ, List.getElem?_cons_zero] at q0 q1 q2
      by_cases hg0 : 0 ≤ zs.getD i 0 ∧ zs.getD i 0 < (R : Int)
      · obtain ⟨r, hr⟩ := Int.eq_ofNat_of_zero_le hg0.1
        have hrR : r < R := by omega
        have hzr : zr zs i = r := by unfold zr; rw [hr]; rfl
        have SEi := SE.out i hlt
        rw [hzr] at SEi
        have GD : Hid (Goods zs R (i + 1)) := fun j hj => by
          rcases Nat.lt_or_ge j i with h | h
          · exact hgood.out j h
          · have : j = i := by omega
            rw [this]; exact hg0
        rw [hr] at hcell
        have d0 : decide ((r : Int) < 0) = false := decide_eq_false (by omega)
        have d1 : decide ((R : Int) ≤ (r : Int)) = false := decide_eq_false (by omega)
        obtain ⟨A3, c3, ra, ha3⟩ : ∃ A3 c3, (∀ w', Calls Try.prog 26 #[matV R C A1 n1 c1, .int .i64 r] w' fun e w'' => e = .returned (.slice A3 C c3) ∧ Below w'.heap.size w' w'') ∧ Bs w A3 c3 (tab C (f r)) := ⟨_, _, RA.out r hrR, Bs.row HA.out hrR⟩
        have RAr := Lib.hid ra
        have HA3 := Lib.hid ha3
        have RMi := Lib.hid (RM.out g i hlt)
        have hlo := LO.out i hlt
        have SEH := Lib.hid SEi
        clear ra ha3 hzr SEi hg0 hgood hzi hr
        generalize i * C = lo at *
        go_wp2
        go_region_law (first
          | (go_simp; go_at_call 26; (with_reducible refine (RMi.out _).mono ?_); rintro e w7 ⟨rfl, hbel⟩; (first | have ST := Lib.hid (ST.out.below hbel) | have ST := Lib.hid ((ST.out.alloc _).below hbel) | have ST := Lib.hid (((ST.out.alloc _).alloc _).below hbel) | have ST := Lib.hid ((ST.out.drewN _).below hbel) | have ST := Lib.hid (((ST.out.drewN _).alloc _).below hbel) | have ST := Lib.hid (((ST.out.alloc _).drewN _).below hbel) | have ST := Lib.hid ((((ST.out.alloc _).alloc _).drewN _).below hbel) | have ST := Lib.hid ((((ST.out.alloc _).alloc _).alloc _).below hbel) | have ST := Lib.hid ((((ST.out.drewN _).alloc _).alloc _).below hbel)); clear p0 p1 p2; clear q0 q1 q2; have p0 := (ST.out.kn.at (.head _)).cell 0; have p1 := (ST.out.kn.at (.head _)).cell 1; have p2 := (ST.out.kn.at (.head _)).cell 2; simp only [List.getElem?_toArray, List.getElem?_cons_succ, List.getElem?_cons_zero] at p0 p1 p2; have q0 := (ST.out.kn.at (.tail _ (.head _))).cell 0; have q1 := (ST.out.kn.at (.tail _ (.head _))).cell 1; have q2 := (ST.out.kn.at (.tail _ (.head _))).cell 2; simp only [List.getElem?_toArray, List.getElem?_cons_succ, List.getElem?_cons_zero] at q0 q1 q2; clear hbel)
          | (go_simp; go_at_call 26; (with_reducible refine (RAr.out _).mono ?_); rintro e w7 ⟨rfl, hbel⟩; (first | have ST := Lib.hid (ST.out.below hbel) | have ST := Lib.hid ((ST.out.alloc _).below hbel) | have ST := Lib.hid (((ST.out.alloc _).alloc _).below hbel) | have ST := Lib.hid ((ST.out.drewN _).below hbel) | have ST := Lib.hid (((ST.out.drewN _).alloc _).below hbel) | have ST := Lib.hid (((ST.out.alloc _).drewN _).below hbel) | have ST := Lib.hid ((((ST.out.alloc _).alloc _).drewN _).below hbel) | have ST := Lib.hid ((((ST.out.alloc _).alloc _).alloc _).below hbel) | have ST := Lib.hid ((((ST.out.drewN _).alloc _).alloc _).below hbel)); clear p0 p1 p2; clear q0 q1 q2; have p0 := (ST.out.kn.at (.head _)).cell 0; have p1 := (ST.out.kn.at (.head _)).cell 1; have p2 := (ST.out.kn.at (.head _)).cell 2; simp only [List.getElem?_toArray, List.getElem?_cons_succ, List.getElem?_cons_zero] at p0 p1 p2; have q0 := (ST.out.kn.at (.tail _ (.head _))).cell 0; have q1 := (ST.out.kn.at (.tail _ (.head _))).cell 1; have q2 := (ST.out.kn.at (.tail _ (.head _))).cell 2; simp only [List.getElem?_toArray, List.getElem?_cons_succ, List.getElem?_cons_zero] at q0 q1 q2; clear hbel)
          | (refine step_copy_bytes rfl _ _ rfl w1.heap.size g n n lo (n - lo) (pickT C f zs i) (tab C (f r)) A3 c3 C (length_tab _ _) C (Nat.le_refl _) rfl rfl (LM.out i) ST.out.own (HA3.out.below ST.out.bel) (by omega) ?_; intro w8 ho8 hb8; have ST8 := Lib.hid (ST.out.write hb8 ho8 NE.out hgw); rw [SEH.out] at ST8; clear ho8 hb8))
        all_goals
          go_wp2
          go_roundw
          case rel => exact ⟨i + 1, by omega, by go_num, GD.out, ST8.out⟩
          case measure => simp [intOf]; omega
      · have NG : Hid (¬ Goods zs R m) := fun h => hg0 (h i hlt)
        have hres := (ST.out.kn.at (.tail _ (.tail _ (.head _)))).frozen 0
        have hres1 := (ST.out.kn.at (.tail _ (.tail _ (.head _)))).frozen 1
        have hres2 := (ST.out.kn.at (.tail _ (.tail _ (.head _)))).frozen 2
        have r0 := (ST.out.kn.at (.tail _ (.tail _ (.head _)))).cell 0; have r1 := (ST.out.kn.at (.tail _ (.tail _ (.head _)))).cell 1; have r2 := (ST.out.kn.at (.tail _ (.tail _ (.head _)))).cell 2; simp only [List.getElem?_toArray, List.getElem?_cons_succ, List.getElem?_cons_zero] at r0 r1 r2
        by_cases hn0 : zs.getD i 0 < 0
        · have d0 : decide (zs.getD i 0 < 0) = true := decide_eq_true hn0
          clear hg0 hgood
          generalize zs.getD i 0 = z at *
          go_wp2
          refine bodyPost_ret (v := .tuple #[matV 0 0 none 0 0, .int .i64 30]) ?_ rfl ?_
          · rw [results_cell_tmp rfl]
            go_simp
          · exact .inr ⟨NG.out, rfl, ((ST.out.bel.setCell (Nat.le_succ _) _).setCell (Nat.le_succ _) _).setCell (Nat.le_succ _) _⟩
        · have d0 : decide (zs.getD i 0 < 0) = false := decide_eq_false hn0
          have d1 : decide ((R : Int) ≤ zs.getD i 0) = true := decide_eq_true (by omega)
          clear hg0 hgood
          generalize zs.getD i 0 = z at *
          go_wp2
          refine bodyPost_ret (v := .tuple #[matV 0 0 none 0 0, .int .i64 30]) ?_ rfl ?_
          · rw [results_cell_tmp rfl]
            go_simp
          · exact .inr ⟨NG.out, rfl, ((ST.out.bel.setCell (Nat.le_succ _) _).setCell (Nat.le_succ _) _).setCell (Nat.le_succ _) _⟩
    · have hie : i = m := by omega
      have HIE := Lib.hid hie
      have AG : Hid (Goods zs R m) := by rw [← hie]; exact hgood
      rw [hie] at ST
      clear hst hie hgood
      have p0 := (ST.out.kn.at (.head _)).cell 0; have p1 := (ST.out.kn.at (.head _)).cell 1; have p2 := (ST.out.kn.at (.head _)).cell 2; simp only [List.getElem?_toArray, List.getElem?_cons_succ, List.getElem?_cons_zero] at p0 p1 p2; have q0 := (ST.out.kn.at (.tail _ (.tail _ (.head _)))).cell 0; have q1 := (ST.out.kn.at (.tail _ (.tail _ (.head _)))).cell 1; have q2 := (ST.out.kn.at (.tail _ (.tail _ (.head _)))).cell 2; have qz0 := (ST.out.kn.at (.tail _ (.tail _ (.head _)))).frozen 0; have qz1 := (ST.out.kn.at (.tail _ (.tail _ (.head _)))).frozen 1; have qz2 := (ST.out.kn.at (.tail _ (.tail _ (.head _)))).frozen 2; simp only [List.getElem?_toArray, List.getElem?_cons_succ, List.getElem?_cons_zero] at q0 q1 q2
      go_wp2
      have hfin := ((ST.out.kn.at (.tail _ (.tail _ (.head _)))).set 0 (.int .i64 (m : Int))).set 1 (.int .i64 (C : Int)) |>.set 2 (.slice (some ⟨g, 0, none⟩) n n)
      have h3 := hfin.cell 0
      have h4 := hfin.cell 1
      have h5 := hfin.cell 2
      simp only [List.getElem?_toArray, List.getElem?_cons_succ, List.getElem?_cons_zero, List.setIfInBounds_toArray, List.set_cons_zero, List.set_cons_succ] at h3 h4 h5
      refine bodyPost_ret (v := .tuple #[matV m C (some ⟨g, 0, none⟩) n n, .int .i64 0]) ?_ rfl ?_
      · rw [results_cell_tmp rfl]
        go_simp
      · have hle : w.heap.size ≤ w.heap.size + 1 := by omega
        have hs := ST.out
        rw [AL.out] at hs
        have NE2 := own_ne_blk hs.own (hs.kn.at (.tail _ (.tail _ (.head _)))) (by decide)
        refine .inl ⟨AG.out, _, _, rfl, own_mono (ownsRow_setCell_other (ownsRow_setCell_other (ownsRow_setCell_other hs.own NE2 _) NE2 _) NE2 _) (by omega), ((hs.bel.setCell hle _).setCell hle _).setCell hle _⟩
end Go.Proofs.Ytbepadepepoilaa
