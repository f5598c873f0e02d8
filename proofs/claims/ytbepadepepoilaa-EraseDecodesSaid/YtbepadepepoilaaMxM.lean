/- matrix.Mul, walked. -/
import Derived.Test.YtbepadepepoilaaKn
namespace Go.Proofs.Ytbepadepepoilaa
open Go.RowKit
set_option linter.unusedVariables false
set_option linter.unusedSimpArgs false
attribute [local go_sem ↓] Go.wp_at_zero Go.wp_at_succ
theorem addAt_matL {R C r : Nat} (G : Mx) (q : Nat → F) (c : F) (hr : r < R) : addAt (matL R C G) (r * C) (tab C q) c C = matL R C fun i j => if i = r then G i j + q j * c else G i j := by
  refine ext_getD (by rw [length_addAt, length_matL, length_matL]) fun i hi => ?_
  rw [length_addAt, length_matL] at hi
  have hd := div_rows hi
  have e : i / C * C + i % C = i := by rw [Nat.mul_comm]; exact Nat.div_add_mod i C
  rw [addAt, getD_tab _ (by rw [length_matL]; exact hi), matL, getD_tab _ hi, matL, getD_tab _ hi]
  by_cases h : i / C = r
  · have h1 : r * C ≤ i ∧ i < r * C + C := by rw [← h]; omega
    rw [if_pos h1, if_pos h]
    congr 2
    rw [getD_tab _ (by omega)]
    congr 1
    rw [← h]; omega
  · rw [if_neg h, if_neg]
    intro h1
    apply h
    obtain ⟨d, rfl⟩ : ∃ d, i = r * C + d := ⟨i - r * C, by omega⟩
    exact row_div (by omega)
theorem rowA_own {R C r g : Nat} (hr : r < R) : rowA (some ⟨g, 0, none⟩) (R * C) (r * C) = some ⟨g, r * C, none⟩ := by
  unfold rowA
  by_cases h : R * C = r * C
  · rw [if_pos h]
    have : (r + 1) * C ≤ R * C := Nat.mul_le_mul_right _ hr
    rw [Nat.succ_mul] at this
    have hC : C = 0 := by omega
    subst hC
    rfl
  · rw [if_neg h]; simp [add_at]
/-- a row of what came in -/
theorem Bs.row {w : World} {A : Option Addr} {c R C r : Nat} {f : Mx} (h : Bs w A c (matL R C f)) (hr : r < R) : Bs w (rowA A c (r * C)) (c - r * C) (tab C (f r)) := by
  have hle : r * C + C ≤ R * C := by rw [← Nat.succ_mul]; exact Nat.mul_le_mul_right _ hr
  have := Sl.row (lo := r * C) (m := C) h (by rw [List.length_map, length_matL]; exact hle)
  rwa [← List.map_drop, ← List.map_take, matL_row f hr] at this
/-- what a product is while it is made -/
def mulT (R C : Nat) (K : Nat) (f g : Mx) (r k : Nat) : List F := matL R C fun i j => if i < r then mmul K f g i j else if i = r then sumF k (fun t => f r t * g t j) else 0
theorem mulT_step {R C K : Nat} (f g : Mx) {r : Nat} (k : Nat) (hr : r < R) : addAt (mulT R C K f g r k) (r * C) (tab C (g k)) (f r k) C = mulT R C K f g r (k + 1) := by
  rw [mulT, addAt_matL _ _ _ hr]
  refine matL_congr fun i j _ _ => ?_
  by_cases h : i = r
  · subst h; rw [if_pos rfl, if_neg (by omega), if_pos rfl, if_neg (by omega), if_pos rfl, sumF_succ, F.mul_comm (g k j)]
  · rw [if_neg h, if_neg h, if_neg h]
theorem mulT_zero (R C K : Nat) (f g : Mx) : mulT R C K f g 0 0 = matL R C fun _ _ => 0 := matL_congr fun i j _ _ => by
  rw [if_neg (by omega)]; split <;> rfl
theorem mulT_row (R C K : Nat) (f g : Mx) (r : Nat) : mulT R C K f g r K = mulT R C K f g (r + 1) 0 := matL_congr fun i j _ _ => by
  by_cases h : i < r
  · rw [if_pos h, if_pos (by omega)]
  · by_cases e : i = r
    · subst e; rw [if_neg h, if_pos rfl, if_pos (by omega)]; rfl
    · rw [if_neg h, if_neg e, if_neg (by omega)]; split <;> rfl
theorem mulT_all (R C K : Nat) (f g : Mx) : mulT R C K f g R 0 = matL R C (mmul K f g) := matL_congr fun i j hi _ => by
  rw [if_pos hi]
theorem length_mulT (R C K : Nat) (f g : Mx) (r k : Nat) : (mulT R C K f g r k).length = R * C := length_matL _ _ _
set_option maxRecDepth 1000000 in
set_option maxHeartbeats 4000000 in
theorem mx_mul (b R K C : Nat) (A1 : Option Addr) (c1 : Nat) (f : Mx) (A2 : Option Addr) (c2 : Nat) (g' : Mx) (w : World) (hR : R ≤ 256) (hK : K ≤ 256) (hC : C ≤ 256) (hgf : GfAt w b) (ha : Bs w A1 c1 (matL R K f)) (hb : Bs w A2 c2 (matL K C g')) :
    Calls Try.prog 8 #[fp b, matV R K A1 (R * K) c1, matV K C A2 (K * C) c2] w fun e w' => ∃ A' c', e = .returned (.tuple #[matV R C A' (R * C) c', .int .i64 0]) ∧ w'.ownsRow w.heap.size 5 1 (.slice A' (R * C) c') (R * C) ((matL R C (mmul K f g')).map bv) ∧ Below w.heap.size w w' := by
  have HG := Lib.hid hgf
  have HA := Lib.hid ha
  have HB := Lib.hid hb
  have C1 : Hid (∀ w, Calls Try.prog 17 #[matV R K A1 (R * K) c1] w fun e w' => e = .returned (.int .i64 0) ∧ Below w.heap.size w w') := fun w => mx_check_ok R K A1 (R * K) c1 ⟨by omega, by omega, by omega, by omega, by simp⟩ w
  have C2 : Hid (∀ w, Calls Try.prog 17 #[matV K C A2 (K * C) c2] w fun e w' => e = .returned (.int .i64 0) ∧ Below w.heap.size w w') := fun w => mx_check_ok K C A2 (K * C) c2 ⟨by omega, by omega, by omega, by omega, by simp⟩ w
  have EM := Lib.hid (mx_empty R C hR (by omega))
  have RA : Hid (∀ r, r < R → ∀ w, Calls Try.prog 26 #[matV R K A1 (R * K) c1, .int .i64 r] w fun e w' => e = .returned (.slice (rowA A1 c1 (r * K)) K (c1 - r * K)) ∧ Below w.heap.size w w') := fun r hr w => mx_row R K r A1 (R * K) c1 hr hR (by omega) rfl (by have := ha.len; rwa [length_matL] at this) ha.mx w
  have RB : Hid (∀ r, r < K → ∀ w, Calls Try.prog 26 #[matV K C A2 (K * C) c2, .int .i64 r] w fun e w' => e = .returned (.slice (rowA A2 c2 (r * C)) C (c2 - r * C)) ∧ Below w.heap.size w w') := fun r hr w => mx_row K C r A2 (K * C) c2 hr hK (by omega) rfl (by have := hb.len; rwa [length_matL] at this) hb.mx w
  have RM : Hid (∀ g r, r < R → ∀ w, Calls Try.prog 26 #[matV R C (some ⟨g, 0, none⟩) (R * C) (R * C), .int .i64 r] w fun e w' => e = .returned (.slice (some ⟨g, r * C, none⟩) C (R * C - r * C)) ∧ Below w.heap.size w w') := fun g r hr w => by
    have := mx_row R C r (some ⟨g, 0, none⟩) (R * C) (R * C) hr hR (by omega) rfl (Nat.le_refl _) (by have := Nat.mul_le_mul hR hC; unfold maxLen; omega) w
    rwa [rowA_own hr] at this
  have hnR : R * C ≤ 65536 := Nat.mul_le_mul hR hC
  have LM : Hid (∀ r k, (mulT R C K f g' r k).length = R * C) := fun r k => length_mulT _ _ _ _ _ _ _
  have LO : Hid (∀ r, r < R → r * C + C ≤ R * C) := fun r hr => by rw [← Nat.succ_mul]; exact Nat.mul_le_mul_right _ hr
  have M0 : Hid (matL R C (fun _ _ => (0 : F)) = mulT R C K f g' 0 0) := (mulT_zero _ _ _ _ _).symm
  have M1 : Hid (∀ r, mulT R C K f g' r K = mulT R C K f g' (r + 1) 0) := fun r => mulT_row _ _ _ _ _ _
  have M2 : Hid (mulT R C K f g' R 0 = matL R C (mmul K f g')) := mulT_all _ _ _ _ _
  have M3 : Hid (∀ r k, r < R → addAt (mulT R C K f g' r k) (r * C) (tab C (g' k)) (f r k) C = mulT R C K f g' r (k + 1)) := fun r k hr => mulT_step f g' k hr
  clear hgf ha hb
  generalize hn : R * C = n at *
  generalize hn1 : R * K = n1 at *
  generalize hn2 : K * C = n2 at *
  unfold fp
  have K0 := Lib.hid (kn3 w 24 24 24 #[.int .i64 R, .int .i64 K, .slice A1 n1 c1] #[.int .i64 K, .int .i64 C, .slice A2 n2 c2] #[.int .i64 0, .int .i64 0, .slice none 0 0])
  have HW := Lib.hid (below3 w (.cells #[.int .i64 R, .int .i64 K, .slice A1 n1 c1] 24) (.cells #[.int .i64 K, .int .i64 C, .slice A2 n2 c2] 24) (.cells #[.int .i64 0, .int .i64 0, .slice none 0 0] 24))
  go_enter Try.func8, Try.ntmps8
  go_wp2_with (first
    | (go_at_call 17; (with_reducible refine (C1.out _).mono ?_); rintro e w1 ⟨rfl, hb1⟩; have K1 := Lib.hid (K0.out.below hb1); have HW1 := Lib.hid (HW.out.trans (hb1.mono HW.out.size)); clear hb1; have p0 := (K1.out.at (.head _)).cell 0; have p1 := (K1.out.at (.head _)).cell 1; have p2 := (K1.out.at (.head _)).cell 2; simp only [List.getElem?_toArray, List.getElem?_cons_succ, List.getElem?_cons_zero] at p0 p1 p2; have q0 := (K1.out.at (.tail _ (.head _))).cell 0; have q1 := (K1.out.at (.tail _ (.head _))).cell 1; have q2 := (K1.out.at (.tail _ (.head _))).cell 2; simp only [List.getElem?_toArray, List.getElem?_cons_succ, List.getElem?_cons_zero] at q0 q1 q2)
    | (go_at_call 17; (with_reducible refine (C2.out _).mono ?_); rintro e w2 ⟨rfl, hb2⟩; have K2 := Lib.hid (K1.out.below hb2); have HW2 := Lib.hid (HW1.out.trans (hb2.mono HW1.out.size)); clear hb2; clear p0 p1 p2; clear q0 q1 q2; have p0 := (K2.out.at (.head _)).cell 0; have p1 := (K2.out.at (.head _)).cell 1; have p2 := (K2.out.at (.head _)).cell 2; simp only [List.getElem?_toArray, List.getElem?_cons_succ, List.getElem?_cons_zero] at p0 p1 p2; have q0 := (K2.out.at (.tail _ (.head _))).cell 0; have q1 := (K2.out.at (.tail _ (.head _))).cell 1; have q2 := (K2.out.at (.tail _ (.head _))).cell 2; simp only [List.getElem?_toArray, List.getElem?_cons_succ, List.getElem?_cons_zero] at q0 q1 q2)
    | (go_at_call 25; (with_reducible refine (EM.out _).mono ?_); rintro e w3 ⟨g, rfl, ho3, hb3⟩; have K3 := Lib.hid (K2.out.below hb3); have HW3 := Lib.hid (HW2.out.trans (hb3.mono HW2.out.size)); have hg3 := own_some ho3; have HO3 := Lib.hid ho3; have hs3 := HW2.out.size; have K4 := Lib.hid ((K3.out.alloc (.cells #[.int .i64 R, .int .i64 C, .slice (some ⟨g, 0, none⟩) n n] 24)).blk (Blk.new w3 #[.int .i64 R, .int .i64 C, .slice (some ⟨g, 0, none⟩) n n] 24)); clear hb3 ho3; clear p0 p1 p2; clear q0 q1 q2; have p0 := (K4.out.at (.tail _ (.head _))).cell 0; simp only [List.getElem?_toArray, List.getElem?_cons_succ, List.getElem?_cons_zero] at p0))
  have ST0 : Hid (St w (w3.alloc (.cells #[.int .i64 R, .int .i64 C, .slice (some ⟨g, 0, none⟩) n n] 24)) w2.heap.size g n n (mulT R C K f g' 0 0) [(w3.heap.size, 24, #[.int .i64 R, .int .i64 C, .slice (some ⟨g, 0, none⟩) n n]), (w.heap.size, 24, #[.int .i64 R, .int .i64 K, .slice A1 n1 c1]), (w.heap.size + 1, 24, #[.int .i64 K, .int .i64 C, .slice A2 n2 c2]), (w.heap.size + 2, 24, #[.int .i64 0, .int .i64 0, .slice none 0 0])]) := ⟨K4.out, by have := HO3.out.alloc (.cells #[.int .i64 R, .int .i64 C, .slice (some ⟨g, 0, none⟩) n n] 24); rwa [M0.out] at this, HW3.out.alloc HW3.out.size _⟩
  have NE : Hid (∀ x : Nat × TypeId × Array Value, x ∈ [(w3.heap.size, 24, #[.int .i64 R, .int .i64 C, .slice (some ⟨g, 0, none⟩) n n]), (w.heap.size, 24, #[.int .i64 R, .int .i64 K, .slice A1 n1 c1]), (w.heap.size + 1, 24, #[.int .i64 K, .int .i64 C, .slice A2 n2 c2]), (w.heap.size + 2, 24, #[.int .i64 0, .int .i64 0, .slice none 0 0])] → x.1 ≠ g) := fun x hx => by
    simp only [List.mem_cons, List.not_mem_nil, or_false] at hx
    have h1 := K0.out.lt (.tail _ (.tail _ (.head _)))
    rcases hx with rfl | rfl | rfl | rfl
    · show w3.heap.size ≠ g; omega
    · show w.heap.size ≠ g; have := (K2.out.lt (.head _)); omega
    · show w.heap.size + 1 ≠ g; have := (K2.out.lt (.tail _ (.head _))); omega
    · show w.heap.size + 2 ≠ g; have := (K2.out.lt (.tail _ (.tail _ (.head _)))); omega
  have hgw : w.heap.size ≤ g := by omega
  clear K0 K1 K2 K3 K4 HO3 HW HW1 HW2 HW3
  go_loopw [40] (fun v wr => ∃ r : Nat, r ≤ R ∧ v = .int .i64 r ∧ St w wr w2.heap.size g n n (mulT R C K f g' r 0) [(w3.heap.size, 24, #[.int .i64 R, .int .i64 C, .slice (some ⟨g, 0, none⟩) n n]), (w.heap.size, 24, #[.int .i64 R, .int .i64 K, .slice A1 n1 c1]), (w.heap.size + 1, 24, #[.int .i64 K, .int .i64 C, .slice A2 n2 c2]), (w.heap.size + 2, 24, #[.int .i64 0, .int .i64 0, .slice none 0 0])]) (fun v _ => R - (intOf v).toNat)
  case atStart => exact ⟨0, Nat.zero_le _, rfl, ST0.out⟩
  case round =>
    clear ST0
    obtain ⟨r, hr, rfl, hst⟩ := hrel
    have ST := Lib.hid hst
    clear hst
    by_cases hlt : r < R
    · have p0 := (ST.out.kn.at (.tail _ (.head _))).cell 0; have p1 := (ST.out.kn.at (.tail _ (.head _))).cell 1; have p2 := (ST.out.kn.at (.tail _ (.head _))).cell 2; simp only [List.getElem?_toArray, List.getElem?_cons_succ, List.getElem?_cons_zero] at p0 p1 p2
      obtain ⟨A3, c3, ra, ha3⟩ : ∃ A3 c3, (∀ w', Calls Try.prog 26 #[matV R K A1 n1 c1, .int .i64 r] w' fun e w'' => e = .returned (.slice A3 K c3) ∧ Below w'.heap.size w' w'') ∧ Bs w A3 c3 (tab K (f r)) := ⟨_, _, RA.out r hlt, Bs.row HA.out hlt⟩
      have RAr := Lib.hid ra
      have HA3 := Lib.hid ha3
      have RMr := Lib.hid (RM.out g r hlt)
      have hlo := LO.out r hlt
      have M3r := Lib.hid (fun k => M3.out r k hlt)
      clear ra ha3
      generalize hrC : r * C = lo at *
      go_wp2_with (go_at_call 26; (with_reducible refine (RAr.out _).mono ?_); rintro e w6 ⟨rfl, hbel⟩; (first | have ST := Lib.hid (ST.out.below hbel) | have ST := Lib.hid ((ST.out.alloc _).below hbel) | have ST := Lib.hid (((ST.out.alloc _).alloc _).below hbel) | have ST := Lib.hid ((ST.out.drewN _).below hbel) | have ST := Lib.hid (((ST.out.drewN _).alloc _).below hbel) | have ST := Lib.hid (((ST.out.alloc _).drewN _).below hbel) | have ST := Lib.hid ((((ST.out.alloc _).alloc _).drewN _).below hbel) | have ST := Lib.hid ((((ST.out.alloc _).alloc _).alloc _).below hbel) | have ST := Lib.hid ((((ST.out.drewN _).alloc _).alloc _).below hbel)); clear hbel)
      clear p0 p1 p2
      go_loopw [47] (fun v wi => ∃ k : Nat, k ≤ K ∧ v = .int .i64 k ∧ St w wi w2.heap.size g n n (mulT R C K f g' r k) [(w3.heap.size, 24, #[.int .i64 R, .int .i64 C, .slice (some ⟨g, 0, none⟩) n n]), (w.heap.size, 24, #[.int .i64 R, .int .i64 K, .slice A1 n1 c1]), (w.heap.size + 1, 24, #[.int .i64 K, .int .i64 C, .slice A2 n2 c2]), (w.heap.size + 2, 24, #[.int .i64 0, .int .i64 0, .slice none 0 0])]) (fun v _ => K - (intOf v).toNat)
      case atStart => exact ⟨0, Nat.zero_le _, rfl, ST.out⟩
      case round =>
        rename World => wi
        clear ST
        obtain ⟨k, hk, rfl, hst⟩ := hrel
        by_cases hlk : k < K
        · obtain ⟨b2, o2, hA, hbl, hc⟩ := Bs.at' (HA3.out.below hst.bel) (by rw [length_tab]; omega)
          subst hA
          have hcell := hc k (by rw [length_tab]; exact hlk)
          rw [getD_tab _ hlk] at hcell
          have ST := Lib.hid hst
          obtain ⟨A4, c4, rb, hb4⟩ : ∃ A4 c4, (∀ w', Calls Try.prog 26 #[matV K C A2 n2 c2, .int .i64 k] w' fun e w'' => e = .returned (.slice A4 C c4) ∧ Below w'.heap.size w' w'') ∧ Bs w A4 c4 (tab C (g' k)) := ⟨_, _, RB.out k hlk, Bs.row HB.out hlk⟩
          have RBk := Lib.hid rb
          have HB4 := Lib.hid hb4
          have AD : Hid (∀ wx, St w wx w2.heap.size g n n (mulT R C K f g' r k) [(w3.heap.size, 24, #[.int .i64 R, .int .i64 C, .slice (some ⟨g, 0, none⟩) n n]), (w.heap.size, 24, #[.int .i64 R, .int .i64 K, .slice A1 n1 c1]), (w.heap.size + 1, 24, #[.int .i64 K, .int .i64 C, .slice A2 n2 c2]), (w.heap.size + 2, 24, #[.int .i64 0, .int .i64 0, .slice none 0 0])] → Calls Try.prog 27 #[fp b, .slice (some ⟨g, lo, none⟩) C (n - lo), .slice A4 C c4, .int .u8 (f r k).n] wx fun e w' => e = .returned (.tuple #[]) ∧ St w w' w2.heap.size g n n (mulT R C K f g' r (k + 1)) [(w3.heap.size, 24, #[.int .i64 R, .int .i64 C, .slice (some ⟨g, 0, none⟩) n n]), (w.heap.size, 24, #[.int .i64 R, .int .i64 K, .slice A1 n1 c1]), (w.heap.size + 1, 24, #[.int .i64 K, .int .i64 C, .slice A2 n2 c2]), (w.heap.size + 2, 24, #[.int .i64 0, .int .i64 0, .slice none 0 0])]) := fun wx hs => by
            have h := mx_adds b w2.heap.size g n n lo (n - lo) (mulT R C K f g' r k) (tab C (g' k)) A4 c4 (f r k) wx (LM.out _ _) (by rw [length_tab]; omega) (by rw [length_tab]; omega) (by omega) hs.own (fun wr L' hbs _ _ => HB4.out.below (Beside.under hs.bel hbs hgw hs.bel.size)) (fun wr L' hbs _ _ => HG.out.below (Beside.under hs.bel hbs hgw hs.bel.size))
            rw [length_tab, M3r.out k] at h
            exact h.mono fun e w' ⟨he, ho, hb⟩ => ⟨he, hs.write hb ho NE.out hgw⟩
          clear hc hst rb hb4 HA3 RAr
          unfold fp at AD
          generalize f r k = x at *
          have p0 := (ST.out.kn.at (.head _)).cell 0; have p1 := (ST.out.kn.at (.head _)).cell 1; have p2 := (ST.out.kn.at (.head _)).cell 2; simp only [List.getElem?_toArray, List.getElem?_cons_succ, List.getElem?_cons_zero] at p0 p1 p2; have q0 := (ST.out.kn.at (.tail _ (.tail _ (.head _)))).cell 0; have q1 := (ST.out.kn.at (.tail _ (.tail _ (.head _)))).cell 1; have q2 := (ST.out.kn.at (.tail _ (.tail _ (.head _)))).cell 2; simp only [List.getElem?_toArray, List.getElem?_cons_succ, List.getElem?_cons_zero] at q0 q1 q2
          go_wp2
          go_region_law (first
            | (go_simp; go_at_call 26; (with_reducible refine (RMr.out _).mono ?_); rintro e w7 ⟨rfl, hbel⟩; (first | have ST := Lib.hid (ST.out.below hbel) | have ST := Lib.hid ((ST.out.alloc _).below hbel) | have ST := Lib.hid (((ST.out.alloc _).alloc _).below hbel) | have ST := Lib.hid ((ST.out.drewN _).below hbel) | have ST := Lib.hid (((ST.out.drewN _).alloc _).below hbel) | have ST := Lib.hid (((ST.out.alloc _).drewN _).below hbel) | have ST := Lib.hid ((((ST.out.alloc _).alloc _).drewN _).below hbel) | have ST := Lib.hid ((((ST.out.alloc _).alloc _).alloc _).below hbel) | have ST := Lib.hid ((((ST.out.drewN _).alloc _).alloc _).below hbel)); clear p0 p1 p2; clear q0 q1 q2; have p0 := (ST.out.kn.at (.head _)).cell 0; have p1 := (ST.out.kn.at (.head _)).cell 1; have p2 := (ST.out.kn.at (.head _)).cell 2; simp only [List.getElem?_toArray, List.getElem?_cons_succ, List.getElem?_cons_zero] at p0 p1 p2; have q0 := (ST.out.kn.at (.tail _ (.tail _ (.head _)))).cell 0; have q1 := (ST.out.kn.at (.tail _ (.tail _ (.head _)))).cell 1; have q2 := (ST.out.kn.at (.tail _ (.tail _ (.head _)))).cell 2; simp only [List.getElem?_toArray, List.getElem?_cons_succ, List.getElem?_cons_zero] at q0 q1 q2; clear hbel)
            | (go_simp; go_at_call 26; (with_reducible refine (RBk.out _).mono ?_); rintro e w7 ⟨rfl, hbel⟩; (first | have ST := Lib.hid (ST.out.below hbel) | have ST := Lib.hid ((ST.out.alloc _).below hbel) | have ST := Lib.hid (((ST.out.alloc _).alloc _).below hbel) | have ST := Lib.hid ((ST.out.drewN _).below hbel) | have ST := Lib.hid (((ST.out.drewN _).alloc _).below hbel) | have ST := Lib.hid (((ST.out.alloc _).drewN _).below hbel) | have ST := Lib.hid ((((ST.out.alloc _).alloc _).drewN _).below hbel) | have ST := Lib.hid ((((ST.out.alloc _).alloc _).alloc _).below hbel) | have ST := Lib.hid ((((ST.out.drewN _).alloc _).alloc _).below hbel)); clear p0 p1 p2; clear q0 q1 q2; have p0 := (ST.out.kn.at (.head _)).cell 0; have p1 := (ST.out.kn.at (.head _)).cell 1; have p2 := (ST.out.kn.at (.head _)).cell 2; simp only [List.getElem?_toArray, List.getElem?_cons_succ, List.getElem?_cons_zero] at p0 p1 p2; have q0 := (ST.out.kn.at (.tail _ (.tail _ (.head _)))).cell 0; have q1 := (ST.out.kn.at (.tail _ (.tail _ (.head _)))).cell 1; have q2 := (ST.out.kn.at (.tail _ (.tail _ (.head _)))).cell 2; simp only [List.getElem?_toArray, List.getElem?_cons_succ, List.getElem?_cons_zero] at q0 q1 q2; clear hbel)
            | (go_simp; go_at_call 27; (with_reducible refine (AD.out _ ?_).mono ?_); (first | exact ST.out | exact (ST.out.alloc _) | exact ((ST.out.alloc _).alloc _) | exact (ST.out.drewN _) | exact ((ST.out.drewN _).alloc _) | exact ((ST.out.alloc _).drewN _) | exact (((ST.out.alloc _).alloc _).drewN _) | exact (((ST.out.alloc _).alloc _).alloc _) | exact (((ST.out.drewN _).alloc _).alloc _)); rintro e w8 ⟨rfl, hst⟩; have ST8 := Lib.hid hst; clear hst))
          all_goals
            go_wp2
            go_roundw
            case rel => exact ⟨k + 1, by omega, by go_num, ST8.out⟩
            case measure => simp [intOf]; omega
        · have hke : k = K := by omega
          subst hke
          have ST := Lib.hid hst
          clear hst
          go_wp2
          go_roundw
          case rel => exact ⟨r + 1, by omega, by go_num, by rw [← M1.out r]; exact ST.out⟩
          case measure => simp [intOf]; omega
    · have hre : r = R := by omega
      subst hre
      have p0 := (ST.out.kn.at (.head _)).cell 0; have p1 := (ST.out.kn.at (.head _)).cell 1; have p2 := (ST.out.kn.at (.head _)).cell 2; simp only [List.getElem?_toArray, List.getElem?_cons_succ, List.getElem?_cons_zero] at p0 p1 p2; have q0 := (ST.out.kn.at (.tail _ (.tail _ (.tail _ (.head _))))).cell 0; have q1 := (ST.out.kn.at (.tail _ (.tail _ (.tail _ (.head _))))).cell 1; have q2 := (ST.out.kn.at (.tail _ (.tail _ (.tail _ (.head _))))).cell 2; have qz0 := (ST.out.kn.at (.tail _ (.tail _ (.tail _ (.head _))))).frozen 0; have qz1 := (ST.out.kn.at (.tail _ (.tail _ (.tail _ (.head _))))).frozen 1; have qz2 := (ST.out.kn.at (.tail _ (.tail _ (.tail _ (.head _))))).frozen 2; simp only [List.getElem?_toArray, List.getElem?_cons_succ, List.getElem?_cons_zero] at q0 q1 q2
      go_wp2
      have hfin := ((ST.out.kn.at (.tail _ (.tail _ (.tail _ (.head _))))).set 0 (.int .i64 (r : Int))).set 1 (.int .i64 (C : Int)) |>.set 2 (.slice (some ⟨g, 0, none⟩) n n)
      have h3 := hfin.cell 0
      have h4 := hfin.cell 1
      have h5 := hfin.cell 2
      simp only [List.getElem?_toArray, List.getElem?_cons_succ, List.getElem?_cons_zero, List.setIfInBounds_toArray, List.set_cons_zero, List.set_cons_succ] at h3 h4 h5
      refine bodyPost_ret (v := .tuple #[matV r C (some ⟨g, 0, none⟩) n n, .int .i64 0]) ?_ rfl ?_
      · rw [results_cell_tmp rfl]
        go_simp
      · have hle : w.heap.size ≤ w.heap.size + 2 := Nat.le_add_right _ _
        have hs := ST.out
        rw [M2.out] at hs
        have NE2 := own_ne_blk hs.own (hs.kn.at (.tail _ (.tail _ (.tail _ (.head _))))) (by decide)
        refine ⟨_, _, rfl, own_mono (ownsRow_setCell_other (ownsRow_setCell_other (ownsRow_setCell_other hs.own NE2 _) NE2 _) NE2 _) (by omega), ((hs.bel.setCell hle _).setCell hle _).setCell hle _⟩
end Go.Proofs.Ytbepadepepoilaa
