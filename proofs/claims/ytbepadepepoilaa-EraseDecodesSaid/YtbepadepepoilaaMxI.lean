/- matrix.Invert, walked. -/
import Derived.Test.YtbepadepepoilaaMxIp
import Derived.Deep.LoopGhost
import Derived.WalkMore
namespace Go.Proofs.Ytbepadepepoilaa
open Go.RowKit
set_option linter.unusedVariables false
set_option linter.unusedSimpArgs false
attribute [local go_sem ↓] Go.wp_at_zero Go.wp_at_succ
set_option maxRecDepth 1000000 in
set_option maxHeartbeats 8000000 in
theorem mx_invert (b n : Nat) (A1 : Option Addr) (c1 : Nat) (a : Mx) (w : World) (hn : n ≤ 256) (hgf : GfAt w b) (ha : Bs w A1 c1 (matL n n a)) :
    Calls Try.prog 10 #[fp b, matV n n A1 (n * n) c1] w (InvR w n a) := by
  have HG := Lib.hid hgf
  have HA := Lib.hid ha
  have CK : Hid (∀ w, Calls Try.prog 17 #[matV n n A1 (n * n) c1] w fun e w' => e = .returned (.int .i64 0) ∧ Below w.heap.size w w') := fun w => mx_check_ok n n A1 (n * n) c1 ⟨by omega, by omega, by omega, by omega, by simp⟩ w
  obtain ⟨m, hm⟩ : ∃ m, m = 2 * n := ⟨_, rfl⟩
  have hm1 : m ≤ 2 * n := by omega
  have hm2 : 2 * n ≤ m := by omega
  have c2 : (2 : Int) * (n : Int) = (m : Int) := by omega
  have EM := Lib.hid (mx_empty n m hn (by omega))
  have EO := Lib.hid (mx_empty n n hn (by omega))
  have RA : Hid (∀ r, r < n → ∀ w, Calls Try.prog 26 #[matV n n A1 (n * n) c1, .int .i64 r] w fun e w' => e = .returned (.slice (rowA A1 c1 (r * n)) n (c1 - r * n)) ∧ Below w.heap.size w w') := fun r hr w => mx_row n n r A1 (n * n) c1 hr hn (by omega) rfl (by have := ha.len; rwa [length_matL] at this) ha.mx w
  have hNb : n * m ≤ 131072 := Nat.mul_le_mul hn (by omega : m ≤ 512)
  have RM : Hid (∀ g r, r < n → ∀ w, Calls Try.prog 26 #[matV n m (some ⟨g, 0, none⟩) (n * m) (n * m), .int .i64 r] w fun e w' => e = .returned (.slice (some ⟨g, r * m, none⟩) m (n * m - r * m)) ∧ Below w.heap.size w w') := fun g r hr w => by
    have := mx_row n m r (some ⟨g, 0, none⟩) (n * m) (n * m) hr hn (by omega) rfl (Nat.le_refl _) (by unfold maxLen; omega) w
    rwa [rowA_own hr] at this
  have hnb : n * n ≤ 65536 := Nat.mul_le_mul hn hn
  have RO : Hid (∀ g r, r < n → ∀ w, Calls Try.prog 26 #[matV n n (some ⟨g, 0, none⟩) (n * n) (n * n), .int .i64 r] w fun e w' => e = .returned (.slice (some ⟨g, r * n, none⟩) n (n * n - r * n)) ∧ Below w.heap.size w w') := fun g r hr w => by
    have := mx_row n n r (some ⟨g, 0, none⟩) (n * n) (n * n) hr hn (by omega) rfl (Nat.le_refl _) (by unfold maxLen; omega) w
    rwa [rowA_own hr] at this
  have LM : Hid (∀ W : Mx, (matL n m W).length = n * m) := fun W => length_matL _ _ _
  have LMO : Hid (∀ W : Mx, (matL n n W).length = n * n) := fun W => length_matL _ _ _
  have LO : Hid (∀ r, r < n → r * m + m ≤ n * m) := fun r hr => by rw [← Nat.succ_mul]; exact Nat.mul_le_mul_right _ hr
  have LOO : Hid (∀ r, r < n → r * n + n ≤ n * n) := fun r hr => by rw [← Nat.succ_mul]; exact Nat.mul_le_mul_right _ hr
  have HM := Lib.hid hm
  clear hgf ha hm
  unfold InvR
  have FIN : Hid (∀ (e : Ending) (w' : World), InvR w n a e w' → InvR w n a e w') := fun _ _ h => h
  unfold InvR at FIN
  generalize hN : n * m = N at *
  generalize hnn : n * n = nn at *
  have K0 := Lib.hid (kn2 w 24 24 #[.int .i64 n, .int .i64 n, .slice A1 nn c1] #[.int .i64 0, .int .i64 0, .slice none 0 0])
  have HW := Lib.hid (below2 w (.cells #[.int .i64 n, .int .i64 n, .slice A1 nn c1] 24) (.cells #[.int .i64 0, .int .i64 0, .slice none 0 0] 24))
  unfold fp
  go_enter Try.func10, Try.ntmps10
  go_wp2
  go_step3
  go_wp2_with (first
    | (go_at_call 17; (with_reducible refine (CK.out _).mono ?_); rintro e w1 ⟨rfl, hb1⟩; have K1 := Lib.hid (K0.out.below hb1); have HW1 := Lib.hid (HW.out.trans (hb1.mono HW.out.size)); clear hb1; have p0 := (K1.out.at (.head _)).cell 0; have p1 := (K1.out.at (.head _)).cell 1; have p2 := (K1.out.at (.head _)).cell 2; simp only [List.getElem?_toArray, List.getElem?_cons_succ, List.getElem?_cons_zero] at p0 p1 p2)
    | (go_at_call 25; (with_reducible refine (EM.out _).mono ?_); rintro e w2 ⟨g, rfl, ho2, hb2⟩; have K2 := Lib.hid (K1.out.below hb2); have HW2 := Lib.hid (HW1.out.trans (hb2.mono HW1.out.size)); have hg2 := own_some ho2; have HO2 := Lib.hid ho2; have hsz := K1.out.lt (.tail _ (.head _)); have hw1 := HW1.out.size; clear hb2 ho2; clear p0 p1 p2))
  have K3 := Lib.hid ((K2.out.alloc (.cells #[.int .i64 n, .int .i64 m, .slice (some ⟨g, 0, none⟩) N N] 24)).blk (Blk.new w2 #[.int .i64 n, .int .i64 m, .slice (some ⟨g, 0, none⟩) N N] 24))
  have ST0 : Hid (St w (w2.alloc (.cells #[.int .i64 n, .int .i64 m, .slice (some ⟨g, 0, none⟩) N N] 24)) w1.heap.size g N N (matL n m (iniM n a 0)) [(w2.heap.size, 24, #[.int .i64 n, .int .i64 m, .slice (some ⟨g, 0, none⟩) N N]), (w.heap.size, 24, #[.int .i64 n, .int .i64 n, .slice A1 nn c1]), (w.heap.size + 1, 24, #[.int .i64 0, .int .i64 0, .slice none 0 0])]) := ⟨K3.out, by have := HO2.out.alloc (.cells #[.int .i64 n, .int .i64 m, .slice (some ⟨g, 0, none⟩) N N] 24); rwa [ini_zero n m a] at this, HW2.out.alloc HW2.out.size _⟩
  have NE : Hid (∀ x : Nat × TypeId × Array Value, x ∈ [(w2.heap.size, 24, #[.int .i64 n, .int .i64 m, .slice (some ⟨g, 0, none⟩) N N]), (w.heap.size, 24, #[.int .i64 n, .int .i64 n, .slice A1 nn c1]), (w.heap.size + 1, 24, #[.int .i64 0, .int .i64 0, .slice none 0 0])] → x.1 ≠ g) := fun x hx => by
    simp only [List.mem_cons, List.not_mem_nil, or_false] at hx
    rcases hx with rfl | rfl | rfl
    · show w2.heap.size ≠ g; omega
    · show w.heap.size ≠ g; omega
    · show w.heap.size + 1 ≠ g; omega
  have hgw : w.heap.size ≤ g := by omega
  clear K0 K1 K2 K3 HO2 HW HW1 HW2
  go_loopw [42] (fun v wr => ∃ r : Nat, r ≤ n ∧ v = .int .i64 r ∧ St w wr w1.heap.size g N N (matL n m (iniM n a r)) [(w2.heap.size, 24, #[.int .i64 n, .int .i64 m, .slice (some ⟨g, 0, none⟩) N N]), (w.heap.size, 24, #[.int .i64 n, .int .i64 n, .slice A1 nn c1]), (w.heap.size + 1, 24, #[.int .i64 0, .int .i64 0, .slice none 0 0])]) (fun v _ => n - (intOf v).toNat)
  case atStart => exact ⟨0, Nat.zero_le _, rfl, ST0.out⟩
  case round =>
    clear ST0
    obtain ⟨r, hr, rfl, hst⟩ := hrel
    have ST := Lib.hid hst
    clear hst
    by_cases hlt : r < n
    · have p0 := (ST.out.kn.at (.head _)).cell 0; have p1 := (ST.out.kn.at (.head _)).cell 1; have p2 := (ST.out.kn.at (.head _)).cell 2; simp only [List.getElem?_toArray, List.getElem?_cons_succ, List.getElem?_cons_zero] at p0 p1 p2; have q0 := (ST.out.kn.at (.tail _ (.head _))).cell 0; have q1 := (ST.out.kn.at (.tail _ (.head _))).cell 1; have q2 := (ST.out.kn.at (.tail _ (.head _))).cell 2; simp only [List.getElem?_toArray, List.getElem?_cons_succ, List.getElem?_cons_zero] at q0 q1 q2
      have RMr := Lib.hid (RM.out g r hlt)
      obtain ⟨A3, c3, ra, ha3⟩ : ∃ A3 c3, (∀ w', Calls Try.prog 26 #[matV n n A1 nn c1, .int .i64 r] w' fun e w'' => e = .returned (.slice A3 n c3) ∧ Below w'.heap.size w' w'') ∧ Bs w A3 c3 (tab n (a r)) := ⟨_, _, RA.out r hlt, Bs.row HA.out hlt⟩
      have RAr := Lib.hid ra
      have HA3 := Lib.hid ha3
      have hlo := LO.out r hlt
      have IC := Lib.hid (ini_copy a hlt HM.out)
      have IS := Lib.hid (ini_set a hlt HM.out)
      clear ra ha3
      generalize r * m = lo at *
      go_wp2
      go_region_law (first
        | (go_simp; go_at_call 26; (with_reducible refine (RMr.out _).mono ?_); rintro e w7 ⟨rfl, hbel⟩; (first | have ST := Lib.hid (ST.out.below hbel) | have ST := Lib.hid ((ST.out.alloc _).below hbel) | have ST := Lib.hid (((ST.out.alloc _).alloc _).below hbel) | have ST := Lib.hid ((ST.out.drewN _).below hbel) | have ST := Lib.hid (((ST.out.drewN _).alloc _).below hbel) | have ST := Lib.hid (((ST.out.alloc _).drewN _).below hbel) | have ST := Lib.hid ((((ST.out.alloc _).alloc _).drewN _).below hbel) | have ST := Lib.hid ((((ST.out.alloc _).alloc _).alloc _).below hbel) | have ST := Lib.hid ((((ST.out.drewN _).alloc _).alloc _).below hbel)); clear p0 p1 p2; clear q0 q1 q2; have p0 := (ST.out.kn.at (.head _)).cell 0; have p1 := (ST.out.kn.at (.head _)).cell 1; have p2 := (ST.out.kn.at (.head _)).cell 2; simp only [List.getElem?_toArray, List.getElem?_cons_succ, List.getElem?_cons_zero] at p0 p1 p2; have q0 := (ST.out.kn.at (.tail _ (.head _))).cell 0; have q1 := (ST.out.kn.at (.tail _ (.head _))).cell 1; have q2 := (ST.out.kn.at (.tail _ (.head _))).cell 2; simp only [List.getElem?_toArray, List.getElem?_cons_succ, List.getElem?_cons_zero] at q0 q1 q2; clear hbel)
        | (go_simp; go_at_call 26; (with_reducible refine (RAr.out _).mono ?_); rintro e w7 ⟨rfl, hbel⟩; (first | have ST := Lib.hid (ST.out.below hbel) | have ST := Lib.hid ((ST.out.alloc _).below hbel) | have ST := Lib.hid (((ST.out.alloc _).alloc _).below hbel) | have ST := Lib.hid ((ST.out.drewN _).below hbel) | have ST := Lib.hid (((ST.out.drewN _).alloc _).below hbel) | have ST := Lib.hid (((ST.out.alloc _).drewN _).below hbel) | have ST := Lib.hid ((((ST.out.alloc _).alloc _).drewN _).below hbel) | have ST := Lib.hid ((((ST.out.alloc _).alloc _).alloc _).below hbel) | have ST := Lib.hid ((((ST.out.drewN _).alloc _).alloc _).below hbel)); clear p0 p1 p2; clear q0 q1 q2; have p0 := (ST.out.kn.at (.head _)).cell 0; have p1 := (ST.out.kn.at (.head _)).cell 1; have p2 := (ST.out.kn.at (.head _)).cell 2; simp only [List.getElem?_toArray, List.getElem?_cons_succ, List.getElem?_cons_zero] at p0 p1 p2; have q0 := (ST.out.kn.at (.tail _ (.head _))).cell 0; have q1 := (ST.out.kn.at (.tail _ (.head _))).cell 1; have q2 := (ST.out.kn.at (.tail _ (.head _))).cell 2; simp only [List.getElem?_toArray, List.getElem?_cons_succ, List.getElem?_cons_zero] at q0 q1 q2; clear hbel)
        | (refine step_copy_bytes rfl _ _ rfl w1.heap.size g N N lo (N - lo) (matL n m (iniM n a r)) (tab n (a r)) A3 c3 n (length_tab _ _) m (by omega) rfl rfl (LM.out _) ST.out.own (HA3.out.below ST.out.bel) (by omega) ?_; intro w8 ho8 hb8; have ST8 := Lib.hid (ST.out.write hb8 ho8 NE.out hgw); rw [IC.out] at ST8; clear ho8 hb8; clear p0 p1 p2; clear q0 q1 q2; have p0 := (ST8.out.kn.at (.head _)).cell 0; have p1 := (ST8.out.kn.at (.head _)).cell 1; have p2 := (ST8.out.kn.at (.head _)).cell 2; simp only [List.getElem?_toArray, List.getElem?_cons_succ, List.getElem?_cons_zero] at p0 p1 p2))
      all_goals
        have hset := ST8.out.set (lo + (n + r)) 1 NE.out hgw
        rw [IS.out] at hset
        have HSET := Lib.hid hset
        have hfz := ST8.out.own.frozenAt (lo + (n + r))
        have hcl := ST8.out.own.cellAt (lo + (n + r)) (by omega)
        rw [getElem?_bv (by rw [LM.out]; omega)] at hcl
        generalize (matL n m (iniC n a r)).getD (lo + (n + r)) 0 = old at *
        clear hset
        go_wp2_with (go_at_call 26; (with_reducible refine (RMr.out _).mono ?_); rintro e w9 ⟨rfl, hbel⟩; (first | have ST9 := Lib.hid (ST8.out.below hbel) | have ST9 := Lib.hid ((ST8.out.drewN _).below hbel)); have hset := ST9.out.set (lo + (n + r)) 1 NE.out hgw; rw [IS.out] at hset; have HSET2 := Lib.hid hset; have hfz2 := ST9.out.own.frozenAt (lo + (n + r)); have hcl2 := ST9.out.own.cellAt (lo + (n + r)) (by omega); rw [getElem?_bv (by rw [LM.out]; omega)] at hcl2; generalize (matL n m (iniC n a r)).getD (lo + (n + r)) 0 = old2 at *; clear hset hbel)
        go_roundw
        case rel => exact ⟨r + 1, by omega, by go_num, HSET2.out⟩
        case measure => simp [intOf]; omega
    · have hre : r = n := by omega
      rw [hre, ini_all n m a] at ST
      clear hre
      go_wp2
      go_step3
      go_wp2
      go_loopg [61] n (fun gn v wx => ∃ (c : Nat) (W : Mx), c + gn = n ∧ v = .int .i64 c ∧ Hid (Gj1 n c W (wide n a)) ∧ St w wx w1.heap.size g N N (matL n m W) [(w2.heap.size, 24, #[.int .i64 n, .int .i64 m, .slice (some ⟨g, 0, none⟩) N N]), (w.heap.size, 24, #[.int .i64 n, .int .i64 n, .slice A1 nn c1]), (w.heap.size + 1, 24, #[.int .i64 0, .int .i64 0, .slice none 0 0])])
      case atStart => exact ⟨0, wide n a, by omega, rfl, Gj1.start n _, ST.out⟩
      case round =>
        clear ST
        obtain ⟨c, W, hcg, rfl, hgj, hst⟩ := hrel
        have ST := Lib.hid hst
        clear hst
        cases gk with
        | zero =>
          have hcn : ¬ c < n := by omega
          have HCN := Lib.hid (show c = n by omega)
          clear hcg
          have hgj2 : Gj1 n n W (wide n a) := by have := hgj.out; rwa [HCN.out] at this
          have DONE := Lib.hid hgj2.done
          clear hgj2
          have p0 := (ST.out.kn.at (.head _)).cell 0; have p1 := (ST.out.kn.at (.head _)).cell 1; have p2 := (ST.out.kn.at (.head _)).cell 2; simp only [List.getElem?_toArray, List.getElem?_cons_succ, List.getElem?_cons_zero] at p0 p1 p2
          go_wp2_with (go_at_call 25; (with_reducible refine (EO.out _).mono ?_); rintro e w5 ⟨g5, rfl, ho5, hb5⟩; have K5 := Lib.hid (ST.out.kn.below hb5); have hg5 := own_some ho5; have HO5 := Lib.hid ho5; have HB5 := Lib.hid hb5; clear ho5 hb5; clear p0 p1 p2)
          have K6 := Lib.hid ((K5.out.alloc (.cells #[.int .i64 n, .int .i64 n, .slice (some ⟨g5, 0, none⟩) nn nn] 24)).blk (Blk.new w5 #[.int .i64 n, .int .i64 n, .slice (some ⟨g5, 0, none⟩) nn nn] 24))
          have hsz5 := HB5.out.size
          have ST6 : Hid (St wr (w5.alloc (.cells #[.int .i64 n, .int .i64 n, .slice (some ⟨g5, 0, none⟩) nn nn] 24)) wr.heap.size g5 nn nn (matL n n (outM W n 0)) [(w5.heap.size, 24, #[.int .i64 n, .int .i64 n, .slice (some ⟨g5, 0, none⟩) nn nn]), (w2.heap.size, 24, #[.int .i64 n, .int .i64 m, .slice (some ⟨g, 0, none⟩) N N]), (w.heap.size, 24, #[.int .i64 n, .int .i64 n, .slice A1 nn c1]), (w.heap.size + 1, 24, #[.int .i64 0, .int .i64 0, .slice none 0 0])]) := ⟨K6.out, by have := HO5.out.alloc (.cells #[.int .i64 n, .int .i64 n, .slice (some ⟨g5, 0, none⟩) nn nn] 24); rwa [out_zero n W] at this, HB5.out.alloc HB5.out.size _⟩
          have NE6 : Hid (∀ x : Nat × TypeId × Array Value, x ∈ [(w5.heap.size, 24, #[.int .i64 n, .int .i64 n, .slice (some ⟨g5, 0, none⟩) nn nn]), (w2.heap.size, 24, #[.int .i64 n, .int .i64 m, .slice (some ⟨g, 0, none⟩) N N]), (w.heap.size, 24, #[.int .i64 n, .int .i64 n, .slice A1 nn c1]), (w.heap.size + 1, 24, #[.int .i64 0, .int .i64 0, .slice none 0 0])] → x.1 ≠ g5) := fun x hx => by
            have h1 := ST.out.kn.lt (.head _)
            have h2 := ST.out.kn.lt (.tail _ (.head _))
            have h3 := ST.out.kn.lt (.tail _ (.tail _ (.head _)))
            simp only [List.mem_cons, List.not_mem_nil, or_false] at hx
            rcases hx with rfl | rfl | rfl | rfl
            · show w5.heap.size ≠ g5; omega
            · show w2.heap.size ≠ g5; omega
            · show w.heap.size ≠ g5; omega
            · show w.heap.size + 1 ≠ g5; omega
          have hgw6 : wr.heap.size ≤ g5 := by omega
          have SRC : Hid (∀ r, r < n → Bs wr (some ⟨g, r * m + n, none⟩) (N - r * m - n) (tab n fun j => W r (n + j))) := fun r hr => by
            have h1 := LO.out r hr
            refine bs_of_own ST.out.own (LM.out W) (by omega) (fun j hj => ?_) (by omega) (by unfold maxLen; omega)
            rw [Nat.add_assoc, getD_matL _ hr (by omega)]
          have HWX := Lib.hid ST.out.bel
          have hwx := HWX.out.size
          clear K5 K6 HO5 HB5
          go_loopw [139] (fun v wy => ∃ r : Nat, r ≤ n ∧ v = .int .i64 r ∧ St wr wy wr.heap.size g5 nn nn (matL n n (outM W n r)) [(w5.heap.size, 24, #[.int .i64 n, .int .i64 n, .slice (some ⟨g5, 0, none⟩) nn nn]), (w2.heap.size, 24, #[.int .i64 n, .int .i64 m, .slice (some ⟨g, 0, none⟩) N N]), (w.heap.size, 24, #[.int .i64 n, .int .i64 n, .slice A1 nn c1]), (w.heap.size + 1, 24, #[.int .i64 0, .int .i64 0, .slice none 0 0])]) (fun v _ => n - (intOf v).toNat)
          case atStart => exact ⟨0, Nat.zero_le _, rfl, ST6.out⟩
          case round =>
            rename World => wy
            clear ST6 ST
            obtain ⟨r5, hr5, rfl, hst⟩ := hrel
            have ST := Lib.hid hst
            clear hst
            by_cases hlt5 : r5 < n
            · have p0 := (ST.out.kn.at (.head _)).cell 0; have p1 := (ST.out.kn.at (.head _)).cell 1; have p2 := (ST.out.kn.at (.head _)).cell 2; simp only [List.getElem?_toArray, List.getElem?_cons_succ, List.getElem?_cons_zero] at p0 p1 p2; have q0 := (ST.out.kn.at (.tail _ (.head _))).cell 0; have q1 := (ST.out.kn.at (.tail _ (.head _))).cell 1; have q2 := (ST.out.kn.at (.tail _ (.head _))).cell 2; simp only [List.getElem?_toArray, List.getElem?_cons_succ, List.getElem?_cons_zero] at q0 q1 q2
              have RO5 := Lib.hid (RO.out g5 r5 hlt5)
              have RM5 := Lib.hid (RM.out g r5 hlt5)
              have SR5 := Lib.hid (SRC.out r5 hlt5)
              have hlo := LO.out r5 hlt5
              have hloo := LOO.out r5 hlt5
              have OC := Lib.hid (out_copy W hlt5)
              have HMS := Lib.hid (show (tab n fun j => W r5 (n + j)).length = m - n by rw [length_tab]; omega)
              generalize r5 * m = lr at *
              generalize r5 * n = lo at *
              have hs0 : (0 : Int) ≤ (n : Int) := by omega
              have hs1 : (n : Int) ≤ (m : Int) := by omega
              have hs2 : (m : Int) ≤ ((N - lr : Nat) : Int) := by omega
              have hs3 : ¬ N - lr = n := by omega
              have hs4 : n ≤ m := by omega
              have hs5 : m ≤ N - lr := by omega
              go_wp2
              go_region_law (first
                | (go_simp; go_at_call 26; (with_reducible refine (RO5.out _).mono ?_); rintro e w7 ⟨rfl, hbel⟩; (first | have ST := Lib.hid (ST.out.below hbel) | have ST := Lib.hid ((ST.out.alloc _).below hbel) | have ST := Lib.hid (((ST.out.alloc _).alloc _).below hbel) | have ST := Lib.hid ((ST.out.drewN _).below hbel) | have ST := Lib.hid (((ST.out.drewN _).alloc _).below hbel) | have ST := Lib.hid (((ST.out.alloc _).drewN _).below hbel) | have ST := Lib.hid ((((ST.out.alloc _).alloc _).drewN _).below hbel) | have ST := Lib.hid ((((ST.out.alloc _).alloc _).alloc _).below hbel) | have ST := Lib.hid ((((ST.out.drewN _).alloc _).alloc _).below hbel)); clear p0 p1 p2; clear q0 q1 q2; have p0 := (ST.out.kn.at (.head _)).cell 0; have p1 := (ST.out.kn.at (.head _)).cell 1; have p2 := (ST.out.kn.at (.head _)).cell 2; simp only [List.getElem?_toArray, List.getElem?_cons_succ, List.getElem?_cons_zero] at p0 p1 p2; have q0 := (ST.out.kn.at (.tail _ (.head _))).cell 0; have q1 := (ST.out.kn.at (.tail _ (.head _))).cell 1; have q2 := (ST.out.kn.at (.tail _ (.head _))).cell 2; simp only [List.getElem?_toArray, List.getElem?_cons_succ, List.getElem?_cons_zero] at q0 q1 q2; clear hbel)
                | (go_simp; go_at_call 26; (with_reducible refine (RM5.out _).mono ?_); rintro e w7 ⟨rfl, hbel⟩; (first | have ST := Lib.hid (ST.out.below hbel) | have ST := Lib.hid ((ST.out.alloc _).below hbel) | have ST := Lib.hid (((ST.out.alloc _).alloc _).below hbel) | have ST := Lib.hid ((ST.out.drewN _).below hbel) | have ST := Lib.hid (((ST.out.drewN _).alloc _).below hbel) | have ST := Lib.hid (((ST.out.alloc _).drewN _).below hbel) | have ST := Lib.hid ((((ST.out.alloc _).alloc _).drewN _).below hbel) | have ST := Lib.hid ((((ST.out.alloc _).alloc _).alloc _).below hbel) | have ST := Lib.hid ((((ST.out.drewN _).alloc _).alloc _).below hbel)); clear p0 p1 p2; clear q0 q1 q2; have p0 := (ST.out.kn.at (.head _)).cell 0; have p1 := (ST.out.kn.at (.head _)).cell 1; have p2 := (ST.out.kn.at (.head _)).cell 2; simp only [List.getElem?_toArray, List.getElem?_cons_succ, List.getElem?_cons_zero] at p0 p1 p2; have q0 := (ST.out.kn.at (.tail _ (.head _))).cell 0; have q1 := (ST.out.kn.at (.tail _ (.head _))).cell 1; have q2 := (ST.out.kn.at (.tail _ (.head _))).cell 2; simp only [List.getElem?_toArray, List.getElem?_cons_succ, List.getElem?_cons_zero] at q0 q1 q2; clear hbel)
                | (refine step_copy_bytes rfl _ _ rfl wr.heap.size g5 nn nn lo (nn - lo) (matL n n (outM W n r5)) (tab n fun j => W r5 (n + j)) (some ⟨g, lr + n, none⟩) (N - lr - n) (m - n) HMS.out n (by omega) rfl rfl (LMO.out _) ST.out.own (SR5.out.below ST.out.bel) (by omega) ?_; intro w8 ho8 hb8; have ST8 := Lib.hid (ST.out.write hb8 ho8 NE6.out hgw6); rw [OC.out] at ST8; clear ho8 hb8))
              all_goals
                go_wp2
                go_roundw
                case rel => exact ⟨r5 + 1, by omega, by go_num, ST8.out⟩
                case measure => simp [intOf]; omega
            · have hre5 : r5 = n := by omega
              rw [hre5, out_all n W] at ST
              clear hre5
              have p0 := (ST.out.kn.at (.head _)).cell 0; have p1 := (ST.out.kn.at (.head _)).cell 1; have p2 := (ST.out.kn.at (.head _)).cell 2; simp only [List.getElem?_toArray, List.getElem?_cons_succ, List.getElem?_cons_zero] at p0 p1 p2; have r0 := (ST.out.kn.at (.tail _ (.tail _ (.tail _ (.head _))))).cell 0; have r1 := (ST.out.kn.at (.tail _ (.tail _ (.tail _ (.head _))))).cell 1; have r2 := (ST.out.kn.at (.tail _ (.tail _ (.tail _ (.head _))))).cell 2; have rz0 := (ST.out.kn.at (.tail _ (.tail _ (.tail _ (.head _))))).frozen 0; have rz1 := (ST.out.kn.at (.tail _ (.tail _ (.tail _ (.head _))))).frozen 1; have rz2 := (ST.out.kn.at (.tail _ (.tail _ (.tail _ (.head _))))).frozen 2; simp only [List.getElem?_toArray, List.getElem?_cons_succ, List.getElem?_cons_zero] at r0 r1 r2
              go_wp2
              have hfin := ((ST.out.kn.at (.tail _ (.tail _ (.tail _ (.head _))))).set 0 (.int .i64 (n : Int))).set 1 (.int .i64 (n : Int)) |>.set 2 (.slice (some ⟨g5, 0, none⟩) nn nn)
              have h3 := hfin.cell 0
              have h4 := hfin.cell 1
              have h5 := hfin.cell 2
              simp only [List.getElem?_toArray, List.getElem?_cons_succ, List.getElem?_cons_zero, List.setIfInBounds_toArray, List.set_cons_zero, List.set_cons_succ] at h3 h4 h5
              (try rw [Exit.noGoto_ret])
              refine bodyPost_ret (v := .tuple #[matV n n (some ⟨g5, 0, none⟩) nn nn, .int .i64 0]) ?_ rfl ?_
              · rw [results_cell_tmp rfl]
                go_simp
              · have hle : w.heap.size ≤ w.heap.size + 1 := Nat.le_succ _
                have hs := ST.out
                have NE2 := own_ne_blk hs.own (hs.kn.at (.tail _ (.tail _ (.tail _ (.head _))))) (by decide)
                have hbw : Below w.heap.size w wy := HWX.out.trans (hs.bel.mono HWX.out.size)
                refine .inl ⟨_, DONE.out, _, _, rfl, own_mono (ownsRow_setCell_other (ownsRow_setCell_other (ownsRow_setCell_other hs.own NE2 _) NE2 _) NE2 _) hwx, ((hbw.setCell hle _).setCell hle _).setCell hle _⟩
        | succ g2 =>
          have hcn : c < n := by omega
          have hcnI : (c : Int) < (n : Int) := by omega
          go_wp2
          go_loopg [10] (n - c) (fun gp v wx => ∃ p : Nat, c ≤ p ∧ p + gp = n ∧ v = .int .i64 p ∧ Hid (∀ q, c ≤ q → q < p → W q c = 0) ∧ St w wx w1.heap.size g N N (matL n m W) [(w2.heap.size, 24, #[.int .i64 n, .int .i64 m, .slice (some ⟨g, 0, none⟩) N N]), (w.heap.size, 24, #[.int .i64 n, .int .i64 n, .slice A1 nn c1]), (w.heap.size + 1, 24, #[.int .i64 0, .int .i64 0, .slice none 0 0])])
          case atStart => exact ⟨c, Nat.le_refl _, by omega, rfl, (fun q h1 h2 => by omega), ST.out⟩
          case round =>
            rename World => wi
            clear ST
            obtain ⟨p, hp, hpg, rfl, hz, hst⟩ := hrel
            have ST := Lib.hid hst
            clear hst
            cases gk with
            | zero =>
              have hpn : ¬ p < n := by omega
              have NOI := Lib.hid (hgj.out.gj.singular hcn (fun q h1 h2 => hz.out q h1 (by omega)))
              clear hgj hz
              have r0 := (ST.out.kn.at (.tail _ (.tail _ (.head _)))).cell 0; have r1 := (ST.out.kn.at (.tail _ (.tail _ (.head _)))).cell 1; have r2 := (ST.out.kn.at (.tail _ (.tail _ (.head _)))).cell 2; have rz0 := (ST.out.kn.at (.tail _ (.tail _ (.head _)))).frozen 0; have rz1 := (ST.out.kn.at (.tail _ (.tail _ (.head _)))).frozen 1; have rz2 := (ST.out.kn.at (.tail _ (.tail _ (.head _)))).frozen 2; simp only [List.getElem?_toArray, List.getElem?_cons_succ, List.getElem?_cons_zero] at r0 r1 r2
              go_wp2
              (try rw [Exit.noGoto_ret])
              refine bodyPost_ret (v := .tuple #[matV 0 0 none 0 0, .int .i64 31]) ?_ rfl ?_
              · rw [results_cell_tmp rfl]
                go_simp
              · exact .inr ⟨NOI.out, rfl, ((ST.out.bel.setCell (Nat.le_succ _) _).setCell (Nat.le_succ _) _).setCell (Nat.le_succ _) _⟩
            | succ g3 =>
              have hpn : p < n := by omega
              have hpnI : (p : Int) < (n : Int) := by omega
              have RMp := Lib.hid (RM.out g p hpn)
              have hlp := LO.out p hpn
              have GT : Hid ((matL n m W).getD (p * m + c) 0 = W p c) := getD_matL _ hpn (by omega)
              by_cases hw : W p c = 0
              · have HZ2 : Hid (∀ q, c ≤ q → q < p + 1 → W q c = 0) := fun q h1 h2 => by
                  rcases Nat.lt_or_ge q p with h | h
                  · exact hz.out q h1 h
                  · have : q = p := by omega
                    rw [this]; exact hw
                rw [hw] at GT
                clear hw hz
                generalize p * m = lp at *
                have p0 := (ST.out.kn.at (.head _)).cell 0; have p1 := (ST.out.kn.at (.head _)).cell 1; have p2 := (ST.out.kn.at (.head _)).cell 2; simp only [List.getElem?_toArray, List.getElem?_cons_succ, List.getElem?_cons_zero] at p0 p1 p2
                go_wp2_with (go_at_call 26; (with_reducible refine (RMp.out _).mono ?_); rintro e w7 ⟨rfl, hbel⟩; (first | have ST := Lib.hid (ST.out.below hbel) | have ST := Lib.hid ((ST.out.alloc _).below hbel) | have ST := Lib.hid (((ST.out.alloc _).alloc _).below hbel) | have ST := Lib.hid ((ST.out.drewN _).below hbel) | have ST := Lib.hid (((ST.out.drewN _).alloc _).below hbel) | have ST := Lib.hid (((ST.out.alloc _).drewN _).below hbel) | have ST := Lib.hid ((((ST.out.alloc _).alloc _).drewN _).below hbel) | have ST := Lib.hid ((((ST.out.alloc _).alloc _).alloc _).below hbel) | have ST := Lib.hid ((((ST.out.drewN _).alloc _).alloc _).below hbel)); clear p0 p1 p2; have p0 := (ST.out.kn.at (.head _)).cell 0; have p1 := (ST.out.kn.at (.head _)).cell 1; have p2 := (ST.out.kn.at (.head _)).cell 2; simp only [List.getElem?_toArray, List.getElem?_cons_succ, List.getElem?_cons_zero] at p0 p1 p2; have hcl0 := ST.out.own.cellAt (lp + c) (by omega); rw [getElem?_bv (by rw [LM.out]; omega), GT.out] at hcl0; have hcl : w7.cell? ⟨g, lp + c, none⟩ = some (.int .u8 0) := hcl0; clear hcl0 hbel)
                go_roundg g3
                case measure => omega
                case rel => exact ⟨p + 1, by omega, by omega, by go_num, HZ2, ST.out⟩
              · have RMc := Lib.hid (RM.out g c hcn)
                have hlc := LO.out c hcn
                have hGJ := Lib.hid (hgj.out.step hcn hp hpn hz.out hw)
                have PCC : Hid (piv W c p c c ≠ 0) := by show _ ≠ _; rw [piv_at hgj.out.gj hp hpn hz.out]; exact hw
                have hw0 : (((W p c).n : Int) == 0) = false := bne_n (y := 0) hw
                clear hw hz hgj
                by_cases hpc : p = c
                · obtain ⟨P, hP⟩ : ∃ P, P = piv W c p := ⟨_, rfl⟩
                  have HPW : Hid (W = P) := by show _ = _; rw [hP, hpc, piv_self]
                  rw [← hP] at PCC hGJ
                  have GJP := Lib.hid hGJ.out
                  clear hP hGJ
                  obtain rfl : c = p := hpc.symm
                  rw [HPW.out] at ST GT hw0
                  have IV : Hid (∀ wx, GfAt wx b → Calls Try.prog 29 #[fp b, .int .u8 (P c c).n] wx fun e w' => e = .returned (.tuple #[.int .u8 (F.inv (P c c)).n, .int .i64 0]) ∧ ∃ n, w' = wx.drewN n) := fun wx hg => by
                    have h := gf_inv b (P c c) wx hg
                    rwa [if_neg PCC.out] at h
                  have GP : Hid ((matL n m P).getD (c * m + c) 0 = P c c) := getD_matL _ hcn (by omega)
                  have N0 := Lib.hid (nrm_zero n m P c)
                  have N1 := Lib.hid (nrm_all n m P c)
                  have NG : Hid (∀ i, i < m → (matL n m (nrmT P c i)).getD (c * m + i) 0 = P c i) := fun i hi => nrm_get P hcn hi
                  have NS : Hid (∀ i, i < m → (matL n m (nrmT P c i)).set (c * m + i) (F.inv (P c c) * P c i) = matL n m (nrmT P c (i + 1))) := fun i hi => nrm_set P hcn hi
                  have CG : Hid (∀ r, r < n → (matL n m (clr (fun i => nrm P c i c) (nrm P c) c r)).getD (r * m + c) 0 = nrm P c r c) := fun r hr => clr_get _ _ hr (by omega)
                  have CS := Lib.hid (clr_skip n m (nrm P c) (fun i => nrm P c i c) c)
                  have AD2 : Hid (∀ r, r < n → r ≠ c → ∀ wx, St w wx w1.heap.size g N N (matL n m (clr (fun i => nrm P c i c) (nrm P c) c r)) [(w2.heap.size, 24, #[.int .i64 n, .int .i64 m, .slice (some ⟨g, 0, none⟩) N N]), (w.heap.size, 24, #[.int .i64 n, .int .i64 n, .slice A1 nn c1]), (w.heap.size + 1, 24, #[.int .i64 0, .int .i64 0, .slice none 0 0])] → Calls Try.prog 27 #[fp b, .slice (some ⟨g, r * m, none⟩) m (N - r * m), .slice (some ⟨g, c * m, none⟩) m (N - c * m), .int .u8 (nrm P c r c).n] wx fun e w' => e = .returned (.tuple #[]) ∧ St w w' w1.heap.size g N N (matL n m (clr (fun i => nrm P c i c) (nrm P c) c (r + 1))) [(w2.heap.size, 24, #[.int .i64 n, .int .i64 m, .slice (some ⟨g, 0, none⟩) N N]), (w.heap.size, 24, #[.int .i64 n, .int .i64 n, .slice A1 nn c1]), (w.heap.size + 1, 24, #[.int .i64 0, .int .i64 0, .slice none 0 0])]) := fun r hr hrc wx hs =>
                    adds_rows b w1.heap.size g n m N _ _ _ hr hcn hrc hN hNb w wx hs NE.out hgw HG.out (nrm P c c) (fun j _ => clr_self _ _ _ _ _) (clr_add _ _ hr hrc)
                  unfold fp at AD2 IV
                  have d0 : ((c : Int) != (c : Int)) = false := by simp
                  generalize c * m = lc at *
                  have p0 := (ST.out.kn.at (.head _)).cell 0; have p1 := (ST.out.kn.at (.head _)).cell 1; have p2 := (ST.out.kn.at (.head _)).cell 2; simp only [List.getElem?_toArray, List.getElem?_cons_succ, List.getElem?_cons_zero] at p0 p1 p2
                  go_wp2_with (first
                    | (go_at_call 26; (with_reducible refine (RMc.out _).mono ?_); rintro e w7 ⟨rfl, hbel⟩; (first | have ST := Lib.hid (ST.out.below hbel) | have ST := Lib.hid ((ST.out.alloc _).below hbel) | have ST := Lib.hid (((ST.out.alloc _).alloc _).below hbel) | have ST := Lib.hid ((ST.out.drewN _).below hbel) | have ST := Lib.hid (((ST.out.drewN _).alloc _).below hbel) | have ST := Lib.hid (((ST.out.alloc _).drewN _).below hbel) | have ST := Lib.hid ((((ST.out.alloc _).alloc _).drewN _).below hbel) | have ST := Lib.hid ((((ST.out.alloc _).alloc _).alloc _).below hbel) | have ST := Lib.hid ((((ST.out.drewN _).alloc _).alloc _).below hbel)); clear p0 p1 p2; have p0 := (ST.out.kn.at (.head _)).cell 0; have p1 := (ST.out.kn.at (.head _)).cell 1; have p2 := (ST.out.kn.at (.head _)).cell 2; simp only [List.getElem?_toArray, List.getElem?_cons_succ, List.getElem?_cons_zero] at p0 p1 p2; (try clear hcl); have hcl := ST.out.own.cellAt (lc + c) (by omega); rw [getElem?_bv (by rw [LM.out]; omega), GP.out] at hcl; (try clear STL); have STL := Lib.hid ST.out; clear hbel)
                    | (go_at_call 29; (with_reducible refine (IV.out _ ?_).mono ?_); (first | exact HG.out.below STL.out.bel | exact HG.out.below (STL.out.drewN _).bel); rintro e w9 ⟨rfl, nd9, rfl⟩))
                  clear p0 p1 p2
                  go_loopw [100] (fun v wx => ∃ i : Nat, i ≤ m ∧ v = .int .i64 i ∧ St w wx w1.heap.size g N N (matL n m (nrmT P c i)) [(w2.heap.size, 24, #[.int .i64 n, .int .i64 m, .slice (some ⟨g, 0, none⟩) N N]), (w.heap.size, 24, #[.int .i64 n, .int .i64 n, .slice A1 nn c1]), (w.heap.size + 1, 24, #[.int .i64 0, .int .i64 0, .slice none 0 0])]) (fun v _ => m - (intOf v).toNat)
                  case atStart => exact ⟨0, Nat.zero_le _, rfl, by rw [← N0.out]; exact STL.out.drewN _⟩
                  case round =>
                    rename World => wk
                    clear ST
                    obtain ⟨i, hi, rfl, hst⟩ := hrel
                    by_cases hlt4 : i < m
                    · have hcl := hst.own.cellAt (lc + i) (by omega)
                      rw [getElem?_bv (by rw [LM.out]; omega), NG.out i hlt4] at hcl
                      have hfz := hst.own.frozenAt (lc + i)
                      have hset := hst.set (lc + i) (F.inv (P c c) * P c i) NE.out hgw
                      rw [NS.out i hlt4] at hset
                      have HSET := Lib.hid hset
                      have GK := Lib.hid (HG.out.below hst.bel)
                      have MU := Lib.hid (gf_mul b (F.inv (P c c)) (P c i) wk GK.out)
                      clear hset hst
                      unfold fp at MU
                      generalize F.inv (P c c) * P c i = z at *
                      generalize P c i = y at *
                      go_wp2_with (go_at_call 30; (with_reducible refine MU.out.mono ?_); rintro e w7 ⟨rfl, nd, rfl⟩)
                      go_roundw
                      case rel => exact ⟨i + 1, by omega, by go_num, HSET.out.drewN _⟩
                      case measure => simp [intOf]; omega
                    · have hie : i = m := by omega
                      have STN : Hid (St w wk w1.heap.size g N N (matL n m (clr (fun i => nrm P c i c) (nrm P c) c 0)) [(w2.heap.size, 24, #[.int .i64 n, .int .i64 m, .slice (some ⟨g, 0, none⟩) N N]), (w.heap.size, 24, #[.int .i64 n, .int .i64 n, .slice A1 nn c1]), (w.heap.size + 1, 24, #[.int .i64 0, .int .i64 0, .slice none 0 0])]) := by
                        have h9 : matL n m (nrmT P c i) = matL n m (nrmT P c m) := by rw [hie]
                        rw [← N1.out, ← h9]; exact hst
                      clear hie hst
                      go_wp2
                      go_loopw [114] (fun v wx => ∃ r : Nat, r ≤ n ∧ v = .int .i64 r ∧ St w wx w1.heap.size g N N (matL n m (clr (fun i => nrm P c i c) (nrm P c) c r)) [(w2.heap.size, 24, #[.int .i64 n, .int .i64 m, .slice (some ⟨g, 0, none⟩) N N]), (w.heap.size, 24, #[.int .i64 n, .int .i64 n, .slice A1 nn c1]), (w.heap.size + 1, 24, #[.int .i64 0, .int .i64 0, .slice none 0 0])]) (fun v _ => n - (intOf v).toNat)
                      case atStart => exact ⟨0, Nat.zero_le _, rfl, STN.out⟩
                      case round =>
                        rename World => wl
                        clear STN
                        obtain ⟨r6, hr6, rfl, hst⟩ := hrel
                        have ST := Lib.hid hst
                        clear hst
                        by_cases hlt6 : r6 < n
                        · by_cases hrc : r6 = c
                          · have d0 : ((r6 : Int) != (c : Int)) = false := by rw [bne_eq_false_iff_eq]; omega
                            have d1 : ((r6 : Int) == (c : Int)) = true := by rw [beq_iff_eq]; omega
                            have HRC := Lib.hid hrc
                            clear hrc
                            go_wp2
                            go_roundw
                            case rel => exact ⟨r6 + 1, by omega, by go_num, by have h := ST.out; rw [HRC.out, CS.out] at h; rw [HRC.out]; exact h⟩
                            case measure => simp [intOf]; omega
                          · have d0 : ((r6 : Int) != (c : Int)) = true := by rw [bne_iff_ne]; omega
                            have d1 : ((r6 : Int) == (c : Int)) = false := by rw [beq_eq_false_iff_ne]; omega
                            have RM6 := Lib.hid (RM.out g r6 hlt6)
                            have hl6 := LO.out r6 hlt6
                            have AD6 := Lib.hid (AD2.out r6 hlt6 hrc)
                            have CG6 := Lib.hid (CG.out r6 hlt6)
                            clear hrc
                            have hci0 : (0 : Int) ≤ (c : Int) := by omega
                            have hci1 : (c : Int) < (m : Int) := by omega
                            generalize r6 * m = lr at *
                            generalize nrm P c r6 c = y at *
                            have p0 := (ST.out.kn.at (.head _)).cell 0; have p1 := (ST.out.kn.at (.head _)).cell 1; have p2 := (ST.out.kn.at (.head _)).cell 2; simp only [List.getElem?_toArray, List.getElem?_cons_succ, List.getElem?_cons_zero] at p0 p1 p2; have hcl6 := ST.out.own.cellAt (lr + c) (by omega); rw [getElem?_bv (by rw [LM.out]; omega), CG6.out] at hcl6
                            go_wp2
                            go_region_law (first
                              | (go_simp; go_at_call 26; (with_reducible refine (RM6.out _).mono ?_); rintro e w7 ⟨rfl, hbel⟩; (first | have ST := Lib.hid (ST.out.below hbel) | have ST := Lib.hid ((ST.out.alloc _).below hbel) | have ST := Lib.hid (((ST.out.alloc _).alloc _).below hbel) | have ST := Lib.hid ((ST.out.drewN _).below hbel) | have ST := Lib.hid (((ST.out.drewN _).alloc _).below hbel) | have ST := Lib.hid (((ST.out.alloc _).drewN _).below hbel) | have ST := Lib.hid ((((ST.out.alloc _).alloc _).drewN _).below hbel) | have ST := Lib.hid ((((ST.out.alloc _).alloc _).alloc _).below hbel) | have ST := Lib.hid ((((ST.out.drewN _).alloc _).alloc _).below hbel)); clear p0 p1 p2; clear hcl6; have p0 := (ST.out.kn.at (.head _)).cell 0; have p1 := (ST.out.kn.at (.head _)).cell 1; have p2 := (ST.out.kn.at (.head _)).cell 2; simp only [List.getElem?_toArray, List.getElem?_cons_succ, List.getElem?_cons_zero] at p0 p1 p2; have hcl6 := ST.out.own.cellAt (lr + c) (by omega); rw [getElem?_bv (by rw [LM.out]; omega), CG6.out] at hcl6; clear hbel)
                              | (go_simp; go_at_call 27; (with_reducible refine (AD6.out _ ?_).mono ?_); (first | exact ST.out | exact (ST.out.alloc _) | exact ((ST.out.alloc _).alloc _) | exact (ST.out.drewN _) | exact ((ST.out.drewN _).alloc _) | exact ((ST.out.alloc _).drewN _) | exact (((ST.out.alloc _).alloc _).drewN _) | exact (((ST.out.alloc _).alloc _).alloc _) | exact (((ST.out.drewN _).alloc _).alloc _)); rintro e w8 ⟨rfl, hst⟩; have ST8 := Lib.hid hst; clear hst))
                            all_goals
                              go_wp2
                              go_roundw
                              case rel => exact ⟨r6 + 1, by omega, by go_num, ST8.out⟩
                              case measure => simp [intOf]; omega
                        · have hre6 : r6 = n := by omega
                          rw [hre6] at ST
                          clear hre6
                          go_wp2
                          go_roundg g2
                          case measure => omega
                          case rel => exact ⟨c + 1, _, by omega, by go_num, GJP.out, ST.out⟩
                · obtain ⟨P, hP⟩ : ∃ P, P = piv W c p := ⟨_, rfl⟩
                  have AD1 : Hid (∀ wx, St w wx w1.heap.size g N N (matL n m W) [(w2.heap.size, 24, #[.int .i64 n, .int .i64 m, .slice (some ⟨g, 0, none⟩) N N]), (w.heap.size, 24, #[.int .i64 n, .int .i64 n, .slice A1 nn c1]), (w.heap.size + 1, 24, #[.int .i64 0, .int .i64 0, .slice none 0 0])] → Calls Try.prog 27 #[fp b, .slice (some ⟨g, c * m, none⟩) m (N - c * m), .slice (some ⟨g, p * m, none⟩) m (N - p * m), .int .u8 1] wx fun e w' => e = .returned (.tuple #[]) ∧ St w w' w1.heap.size g N N (matL n m P) [(w2.heap.size, 24, #[.int .i64 n, .int .i64 m, .slice (some ⟨g, 0, none⟩) N N]), (w.heap.size, 24, #[.int .i64 n, .int .i64 n, .slice A1 nn c1]), (w.heap.size + 1, 24, #[.int .i64 0, .int .i64 0, .slice none 0 0])]) := fun wx hs =>
                    adds_rows b w1.heap.size g n m N W P 1 hcn hpn (fun e => hpc e.symm) hN hNb w wx hs NE.out hgw HG.out (W p) (fun _ _ => rfl) (by rw [hP]; exact piv_add W hcn hpc)
                  unfold fp at AD1
                  rw [← hP] at PCC hGJ
                  have GJP := Lib.hid hGJ.out
                  have d0 : ((p : Int) != (c : Int)) = true := by rw [bne_iff_ne]; omega
                  have d1 : ((p : Int) == (c : Int)) = false := by rw [beq_eq_false_iff_ne]; omega
                  clear hP hGJ hpc
                  have IV : Hid (∀ wx, GfAt wx b → Calls Try.prog 29 #[fp b, .int .u8 (P c c).n] wx fun e w' => e = .returned (.tuple #[.int .u8 (F.inv (P c c)).n, .int .i64 0]) ∧ ∃ n, w' = wx.drewN n) := fun wx hg => by
                    have h := gf_inv b (P c c) wx hg
                    rwa [if_neg PCC.out] at h
                  have GP : Hid ((matL n m P).getD (c * m + c) 0 = P c c) := getD_matL _ hcn (by omega)
                  have N0 := Lib.hid (nrm_zero n m P c)
                  have N1 := Lib.hid (nrm_all n m P c)
                  have NG : Hid (∀ i, i < m → (matL n m (nrmT P c i)).getD (c * m + i) 0 = P c i) := fun i hi => nrm_get P hcn hi
                  have NS : Hid (∀ i, i < m → (matL n m (nrmT P c i)).set (c * m + i) (F.inv (P c c) * P c i) = matL n m (nrmT P c (i + 1))) := fun i hi => nrm_set P hcn hi
                  have CG : Hid (∀ r, r < n → (matL n m (clr (fun i => nrm P c i c) (nrm P c) c r)).getD (r * m + c) 0 = nrm P c r c) := fun r hr => clr_get _ _ hr (by omega)
                  have CS := Lib.hid (clr_skip n m (nrm P c) (fun i => nrm P c i c) c)
                  have AD2 : Hid (∀ r, r < n → r ≠ c → ∀ wx, St w wx w1.heap.size g N N (matL n m (clr (fun i => nrm P c i c) (nrm P c) c r)) [(w2.heap.size, 24, #[.int .i64 n, .int .i64 m, .slice (some ⟨g, 0, none⟩) N N]), (w.heap.size, 24, #[.int .i64 n, .int .i64 n, .slice A1 nn c1]), (w.heap.size + 1, 24, #[.int .i64 0, .int .i64 0, .slice none 0 0])] → Calls Try.prog 27 #[fp b, .slice (some ⟨g, r * m, none⟩) m (N - r * m), .slice (some ⟨g, c * m, none⟩) m (N - c * m), .int .u8 (nrm P c r c).n] wx fun e w' => e = .returned (.tuple #[]) ∧ St w w' w1.heap.size g N N (matL n m (clr (fun i => nrm P c i c) (nrm P c) c (r + 1))) [(w2.heap.size, 24, #[.int .i64 n, .int .i64 m, .slice (some ⟨g, 0, none⟩) N N]), (w.heap.size, 24, #[.int .i64 n, .int .i64 n, .slice A1 nn c1]), (w.heap.size + 1, 24, #[.int .i64 0, .int .i64 0, .slice none 0 0])]) := fun r hr hrc wx hs =>
                    adds_rows b w1.heap.size g n m N _ _ _ hr hcn hrc hN hNb w wx hs NE.out hgw HG.out (nrm P c c) (fun j _ => clr_self _ _ _ _ _) (clr_add _ _ hr hrc)
                  unfold fp at AD2 IV
                  generalize c * m = lc at *
                  generalize p * m = lp at *
                  generalize W p c = y0 at *
                  have p0 := (ST.out.kn.at (.head _)).cell 0; have p1 := (ST.out.kn.at (.head _)).cell 1; have p2 := (ST.out.kn.at (.head _)).cell 2; simp only [List.getElem?_toArray, List.getElem?_cons_succ, List.getElem?_cons_zero] at p0 p1 p2
                  go_wp2_with (first
                    | (go_at_call 26; (with_reducible refine (RMp.out _).mono ?_); rintro e w7 ⟨rfl, hbel⟩; (first | have ST := Lib.hid (ST.out.below hbel) | have ST := Lib.hid ((ST.out.alloc _).below hbel) | have ST := Lib.hid (((ST.out.alloc _).alloc _).below hbel) | have ST := Lib.hid ((ST.out.drewN _).below hbel) | have ST := Lib.hid (((ST.out.drewN _).alloc _).below hbel) | have ST := Lib.hid (((ST.out.alloc _).drewN _).below hbel) | have ST := Lib.hid ((((ST.out.alloc _).alloc _).drewN _).below hbel) | have ST := Lib.hid ((((ST.out.alloc _).alloc _).alloc _).below hbel) | have ST := Lib.hid ((((ST.out.drewN _).alloc _).alloc _).below hbel)); clear p0 p1 p2; have p0 := (ST.out.kn.at (.head _)).cell 0; have p1 := (ST.out.kn.at (.head _)).cell 1; have p2 := (ST.out.kn.at (.head _)).cell 2; simp only [List.getElem?_toArray, List.getElem?_cons_succ, List.getElem?_cons_zero] at p0 p1 p2; (try clear hcl); have hcl := ST.out.own.cellAt (lp + c) (by omega); rw [getElem?_bv (by rw [LM.out]; omega), GT.out] at hcl; clear hbel)
                    | (go_at_call 26; (with_reducible refine (RMc.out _).mono ?_); rintro e w7 ⟨rfl, hbel⟩; (first | have ST := Lib.hid (ST.out.below hbel) | have ST := Lib.hid ((ST.out.alloc _).below hbel) | have ST := Lib.hid (((ST.out.alloc _).alloc _).below hbel) | have ST := Lib.hid ((ST.out.drewN _).below hbel) | have ST := Lib.hid (((ST.out.drewN _).alloc _).below hbel) | have ST := Lib.hid (((ST.out.alloc _).drewN _).below hbel) | have ST := Lib.hid ((((ST.out.alloc _).alloc _).drewN _).below hbel) | have ST := Lib.hid ((((ST.out.alloc _).alloc _).alloc _).below hbel) | have ST := Lib.hid ((((ST.out.drewN _).alloc _).alloc _).below hbel)); clear p0 p1 p2; have p0 := (ST.out.kn.at (.head _)).cell 0; have p1 := (ST.out.kn.at (.head _)).cell 1; have p2 := (ST.out.kn.at (.head _)).cell 2; simp only [List.getElem?_toArray, List.getElem?_cons_succ, List.getElem?_cons_zero] at p0 p1 p2; (try clear hcl); skip; clear hbel)
                    | (go_at_call 27; (with_reducible refine (AD1.out _ ?_).mono ?_); (first | exact ST.out | exact (ST.out.alloc _) | exact ((ST.out.alloc _).alloc _) | exact (ST.out.drewN _) | exact ((ST.out.drewN _).alloc _) | exact ((ST.out.alloc _).drewN _) | exact (((ST.out.alloc _).alloc _).drewN _) | exact (((ST.out.alloc _).alloc _).alloc _) | exact (((ST.out.drewN _).alloc _).alloc _)); rintro e w8 ⟨rfl, hst⟩; have STL := Lib.hid hst; clear hst; clear p0 p1 p2; have p0 := (STL.out.kn.at (.head _)).cell 0; have p1 := (STL.out.kn.at (.head _)).cell 1; have p2 := (STL.out.kn.at (.head _)).cell 2; simp only [List.getElem?_toArray, List.getElem?_cons_succ, List.getElem?_cons_zero] at p0 p1 p2; (try clear hcl); have hcl := STL.out.own.cellAt (lc + c) (by omega); rw [getElem?_bv (by rw [LM.out]; omega), GP.out] at hcl)
                    | (go_at_call 29; (with_reducible refine (IV.out _ ?_).mono ?_); (first | exact HG.out.below STL.out.bel | exact HG.out.below (STL.out.drewN _).bel); rintro e w9 ⟨rfl, nd9, rfl⟩))
                  clear p0 p1 p2
                  go_loopw [100] (fun v wx => ∃ i : Nat, i ≤ m ∧ v = .int .i64 i ∧ St w wx w1.heap.size g N N (matL n m (nrmT P c i)) [(w2.heap.size, 24, #[.int .i64 n, .int .i64 m, .slice (some ⟨g, 0, none⟩) N N]), (w.heap.size, 24, #[.int .i64 n, .int .i64 n, .slice A1 nn c1]), (w.heap.size + 1, 24, #[.int .i64 0, .int .i64 0, .slice none 0 0])]) (fun v _ => m - (intOf v).toNat)
                  case atStart => exact ⟨0, Nat.zero_le _, rfl, by rw [← N0.out]; exact STL.out.drewN _⟩
                  case round =>
                    rename World => wk
                    clear ST
                    obtain ⟨i, hi, rfl, hst⟩ := hrel
                    by_cases hlt4 : i < m
                    · have hcl := hst.own.cellAt (lc + i) (by omega)
                      rw [getElem?_bv (by rw [LM.out]; omega), NG.out i hlt4] at hcl
                      have hfz := hst.own.frozenAt (lc + i)
                      have hset := hst.set (lc + i) (F.inv (P c c) * P c i) NE.out hgw
                      rw [NS.out i hlt4] at hset
                      have HSET := Lib.hid hset
                      have GK := Lib.hid (HG.out.below hst.bel)
                      have MU := Lib.hid (gf_mul b (F.inv (P c c)) (P c i) wk GK.out)
                      clear hset hst
                      unfold fp at MU
                      generalize F.inv (P c c) * P c i = z at *
                      generalize P c i = y at *
                      go_wp2_with (go_at_call 30; (with_reducible refine MU.out.mono ?_); rintro e w7 ⟨rfl, nd, rfl⟩)
                      go_roundw
                      case rel => exact ⟨i + 1, by omega, by go_num, HSET.out.drewN _⟩
                      case measure => simp [intOf]; omega
                    · have hie : i = m := by omega
                      have STN : Hid (St w wk w1.heap.size g N N (matL n m (clr (fun i => nrm P c i c) (nrm P c) c 0)) [(w2.heap.size, 24, #[.int .i64 n, .int .i64 m, .slice (some ⟨g, 0, none⟩) N N]), (w.heap.size, 24, #[.int .i64 n, .int .i64 n, .slice A1 nn c1]), (w.heap.size + 1, 24, #[.int .i64 0, .int .i64 0, .slice none 0 0])]) := by
                        have h9 : matL n m (nrmT P c i) = matL n m (nrmT P c m) := by rw [hie]
                        rw [← N1.out, ← h9]; exact hst
                      clear hie hst
                      go_wp2
                      go_loopw [114] (fun v wx => ∃ r : Nat, r ≤ n ∧ v = .int .i64 r ∧ St w wx w1.heap.size g N N (matL n m (clr (fun i => nrm P c i c) (nrm P c) c r)) [(w2.heap.size, 24, #[.int .i64 n, .int .i64 m, .slice (some ⟨g, 0, none⟩) N N]), (w.heap.size, 24, #[.int .i64 n, .int .i64 n, .slice A1 nn c1]), (w.heap.size + 1, 24, #[.int .i64 0, .int .i64 0, .slice none 0 0])]) (fun v _ => n - (intOf v).toNat)
                      case atStart => exact ⟨0, Nat.zero_le _, rfl, STN.out⟩
                      case round =>
                        rename World => wl
                        clear STN
                        obtain ⟨r6, hr6, rfl, hst⟩ := hrel
                        have ST := Lib.hid hst
                        clear hst
                        by_cases hlt6 : r6 < n
                        · by_cases hrc : r6 = c
                          · have d0 : ((r6 : Int) != (c : Int)) = false := by rw [bne_eq_false_iff_eq]; omega
                            have d1 : ((r6 : Int) == (c : Int)) = true := by rw [beq_iff_eq]; omega
                            have HRC := Lib.hid hrc
                            clear hrc
                            go_wp2
                            go_roundw
                            case rel => exact ⟨r6 + 1, by omega, by go_num, by have h := ST.out; rw [HRC.out, CS.out] at h; rw [HRC.out]; exact h⟩
                            case measure => simp [intOf]; omega
                          · have d0 : ((r6 : Int) != (c : Int)) = true := by rw [bne_iff_ne]; omega
                            have d1 : ((r6 : Int) == (c : Int)) = false := by rw [beq_eq_false_iff_ne]; omega
                            have RM6 := Lib.hid (RM.out g r6 hlt6)
                            have hl6 := LO.out r6 hlt6
                            have AD6 := Lib.hid (AD2.out r6 hlt6 hrc)
                            have CG6 := Lib.hid (CG.out r6 hlt6)
                            clear hrc
                            have hci0 : (0 : Int) ≤ (c : Int) := by omega
                            have hci1 : (c : Int) < (m : Int) := by omega
                            generalize r6 * m = lr at *
                            generalize nrm P c r6 c = y at *
                            have p0 := (ST.out.kn.at (.head _)).cell 0; have p1 := (ST.out.kn.at (.head _)).cell 1; have p2 := (ST.out.kn.at (.head _)).cell 2; simp only [List.getElem?_toArray, List.getElem?_cons_succ, List.getElem?_cons_zero] at p0 p1 p2; have hcl6 := ST.out.own.cellAt (lr + c) (by omega); rw [getElem?_bv (by rw [LM.out]; omega), CG6.out] at hcl6
                            go_wp2
                            go_region_law (first
                              | (go_simp; go_at_call 26; (with_reducible refine (RM6.out _).mono ?_); rintro e w7 ⟨rfl, hbel⟩; (first | have ST := Lib.hid (ST.out.below hbel) | have ST := Lib.hid ((ST.out.alloc _).below hbel) | have ST := Lib.hid (((ST.out.alloc _).alloc _).below hbel) | have ST := Lib.hid ((ST.out.drewN _).below hbel) | have ST := Lib.hid (((ST.out.drewN _).alloc _).below hbel) | have ST := Lib.hid (((ST.out.alloc _).drewN _).below hbel) | have ST := Lib.hid ((((ST.out.alloc _).alloc _).drewN _).below hbel) | have ST := Lib.hid ((((ST.out.alloc _).alloc _).alloc _).below hbel) | have ST := Lib.hid ((((ST.out.drewN _).alloc _).alloc _).below hbel)); clear p0 p1 p2; clear hcl6; have p0 := (ST.out.kn.at (.head _)).cell 0; have p1 := (ST.out.kn.at (.head _)).cell 1; have p2 := (ST.out.kn.at (.head _)).cell 2; simp only [List.getElem?_toArray, List.getElem?_cons_succ, List.getElem?_cons_zero] at p0 p1 p2; have hcl6 := ST.out.own.cellAt (lr + c) (by omega); rw [getElem?_bv (by rw [LM.out]; omega), CG6.out] at hcl6; clear hbel)
                              | (go_simp; go_at_call 27; (with_reducible refine (AD6.out _ ?_).mono ?_); (first | exact ST.out | exact (ST.out.alloc _) | exact ((ST.out.alloc _).alloc _) | exact (ST.out.drewN _) | exact ((ST.out.drewN _).alloc _) | exact ((ST.out.alloc _).drewN _) | exact (((ST.out.alloc _).alloc _).drewN _) | exact (((ST.out.alloc _).alloc _).alloc _) | exact (((ST.out.drewN _).alloc _).alloc _)); rintro e w8 ⟨rfl, hst⟩; have ST8 := Lib.hid hst; clear hst))
                            all_goals
                              go_wp2
                              go_roundw
                              case rel => exact ⟨r6 + 1, by omega, by go_num, ST8.out⟩
                              case measure => simp [intOf]; omega
                        · have hre6 : r6 = n := by omega
                          rw [hre6] at ST
                          clear hre6
                          go_wp2
                          go_roundg g2
                          case measure => omega
                          case rel => exact ⟨c + 1, _, by omega, by go_num, GJP.out, ST.out⟩
end Go.Proofs.Ytbepadepepoilaa
