/- aumbryref05.Parity, Generator, Checks, walked. -/
import Derived.Test.YtbepadepepoilaaCau
namespace Go.Proofs.Ytbepadepepoilaa
open Go.RowKit
theorem lit_drew (y : F) {w : World} {n : Nat} (hn : n = w.heap.size) : Bs (w.alloc (.cells #[bv y] 5)).drew (some ⟨n, 0, none⟩) 1 [y] :=
  Sl.drewN (w := w.alloc (.cells #[bv y] 5)) (lit_bs (l := [y]) hn rfl rfl (by simp)) 1
set_option maxRecDepth 1000000 in
set_option maxHeartbeats 4000000 in
theorem ref05_Parity (k m : Nat) (hkm : okkm k m) (w : World) :
    Calls Try.prog 56 #[.int .i64 k, .int .i64 m] w fun e w' => ∃ A' c', e = .returned (.tuple #[.agg #[.int .i64 (m : Int), .int .i64 (k : Int), .slice A' ((m) * (k)) c'], .int .i64 0]) ∧ w'.ownsRow w.heap.size 5 1 (.slice A' ((m) * (k)) c') ((m) * (k)) ((matL (m) (k) (parF k)).map bv) ∧ Below w.heap.size w w' := by
  obtain ⟨k1, k2, k3⟩ := hkm
  have CK : Hid (∀ w, Calls Try.prog 53 #[.int .i64 k, .int .i64 m] w fun e w' => e = .returned (.int .i64 0) ∧ w = w') := fun w => ref05_check_ok k m ⟨k1, k2, k3⟩ w
  go_enter Try.func56, Try.ntmps56
  go_wp2_with (go_at_call 53; (with_reducible refine (CK.out _).mono ?_); rintro e w1 ⟨rfl, rfl⟩)
  go_loopw [8] (fun v wr => ∃ (r : Nat) (A' : Option Addr) (c' : Nat), r ≤ m ∧ v = .int .i64 r ∧ Blk wr (w.heap.size + 1) 24 #[.int .i64 (m : Int), .int .i64 (k : Int), .slice A' (r * (k)) c'] ∧ Blk wr w.heap.size 24 #[.int .i64 0, .int .i64 0, .slice none 0 0] ∧ wr.ownsRow w.heap.size 5 1 (.slice A' (r * (k)) c') (r * (k)) ((tab (r * (k)) (matF (k) (parF k))).map bv) ∧ Below w.heap.size w wr) (fun v _ => m - (intOf v).toNat)
  case atStart =>
    refine ⟨0, none, 0, Nat.zero_le _, rfl, ?_, (Blk.new w _ _).alloc _, ?_, (below_alloc w _).trans ((below_alloc _ _).mono (by simp))⟩
    · have := Blk.new (w.alloc (.cells #[.int .i64 0, .int .i64 0, .slice none 0 0] 24)) #[.int .i64 (m : Int), .int .i64 (k : Int), .slice none 0 0] 24
      rw [Nat.zero_mul]
      simpa using this
    · rw [Nat.zero_mul]
      exact World.ownsRow_nil _ _ _ _
  case round =>
    obtain ⟨r, A1, c1, hr1, rfl, hblk, hres, hown, hb⟩ := hrel
    have hbs := hb.size
    have HK := Lib.hid hblk
    have HS := Lib.hid hres
    have HO := Lib.hid hown
    have HB := Lib.hid hb
    clear hblk hres hown hb
    by_cases hlt : r < m
    · have hlt' : (r : Int) < (m : Int) := by omega
      go_wp2
      go_loopw [9] (fun v wi => ∃ (c : Nat) (A' : Option Addr) (c' : Nat), c ≤ k ∧ v = .int .i64 c ∧ Blk wi (w.heap.size + 1) 24 #[.int .i64 (m : Int), .int .i64 (k : Int), .slice A' (r * (k) + c) c'] ∧ Blk wi w.heap.size 24 #[.int .i64 0, .int .i64 0, .slice none 0 0] ∧ wi.ownsRow w.heap.size 5 1 (.slice A' (r * (k) + c) c') (r * (k) + c) ((tab (r * (k) + c) (matF (k) (parF k))).map bv) ∧ Below w.heap.size w wi) (fun v _ => k - (intOf v).toNat)
      case atStart => exact ⟨0, A1, c1, Nat.zero_le _, rfl, HK.out, HS.out, HO.out, HB.out⟩
      case round =>
        rename World => wi
        clear HK HS HO HB
        obtain ⟨c, A2, c2, hc1, rfl, hblk, hres, hown, hb⟩ := hrel
        have hbs2 := hb.size
        have HK := Lib.hid hblk
        have HS := Lib.hid hres
        have HO := Lib.hid hown
        have HB := Lib.hid hb
        have hcell := hblk.cell 2
        have hfz := hblk.frozen 2
        simp only [List.getElem?_toArray, List.getElem?_cons_succ, List.getElem?_cons_zero] at hcell
        clear hblk hres hown hb
        by_cases hlt2 : c < k
        · have hlt2' : (c : Int) < (k : Int) := by omega
          have HF : Hid (tab (r * (k) + (c + 1)) (matF (k) (parF k)) = tab (r * (k) + c) (matF (k) (parF k)) ++ [parF k r c]) := by
            show _ = _
            rw [← Nat.add_assoc, tab_succ', matF_at (parF k) hlt2]
          have hbound : r * (k) + c + 1 ≤ 70000 := by
            have : r * (k) ≤ 256 * 256 := Nat.mul_le_mul (by omega) (by omega)
            omega
          have NE := Lib.hid (own_ne_blk HO.out HK.out (by decide))
          have NE0 := Lib.hid (own_ne_blk HO.out HS.out (by decide))
          have PT : Hid (∀ w, Calls Try.prog 55 #[.int .i64 k, .int .i64 r, .int .i64 c] w fun e w' => e = .returned (.int .u8 (parF k r c).n) ∧ w = w') := fun w => ref05_part k r c (by omega) (by omega) w
          generalize parF k r c = y at *
          go_wp2
          go_region_law (first
            | (refine step_app_bytes rfl _ _ rfl w.heap.size A2 c2 (r * (k) + c) (tab (r * (k) + c) (matF (k) (parF k))) rfl (own_below HO.out ⟨rfl, rfl, rfl, by simp, fun k hk => heap_alloc_old _ _ hk⟩) _ _ 1 [y] rfl ?litbs rfl (by omega) (by simp; omega) ?_; (case litbs => first | exact lit_bs rfl rfl rfl (by decide) | exact lit_drew y rfl); intro A3 c3 w3 hown3 hgr3; have hk3 : Blk w3 (w.heap.size + 1) 24 #[.int .i64 (m : Int), .int .i64 (k : Int), .slice A2 (r * (k) + c) c2] := Blk.grown' hgr3 HK.out ⟨rfl, rfl, rfl, by simp, fun k hk => heap_alloc_old _ _ hk⟩ NE.out; have hs3 : Blk w3 w.heap.size 24 #[.int .i64 0, .int .i64 0, .slice none 0 0] := Blk.grown' hgr3 HS.out ⟨rfl, rfl, rfl, by simp, fun k hk => heap_alloc_old _ _ hk⟩ NE0.out; have hb3 : Below w.heap.size w w3 := own_grow' hgr3 HB.out HO.out ⟨rfl, rfl, rfl, by simp, fun k hk => heap_alloc_old _ _ hk⟩ hbs2; have hcell3 := hk3.cell 2; have hfz3 := hk3.frozen 2; simp only [List.getElem?_toArray, List.getElem?_cons_succ, List.getElem?_cons_zero] at hcell3; have HK3 := Lib.hid hk3; have HS3 := Lib.hid hs3; have HO3 := Lib.hid hown3; have HB3 := Lib.hid hb3; clear hk3 hs3 hown3 hgr3 hb3)
            | (go_simp; go_at_call 55; (with_reducible refine (PT.out _).mono ?_); rintro e w3 ⟨rfl, rfl⟩; have hcellA := (Blk.alloc HK.out (.cells #[.int .u8 y.n] 5)).cell 2; simp only [List.getElem?_toArray, List.getElem?_cons_succ, List.getElem?_cons_zero] at hcellA))
          all_goals
            go_wp2
            go_roundw
            case rel => exact ⟨c + 1, A3, c3, by omega, by go_num, HK3.out.set 2 _, HS3.out.other (by simp) _, by rw [HF.out]; exact ownsRow_setCell_other HO3.out (own_ne_blk HO3.out HK3.out (by decide)) _, HB3.out.setCell (Nat.le_succ _) _⟩
            case measure => simp [intOf]; omega
        · have hce : c = k := by omega
          have hlt2' : ¬ (c : Int) < (k : Int) := by omega
          have e1 : r * (k) + c = (r + 1) * (k) := by rw [Nat.succ_mul, hce]
          rw [e1] at HK HO
          clear hce e1
          go_wp2
          go_roundw
          case rel => exact ⟨r + 1, A2, c2, by omega, by go_num, HK.out, HS.out, HO.out, HB.out⟩
          case measure => simp [intOf]; omega
    · have hre : r = m := by omega
      have hlt' : ¬ (r : Int) < (m : Int) := by omega
      rw [hre] at HK HO
      have h0 := HK.out.cell 0
      have h1 := HK.out.cell 1
      have h2 := HK.out.cell 2
      have f0 := HS.out.cell 0
      have f1 := HS.out.cell 1
      have f2 := HS.out.cell 2
      have g0 := HS.out.frozen 0
      have g1 := HS.out.frozen 1
      have g2 := HS.out.frozen 2
      simp only [List.getElem?_toArray, List.getElem?_cons_succ, List.getElem?_cons_zero] at h0 h1 h2 f0 f1 f2
      clear hre
      go_wp2
      have hfin := (((HS.out.set 0 (.int .i64 (m : Int))).set 1 (.int .i64 (k : Int))).set 2 (.slice A1 ((m) * (k)) c1))
      have h3 := hfin.cell 0
      have h4 := hfin.cell 1
      have h5 := hfin.cell 2
      simp only [List.getElem?_toArray, List.getElem?_cons_succ, List.getElem?_cons_zero, List.setIfInBounds_toArray, List.set_cons_zero, List.set_cons_succ] at h3 h4 h5
      refine bodyPost_ret (v := .tuple #[.agg #[.int .i64 (m : Int), .int .i64 (k : Int), .slice A1 ((m) * (k)) c1], .int .i64 0]) ?_ rfl ?_
      · rw [results_cell_tmp rfl]
        go_simp
      · refine ⟨A1, c1, rfl, ?_, ((HB.out.setCell (Nat.le_refl _) _).setCell (Nat.le_refl _) _).setCell (Nat.le_refl _) _⟩
        have NE := own_ne_blk HO.out HS.out (by decide)
        exact ownsRow_setCell_other (ownsRow_setCell_other (ownsRow_setCell_other HO.out NE _) NE _) NE _
set_option maxRecDepth 1000000 in
set_option maxHeartbeats 4000000 in
theorem ref05_Generator (k m : Nat) (hkm : okkm k m) (w : World) :
    Calls Try.prog 41 #[.int .i64 k, .int .i64 m] w fun e w' => ∃ A' c', e = .returned (.tuple #[.agg #[.int .i64 ((k : Int) + (m : Int)), .int .i64 (k : Int), .slice A' ((k + m) * (k)) c'], .int .i64 0]) ∧ w'.ownsRow w.heap.size 5 1 (.slice A' ((k + m) * (k)) c') ((k + m) * (k)) ((matL (k + m) (k) (genF k)).map bv) ∧ Below w.heap.size w w' := by
  obtain ⟨k1, k2, k3⟩ := hkm
  have CK : Hid (∀ w, Calls Try.prog 53 #[.int .i64 k, .int .i64 m] w fun e w' => e = .returned (.int .i64 0) ∧ w = w') := fun w => ref05_check_ok k m ⟨k1, k2, k3⟩ w
  go_enter Try.func41, Try.ntmps41
  go_wp2_with (go_at_call 53; (with_reducible refine (CK.out _).mono ?_); rintro e w1 ⟨rfl, rfl⟩)
  go_loopw [8] (fun v wr => ∃ (r : Nat) (A' : Option Addr) (c' : Nat), r ≤ k + m ∧ v = .int .i64 r ∧ Blk wr (w.heap.size + 1) 24 #[.int .i64 ((k : Int) + (m : Int)), .int .i64 (k : Int), .slice A' (r * (k)) c'] ∧ Blk wr w.heap.size 24 #[.int .i64 0, .int .i64 0, .slice none 0 0] ∧ wr.ownsRow w.heap.size 5 1 (.slice A' (r * (k)) c') (r * (k)) ((tab (r * (k)) (matF (k) (genF k))).map bv) ∧ Below w.heap.size w wr) (fun v _ => k + m - (intOf v).toNat)
  case atStart =>
    refine ⟨0, none, 0, Nat.zero_le _, rfl, ?_, (Blk.new w _ _).alloc _, ?_, (below_alloc w _).trans ((below_alloc _ _).mono (by simp))⟩
    · have := Blk.new (w.alloc (.cells #[.int .i64 0, .int .i64 0, .slice none 0 0] 24)) #[.int .i64 ((k : Int) + (m : Int)), .int .i64 (k : Int), .slice none 0 0] 24
      rw [Nat.zero_mul]
      simpa using this
    · rw [Nat.zero_mul]
      exact World.ownsRow_nil _ _ _ _
  case round =>
    obtain ⟨r, A1, c1, hr1, rfl, hblk, hres, hown, hb⟩ := hrel
    have hbs := hb.size
    have HK := Lib.hid hblk
    have HS := Lib.hid hres
    have HO := Lib.hid hown
    have HB := Lib.hid hb
    clear hblk hres hown hb
    by_cases hlt : r < k + m
    · have hlt' : (r : Int) < ((k : Int) + (m : Int)) := by omega
      go_wp2
      go_loopw [9] (fun v wi => ∃ (c : Nat) (A' : Option Addr) (c' : Nat), c ≤ k ∧ v = .int .i64 c ∧ Blk wi (w.heap.size + 1) 24 #[.int .i64 ((k : Int) + (m : Int)), .int .i64 (k : Int), .slice A' (r * (k) + c) c'] ∧ Blk wi w.heap.size 24 #[.int .i64 0, .int .i64 0, .slice none 0 0] ∧ wi.ownsRow w.heap.size 5 1 (.slice A' (r * (k) + c) c') (r * (k) + c) ((tab (r * (k) + c) (matF (k) (genF k))).map bv) ∧ Below w.heap.size w wi) (fun v _ => k - (intOf v).toNat)
      case atStart => exact ⟨0, A1, c1, Nat.zero_le _, rfl, HK.out, HS.out, HO.out, HB.out⟩
      case round =>
        rename World => wi
        clear HK HS HO HB
        obtain ⟨c, A2, c2, hc1, rfl, hblk, hres, hown, hb⟩ := hrel
        have hbs2 := hb.size
        have HK := Lib.hid hblk
        have HS := Lib.hid hres
        have HO := Lib.hid hown
        have HB := Lib.hid hb
        have hcell := hblk.cell 2
        have hfz := hblk.frozen 2
        simp only [List.getElem?_toArray, List.getElem?_cons_succ, List.getElem?_cons_zero] at hcell
        clear hblk hres hown hb
        by_cases hlt2 : c < k
        · have hlt2' : (c : Int) < (k : Int) := by omega
          have HF : Hid (tab (r * (k) + (c + 1)) (matF (k) (genF k)) = tab (r * (k) + c) (matF (k) (genF k)) ++ [genF k r c]) := by
            show _ = _
            rw [← Nat.add_assoc, tab_succ', matF_at (genF k) hlt2]
          have hbound : r * (k) + c + 1 ≤ 70000 := by
            have : r * (k) ≤ 256 * 256 := Nat.mul_le_mul (by omega) (by omega)
            omega
          have NE := Lib.hid (own_ne_blk HO.out HK.out (by decide))
          have NE0 := Lib.hid (own_ne_blk HO.out HS.out (by decide))
          by_cases ht : r < k
          · have SM : Hid (∀ w, Calls Try.prog 54 #[.int .i64 r, .int .i64 c] w fun e w' => e = .returned (.int .u8 (genF k r c).n) ∧ w = w') := fun w => by
              have := ref05_same r c w
              rwa [show (if (r : Int) = (c : Int) then (1 : Int) else 0) = ((genF k r c).n : Int) by
                rw [genF, if_pos ht, dlt_n]
                by_cases h : r = c
                · rw [if_pos h, if_pos (by omega)]
                · rw [if_neg h, if_neg (by omega)]] at this
            have d1 : decide (k ≤ r) = false := decide_eq_false (by omega)
            generalize genF k r c = y at *
            go_wp2_with (first
              | (go_at_call 54; (with_reducible refine (SM.out _).mono ?_); rintro e wx ⟨rfl, rfl⟩)
              | (at_builtin; refine app_bytes_g _ rfl _ _ rfl w.heap.size A2 c2 (r * (k) + c) (tab (r * (k) + c) (matF (k) (genF k))) rfl (HO.out.alloc _) _ _ 1 [y] rfl (lit_bs rfl rfl rfl (by decide)) rfl (by omega) (by simp; omega) ?_; intro A3 c3 w3 hown3 hgr3; have hk3 : Blk w3 (w.heap.size + 1) 24 #[.int .i64 ((k : Int) + (m : Int)), .int .i64 (k : Int), .slice A2 (r * (k) + c) c2] := Blk.grown' hgr3 HK.out ⟨rfl, rfl, rfl, by simp, fun k hk => heap_alloc_old _ _ hk⟩ NE.out; have hs3 : Blk w3 w.heap.size 24 #[.int .i64 0, .int .i64 0, .slice none 0 0] := Blk.grown' hgr3 HS.out ⟨rfl, rfl, rfl, by simp, fun k hk => heap_alloc_old _ _ hk⟩ NE0.out; have hb3 : Below w.heap.size w w3 := own_grow' hgr3 HB.out HO.out ⟨rfl, rfl, rfl, by simp, fun k hk => heap_alloc_old _ _ hk⟩ hbs2; have hcell3 := hk3.cell 2; have hfz3 := hk3.frozen 2; simp only [List.getElem?_toArray, List.getElem?_cons_succ, List.getElem?_cons_zero] at hcell3; have HK3 := Lib.hid hk3; have HS3 := Lib.hid hs3; have HO3 := Lib.hid hown3; have HB3 := Lib.hid hb3; clear hk3 hs3 hown3 hgr3 hb3))
            go_roundw
            case rel => exact ⟨c + 1, A3, c3, by omega, by go_num, HK3.out.set 2 _, HS3.out.other (by simp) _, by rw [HF.out]; exact ownsRow_setCell_other HO3.out (own_ne_blk HO3.out HK3.out (by decide)) _, HB3.out.setCell (Nat.le_succ _) _⟩
            case measure => simp [intOf]; omega
          · have SM : Hid (∀ w, Calls Try.prog 54 #[.int .i64 r, .int .i64 c] w fun e w' => e = .returned (.int .u8 (if (r : Int) = (c : Int) then (1 : Int) else 0)) ∧ w = w') := fun w => ref05_same r c w
            generalize (if (r : Int) = (c : Int) then (1 : Int) else 0) = sm at *
            have PT : Hid (∀ w, Calls Try.prog 55 #[.int .i64 k, .int .i64 ((r : Int) - (k : Int)), .int .i64 c] w fun e w' => e = .returned (.int .u8 (genF k r c).n) ∧ w = w') := fun w => by
              have := ref05_part k (r - k) c (by omega) (by omega) w
              rwa [show ((r - k : Nat) : Int) = (r : Int) - (k : Int) by omega, show cau (k + (r - k)) c = genF k r c by rw [genF, if_neg ht]; congr 1; omega] at this
            have d1 : decide (k ≤ r) = true := decide_eq_true (by omega)
            generalize genF k r c = y at *
            go_wp2_with (first
              | (go_at_call 54; (with_reducible refine (SM.out _).mono ?_); rintro e wx ⟨rfl, rfl⟩)
              | (go_at_call 55; (with_reducible refine (PT.out _).mono ?_); rintro e wx ⟨rfl, rfl⟩)
              | (at_builtin; refine app_bytes_g _ rfl _ _ rfl w.heap.size A2 c2 (r * (k) + c) (tab (r * (k) + c) (matF (k) (genF k))) rfl (HO.out.alloc _) _ _ 1 [y] rfl (lit_bs rfl rfl rfl (by decide)) rfl (by omega) (by simp; omega) ?_; intro A3 c3 w3 hown3 hgr3; have hk3 : Blk w3 (w.heap.size + 1) 24 #[.int .i64 ((k : Int) + (m : Int)), .int .i64 (k : Int), .slice A2 (r * (k) + c) c2] := Blk.grown' hgr3 HK.out ⟨rfl, rfl, rfl, by simp, fun k hk => heap_alloc_old _ _ hk⟩ NE.out; have hs3 : Blk w3 w.heap.size 24 #[.int .i64 0, .int .i64 0, .slice none 0 0] := Blk.grown' hgr3 HS.out ⟨rfl, rfl, rfl, by simp, fun k hk => heap_alloc_old _ _ hk⟩ NE0.out; have hb3 : Below w.heap.size w w3 := own_grow' hgr3 HB.out HO.out ⟨rfl, rfl, rfl, by simp, fun k hk => heap_alloc_old _ _ hk⟩ hbs2; have hcell3 := hk3.cell 2; have hfz3 := hk3.frozen 2; simp only [List.getElem?_toArray, List.getElem?_cons_succ, List.getElem?_cons_zero] at hcell3; have HK3 := Lib.hid hk3; have HS3 := Lib.hid hs3; have HO3 := Lib.hid hown3; have HB3 := Lib.hid hb3; clear hk3 hs3 hown3 hgr3 hb3))
            go_roundw
            case rel => exact ⟨c + 1, A3, c3, by omega, by go_num, HK3.out.set 2 _, HS3.out.other (by simp) _, by rw [HF.out]; exact ownsRow_setCell_other HO3.out (own_ne_blk HO3.out HK3.out (by decide)) _, HB3.out.setCell (Nat.le_succ _) _⟩
            case measure => simp [intOf]; omega
        · have hce : c = k := by omega
          have hlt2' : ¬ (c : Int) < (k : Int) := by omega
          have e1 : r * (k) + c = (r + 1) * (k) := by rw [Nat.succ_mul, hce]
          rw [e1] at HK HO
          clear hce e1
          go_wp2
          go_roundw
          case rel => exact ⟨r + 1, A2, c2, by omega, by go_num, HK.out, HS.out, HO.out, HB.out⟩
          case measure => simp [intOf]; omega
    · have hre : r = k + m := by omega
      have hlt' : ¬ (r : Int) < ((k : Int) + (m : Int)) := by omega
      rw [hre] at HK HO
      have h0 := HK.out.cell 0
      have h1 := HK.out.cell 1
      have h2 := HK.out.cell 2
      have f0 := HS.out.cell 0
      have f1 := HS.out.cell 1
      have f2 := HS.out.cell 2
      have g0 := HS.out.frozen 0
      have g1 := HS.out.frozen 1
      have g2 := HS.out.frozen 2
      simp only [List.getElem?_toArray, List.getElem?_cons_succ, List.getElem?_cons_zero] at h0 h1 h2 f0 f1 f2
      clear hre
      go_wp2
      have hfin := (((HS.out.set 0 (.int .i64 ((k : Int) + (m : Int)))).set 1 (.int .i64 (k : Int))).set 2 (.slice A1 ((k + m) * (k)) c1))
      have h3 := hfin.cell 0
      have h4 := hfin.cell 1
      have h5 := hfin.cell 2
      simp only [List.getElem?_toArray, List.getElem?_cons_succ, List.getElem?_cons_zero, List.setIfInBounds_toArray, List.set_cons_zero, List.set_cons_succ] at h3 h4 h5
      refine bodyPost_ret (v := .tuple #[.agg #[.int .i64 ((k : Int) + (m : Int)), .int .i64 (k : Int), .slice A1 ((k + m) * (k)) c1], .int .i64 0]) ?_ rfl ?_
      · rw [results_cell_tmp rfl]
        go_simp
      · refine ⟨A1, c1, rfl, ?_, ((HB.out.setCell (Nat.le_refl _) _).setCell (Nat.le_refl _) _).setCell (Nat.le_refl _) _⟩
        have NE := own_ne_blk HO.out HS.out (by decide)
        exact ownsRow_setCell_other (ownsRow_setCell_other (ownsRow_setCell_other HO.out NE _) NE _) NE _
end Go.Proofs.Ytbepadepepoilaa
