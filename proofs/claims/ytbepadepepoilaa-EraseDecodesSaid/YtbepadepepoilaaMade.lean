/- cauchy.made, walked at each closure that it is handed. -/
import Derived.Test.YtbepadepepoilaaCauchy
import Derived.Test.YtbepadepepoilaaBlk
import Derived.Test.YtbepadepepoilaaMatL
import Derived.Deep.RegionLaw
import Derived.Laws.ResultCell
namespace Go.Proofs.Ytbepadepepoilaa
open Go.RowKit
set_option maxRecDepth 1000000 in
set_option maxHeartbeats 4000000 in
theorem made_Parity (b : Nat) (k m rows cols : Nat) (hkm : okkm k m) (hr : rows ≤ 256) (hc : cols ≤ 256) (a1 a2 : Addr) (f : Nat → Nat → F) (w : World)
    (hcl : ∀ (r c : Nat) (wr : World), r < rows → c < cols → Below w.heap.size w wr → Calls Try.prog 63 #[.int .i64 r, .int .i64 c, .pointer (some a1), .pointer (some a2)] wr fun e w' => e = .returned (.int .u8 (f r c).n) ∧ ∃ n, w' = wr.drewN n) :
    Calls Try.prog 46 #[fp b, .int .i64 k, .int .i64 m, .int .i64 rows, .int .i64 cols, .func (.func 63) #[] #[.pointer (some a1), .pointer (some a2)]] w fun e w' => ∃ A' c', e = .returned (.tuple #[.agg #[.int .i64 rows, .int .i64 cols, .slice A' (rows * cols) c'], .int .i64 0]) ∧ w'.ownsRow w.heap.size 5 1 (.slice A' (rows * cols) c') (rows * cols) ((matL rows cols f).map bv) ∧ Below w.heap.size w w' := by
  have HCL := Lib.hid hcl
  have CK : Hid (∀ w, Calls Try.prog 36 #[.int .i64 k, .int .i64 m] w fun e w' => e = .returned (.int .i64 0) ∧ w = w') := fun w => cauchy_check_ok k m hkm w
  clear hcl hkm
  unfold fp
  go_enter Try.func46, Try.ntmps46
  go_wp2_with (go_at_call 36; (with_reducible refine (CK.out _).mono ?_); rintro e w1 ⟨rfl, rfl⟩)
  go_loopw [32] (fun v wr => ∃ (r : Nat) (A' : Option Addr) (c' : Nat), r ≤ rows ∧ v = .int .i64 r ∧ Blk wr (w.heap.size + 1) 24 #[.int .i64 rows, .int .i64 cols, .slice A' (r * cols) c'] ∧ Blk wr w.heap.size 24 #[.int .i64 0, .int .i64 0, .slice none 0 0] ∧ wr.ownsRow w.heap.size 5 1 (.slice A' (r * cols) c') (r * cols) ((tab (r * cols) (matF cols f)).map bv) ∧ Below w.heap.size w wr) (fun v _ => rows - (intOf v).toNat)
  case atStart =>
    refine ⟨0, none, 0, Nat.zero_le _, rfl, ?_, (Blk.new w _ _).alloc _, ?_, (below_alloc w _).trans ((below_alloc _ _).mono (by simp))⟩
    · have := Blk.new (w.alloc (.cells #[.int .i64 0, .int .i64 0, .slice none 0 0] 24)) #[.int .i64 rows, .int .i64 cols, .slice none 0 0] 24
      rw [Nat.zero_mul]
      simpa using this
    · rw [Nat.zero_mul]
      exact World.ownsRow_nil _ _ _ _
  case round =>
    obtain ⟨r, A1, c1, hr1, rfl, hblk, hres, hown, hb⟩ := hrel
    have hbs := hb.size
    have HK := Lib.hid hblk
    have HS := Lib.hid hres
    have HO := Lib.hid hown
    have HB := Lib.hid hb
    clear hblk hres hown hb
    by_cases hlt : r < rows
    · go_wp2
      go_loopw [36] (fun v wi => ∃ (c : Nat) (A' : Option Addr) (c' : Nat), c ≤ cols ∧ v = .int .i64 c ∧ Blk wi (w.heap.size + 1) 24 #[.int .i64 rows, .int .i64 cols, .slice A' (r * cols + c) c'] ∧ Blk wi w.heap.size 24 #[.int .i64 0, .int .i64 0, .slice none 0 0] ∧ wi.ownsRow w.heap.size 5 1 (.slice A' (r * cols + c) c') (r * cols + c) ((tab (r * cols + c) (matF cols f)).map bv) ∧ Below w.heap.size w wi) (fun v _ => cols - (intOf v).toNat)
      case atStart => exact ⟨0, A1, c1, Nat.zero_le _, rfl, HK.out, HS.out, HO.out, HB.out⟩
      case round =>
        rename World => wi
        clear HK HS HO HB
        obtain ⟨c, A2, c2, hc1, rfl, hblk, hres, hown, hb⟩ := hrel
        have hbs2 := hb.size
        have HK := Lib.hid hblk
        have HS := Lib.hid hres
        have HO := Lib.hid hown
        have HB := Lib.hid hb
        have hcell := hblk.cell 2
        have hfz := hblk.frozen 2
        simp only [List.getElem?_toArray, List.getElem?_cons_succ, List.getElem?_cons_zero] at hcell
        clear hblk hres hown hb
        by_cases hlt2 : c < cols
        · have HF : Hid (tab (r * cols + (c + 1)) (matF cols f) = tab (r * cols + c) (matF cols f) ++ [f r c]) := by
            show _ = _
            rw [← Nat.add_assoc, tab_succ', matF_at f hlt2]
          have hbound : r * cols + c + 1 ≤ 70000 := by
            have : r * cols ≤ 255 * 256 := Nat.mul_le_mul (by omega) hc
            omega
          have NE := Lib.hid (own_ne_blk HO.out HK.out (by decide))
          have NE0 := Lib.hid (own_ne_blk HO.out HS.out (by decide))
          have CLR : Hid (∀ wr, Below w.heap.size w wr → Calls Try.prog 63 #[.int .i64 r, .int .i64 c, .pointer (some a1), .pointer (some a2)] wr fun e w' => e = .returned (.int .u8 (f r c).n) ∧ ∃ n, w' = wr.drewN n) := fun wr hb => HCL.out r c wr hlt hlt2 hb
          generalize f r c = y at *
          go_wp2
          go_region_law (first
            | (refine step_app_bytes rfl _ _ rfl w.heap.size A2 c2 (r * cols + c) (tab (r * cols + c) (matF cols f)) rfl (own_below HO.out ⟨rfl, rfl, rfl, by simp, fun k hk => heap_alloc_old _ _ hk⟩) _ _ 1 [y] rfl (lit_bs rfl rfl rfl (by decide)) rfl (by omega) (by simp; omega) ?_; intro A3 c3 w3 hown3 hgr3; have hk3 : Blk w3 (w.heap.size + 1) 24 #[.int .i64 rows, .int .i64 cols, .slice A2 (r * cols + c) c2] := Blk.grown' hgr3 HK.out ⟨rfl, rfl, rfl, by simp, fun k hk => heap_alloc_old _ _ hk⟩ NE.out; have hs3 : Blk w3 w.heap.size 24 #[.int .i64 0, .int .i64 0, .slice none 0 0] := Blk.grown' hgr3 HS.out ⟨rfl, rfl, rfl, by simp, fun k hk => heap_alloc_old _ _ hk⟩ NE0.out; have hb3 : Below w.heap.size w w3 := own_grow' hgr3 HB.out HO.out ⟨rfl, rfl, rfl, by simp, fun k hk => heap_alloc_old _ _ hk⟩ hbs2; have hcell3 := hk3.cell 2; have hfz3 := hk3.frozen 2; simp only [List.getElem?_toArray, List.getElem?_cons_succ, List.getElem?_cons_zero] at hcell3; have HK3 := Lib.hid hk3; have HS3 := Lib.hid hs3; have HO3 := Lib.hid hown3; have HB3 := Lib.hid hb3; clear hk3 hs3 hown3 hgr3 hb3)
            | (go_simp; go_at_call 63; (with_reducible refine (CLR.out _ ?_).mono ?_); (first | exact HB.out | exact below_drewN HB.out 1); rintro e w3 ⟨rfl, n, rfl⟩; have hcellA := (Blk.alloc (Blk.drewN HK.out (1 + n)) (.cells #[.int .u8 y.n] 5)).cell 2; simp only [List.getElem?_toArray, List.getElem?_cons_succ, List.getElem?_cons_zero] at hcellA))
          all_goals
            go_wp2
            go_roundw
            case rel => exact ⟨c + 1, A3, c3, by omega, by go_num, HK3.out.set 2 _, HS3.out.other (by simp) _, by rw [HF.out]; exact ownsRow_setCell_other HO3.out (own_ne_blk HO3.out HK3.out (by decide)) _, HB3.out.setCell (Nat.le_succ _) _⟩
            case measure => simp [intOf]; omega
        · have hce : c = cols := by omega
          subst hce
          have e1 : r * c + c = (r + 1) * c := by rw [Nat.succ_mul]
          rw [e1] at HK HO
          go_wp2
          go_roundw
          case rel => exact ⟨r + 1, A2, c2, by omega, by go_num, HK.out, HS.out, HO.out, HB.out⟩
          case measure => simp [intOf]; omega
    · have hre : r = rows := by omega
      subst hre
      have h0 := HK.out.cell 0
      have h1 := HK.out.cell 1
      have h2 := HK.out.cell 2
      have f0 := HS.out.cell 0
      have f1 := HS.out.cell 1
      have f2 := HS.out.cell 2
      have g0 := HS.out.frozen 0
      have g1 := HS.out.frozen 1
      have g2 := HS.out.frozen 2
      simp only [List.getElem?_toArray, List.getElem?_cons_succ, List.getElem?_cons_zero] at h0 h1 h2 f0 f1 f2
      go_wp2
      have hfin := (((HS.out.set 0 (.int .i64 r)).set 1 (.int .i64 cols)).set 2 (.slice A1 (r * cols) c1))
      have h3 := hfin.cell 0
      have h4 := hfin.cell 1
      have h5 := hfin.cell 2
      simp only [List.getElem?_toArray, List.getElem?_cons_succ, List.getElem?_cons_zero, List.setIfInBounds_toArray, List.set_cons_zero, List.set_cons_succ] at h3 h4 h5
      refine bodyPost_ret (v := .tuple #[.agg #[.int .i64 r, .int .i64 cols, .slice A1 (r * cols) c1], .int .i64 0]) ?_ rfl ?_
      · rw [results_cell_tmp rfl]
        go_simp
      · refine ⟨A1, c1, rfl, ?_, ((HB.out.setCell (Nat.le_refl _) _).setCell (Nat.le_refl _) _).setCell (Nat.le_refl _) _⟩
        have NE := own_ne_blk HO.out HS.out (by decide)
        exact ownsRow_setCell_other (ownsRow_setCell_other (ownsRow_setCell_other HO.out NE _) NE _) NE _
set_option maxRecDepth 1000000 in
set_option maxHeartbeats 4000000 in
theorem made_Generator (b : Nat) (k m rows cols : Nat) (hkm : okkm k m) (hr : rows ≤ 256) (hc : cols ≤ 256) (a1 a2 : Addr) (f : Nat → Nat → F) (w : World)
    (hcl : ∀ (r c : Nat) (wr : World), r < rows → c < cols → Below w.heap.size w wr → Calls Try.prog 47 #[.int .i64 r, .int .i64 c, .pointer (some a1), .pointer (some a2)] wr fun e w' => e = .returned (.int .u8 (f r c).n) ∧ ∃ n, w' = wr.drewN n) :
    Calls Try.prog 46 #[fp b, .int .i64 k, .int .i64 m, .int .i64 rows, .int .i64 cols, .func (.func 47) #[] #[.pointer (some a1), .pointer (some a2)]] w fun e w' => ∃ A' c', e = .returned (.tuple #[.agg #[.int .i64 rows, .int .i64 cols, .slice A' (rows * cols) c'], .int .i64 0]) ∧ w'.ownsRow w.heap.size 5 1 (.slice A' (rows * cols) c') (rows * cols) ((matL rows cols f).map bv) ∧ Below w.heap.size w w' := by
  have HCL := Lib.hid hcl
  have CK : Hid (∀ w, Calls Try.prog 36 #[.int .i64 k, .int .i64 m] w fun e w' => e = .returned (.int .i64 0) ∧ w = w') := fun w => cauchy_check_ok k m hkm w
  clear hcl hkm
  unfold fp
  go_enter Try.func46, Try.ntmps46
  go_wp2_with (go_at_call 36; (with_reducible refine (CK.out _).mono ?_); rintro e w1 ⟨rfl, rfl⟩)
  go_loopw [32] (fun v wr => ∃ (r : Nat) (A' : Option Addr) (c' : Nat), r ≤ rows ∧ v = .int .i64 r ∧ Blk wr (w.heap.size + 1) 24 #[.int .i64 rows, .int .i64 cols, .slice A' (r * cols) c'] ∧ Blk wr w.heap.size 24 #[.int .i64 0, .int .i64 0, .slice none 0 0] ∧ wr.ownsRow w.heap.size 5 1 (.slice A' (r * cols) c') (r * cols) ((tab (r * cols) (matF cols f)).map bv) ∧ Below w.heap.size w wr) (fun v _ => rows - (intOf v).toNat)
  case atStart =>
    refine ⟨0, none, 0, Nat.zero_le _, rfl, ?_, (Blk.new w _ _).alloc _, ?_, (below_alloc w _).trans ((below_alloc _ _).mono (by simp))⟩
    · have := Blk.new (w.alloc (.cells #[.int .i64 0, .int .i64 0, .slice none 0 0] 24)) #[.int .i64 rows, .int .i64 cols, .slice none 0 0] 24
      rw [Nat.zero_mul]
      simpa using this
    · rw [Nat.zero_mul]
      exact World.ownsRow_nil _ _ _ _
  case round =>
    obtain ⟨r, A1, c1, hr1, rfl, hblk, hres, hown, hb⟩ := hrel
    have hbs := hb.size
    have HK := Lib.hid hblk
    have HS := Lib.hid hres
    have HO := Lib.hid hown
    have HB := Lib.hid hb
    clear hblk hres hown hb
    by_cases hlt : r < rows
    · go_wp2
      go_loopw [36] (fun v wi => ∃ (c : Nat) (A' : Option Addr) (c' : Nat), c ≤ cols ∧ v = .int .i64 c ∧ Blk wi (w.heap.size + 1) 24 #[.int .i64 rows, .int .i64 cols, .slice A' (r * cols + c) c'] ∧ Blk wi w.heap.size 24 #[.int .i64 0, .int .i64 0, .slice none 0 0] ∧ wi.ownsRow w.heap.size 5 1 (.slice A' (r * cols + c) c') (r * cols + c) ((tab (r * cols + c) (matF cols f)).map bv) ∧ Below w.heap.size w wi) (fun v _ => cols - (intOf v).toNat)
      case atStart => exact ⟨0, A1, c1, Nat.zero_le _, rfl, HK.out, HS.out, HO.out, HB.out⟩
      case round =>
        rename World => wi
        clear HK HS HO HB
        obtain ⟨c, A2, c2, hc1, rfl, hblk, hres, hown, hb⟩ := hrel
        have hbs2 := hb.size
        have HK := Lib.hid hblk
        have HS := Lib.hid hres
        have HO := Lib.hid hown
        have HB := Lib.hid hb
        have hcell := hblk.cell 2
        have hfz := hblk.frozen 2
        simp only [List.getElem?_toArray, List.getElem?_cons_succ, List.getElem?_cons_zero] at hcell
        clear hblk hres hown hb
        by_cases hlt2 : c < cols
        · have HF : Hid (tab (r * cols + (c + 1)) (matF cols f) = tab (r * cols + c) (matF cols f) ++ [f r c]) := by
            show _ = _
            rw [← Nat.add_assoc, tab_succ', matF_at f hlt2]
          have hbound : r * cols + c + 1 ≤ 70000 := by
            have : r * cols ≤ 255 * 256 := Nat.mul_le_mul (by omega) hc
            omega
          have NE := Lib.hid (own_ne_blk HO.out HK.out (by decide))
          have NE0 := Lib.hid (own_ne_blk HO.out HS.out (by decide))
          have CLR : Hid (∀ wr, Below w.heap.size w wr → Calls Try.prog 47 #[.int .i64 r, .int .i64 c, .pointer (some a1), .pointer (some a2)] wr fun e w' => e = .returned (.int .u8 (f r c).n) ∧ ∃ n, w' = wr.drewN n) := fun wr hb => HCL.out r c wr hlt hlt2 hb
          generalize f r c = y at *
          go_wp2
          go_region_law (first
            | (refine step_app_bytes rfl _ _ rfl w.heap.size A2 c2 (r * cols + c) (tab (r * cols + c) (matF cols f)) rfl (own_below HO.out ⟨rfl, rfl, rfl, by simp, fun k hk => heap_alloc_old _ _ hk⟩) _ _ 1 [y] rfl (lit_bs rfl rfl rfl (by decide)) rfl (by omega) (by simp; omega) ?_; intro A3 c3 w3 hown3 hgr3; have hk3 : Blk w3 (w.heap.size + 1) 24 #[.int .i64 rows, .int .i64 cols, .slice A2 (r * cols + c) c2] := Blk.grown' hgr3 HK.out ⟨rfl, rfl, rfl, by simp, fun k hk => heap_alloc_old _ _ hk⟩ NE.out; have hs3 : Blk w3 w.heap.size 24 #[.int .i64 0, .int .i64 0, .slice none 0 0] := Blk.grown' hgr3 HS.out ⟨rfl, rfl, rfl, by simp, fun k hk => heap_alloc_old _ _ hk⟩ NE0.out; have hb3 : Below w.heap.size w w3 := own_grow' hgr3 HB.out HO.out ⟨rfl, rfl, rfl, by simp, fun k hk => heap_alloc_old _ _ hk⟩ hbs2; have hcell3 := hk3.cell 2; have hfz3 := hk3.frozen 2; simp only [List.getElem?_toArray, List.getElem?_cons_succ, List.getElem?_cons_zero] at hcell3; have HK3 := Lib.hid hk3; have HS3 := Lib.hid hs3; have HO3 := Lib.hid hown3; have HB3 := Lib.hid hb3; clear hk3 hs3 hown3 hgr3 hb3)
            | (go_simp; go_at_call 47; (with_reducible refine (CLR.out _ ?_).mono ?_); (first | exact HB.out | exact below_drewN HB.out 1); rintro e w3 ⟨rfl, n, rfl⟩; have hcellA := (Blk.alloc (Blk.drewN HK.out (1 + n)) (.cells #[.int .u8 y.n] 5)).cell 2; simp only [List.getElem?_toArray, List.getElem?_cons_succ, List.getElem?_cons_zero] at hcellA))
          all_goals
            go_wp2
            go_roundw
            case rel => exact ⟨c + 1, A3, c3, by omega, by go_num, HK3.out.set 2 _, HS3.out.other (by simp) _, by rw [HF.out]; exact ownsRow_setCell_other HO3.out (own_ne_blk HO3.out HK3.out (by decide)) _, HB3.out.setCell (Nat.le_succ _) _⟩
            case measure => simp [intOf]; omega
        · have hce : c = cols := by omega
          subst hce
          have e1 : r * c + c = (r + 1) * c := by rw [Nat.succ_mul]
          rw [e1] at HK HO
          go_wp2
          go_roundw
          case rel => exact ⟨r + 1, A2, c2, by omega, by go_num, HK.out, HS.out, HO.out, HB.out⟩
          case measure => simp [intOf]; omega
    · have hre : r = rows := by omega
      subst hre
      have h0 := HK.out.cell 0
      have h1 := HK.out.cell 1
      have h2 := HK.out.cell 2
      have f0 := HS.out.cell 0
      have f1 := HS.out.cell 1
      have f2 := HS.out.cell 2
      have g0 := HS.out.frozen 0
      have g1 := HS.out.frozen 1
      have g2 := HS.out.frozen 2
      simp only [List.getElem?_toArray, List.getElem?_cons_succ, List.getElem?_cons_zero] at h0 h1 h2 f0 f1 f2
      go_wp2
      have hfin := (((HS.out.set 0 (.int .i64 r)).set 1 (.int .i64 cols)).set 2 (.slice A1 (r * cols) c1))
      have h3 := hfin.cell 0
      have h4 := hfin.cell 1
      have h5 := hfin.cell 2
      simp only [List.getElem?_toArray, List.getElem?_cons_succ, List.getElem?_cons_zero, List.setIfInBounds_toArray, List.set_cons_zero, List.set_cons_succ] at h3 h4 h5
      refine bodyPost_ret (v := .tuple #[.agg #[.int .i64 r, .int .i64 cols, .slice A1 (r * cols) c1], .int .i64 0]) ?_ rfl ?_
      · rw [results_cell_tmp rfl]
        go_simp
      · refine ⟨A1, c1, rfl, ?_, ((HB.out.setCell (Nat.le_refl _) _).setCell (Nat.le_refl _) _).setCell (Nat.le_refl _) _⟩
        have NE := own_ne_blk HO.out HS.out (by decide)
        exact ownsRow_setCell_other (ownsRow_setCell_other (ownsRow_setCell_other HO.out NE _) NE _) NE _
end Go.Proofs.Ytbepadepepoilaa
