/- bulk.Encode, walked. -/
import Derived.Test.YtmkjplpnoohfnaaRowK
namespace Go.Proofs.Ytmkjplpnoohfnaa
open Go.RowKit
set_option linter.unusedVariables false
set_option linter.unusedSimpArgs false
def zrow (L : Nat) : List F := List.replicate L (0 : F)
theorem length_zrow (L : Nat) : (zrow L).length = L := List.length_replicate ..
set_option maxRecDepth 1000000 in
set_option maxHeartbeats 4000000 in
theorem bulk_encode (b k m : Nat) (A : Option Addr) (c : Nat) (vs : List Value) (ls : List (List F)) (w : World) (hkm : okkm k m) (hg : GfAt w b) (ha : Sl w A c vs) (hb : Bss w vs ls) (hk : Alk ls k) (hl : ∀ l, l ∈ ls → l.length ≤ 100000) :
    Calls Try.prog 71 #[fp b, .int .i64 k, .int .i64 m, .slice A k c] w fun e w' => ∃ A' c' rs, e = .returned (.tuple #[.slice A' (k + m) c', .int .i64 0]) ∧ lsts rs = enc k m ls ∧ MadeR w w' A' (k + m) c' rs := by
  obtain ⟨hk1, hm0, hkm256⟩ := id hkm
  have hk1' : 1 ≤ k := by omega
  have hkb : k + m ≤ 256 := by omega
  have hn : ls.length = k := by have := hk.1; omega
  obtain ⟨L, hL⟩ : ∃ L, lenAt ls 0 = L := ⟨_, rfl⟩
  have hLb : L ≤ 100000 := by
    rw [← hL]; unfold lenAt
    exact hl _ (by rw [List.getD_eq_getElem?_getD, List.getElem?_eq_getElem (by omega)]; exact List.getElem_mem _)
  have CK : Hid (Calls Try.prog 109 #[fp b, .int .i64 k, .int .i64 m, .int .i64 k, .slice A k c] w fun e w' => ∃ A' c', e = .returned (.tuple #[.agg #[.int .i64 (m : Int), .int .i64 (k : Int), .slice A' (m * k) c'], .int .i64 0]) ∧ Bs w' A' c' (matL m k (parF k)) ∧ Below w.heap.size w w') := bulk_checked_yes b k m k A k c vs ls w hkm hg ha hb hn (by omega) hk
  have OW : Hid (∀ w', Below w.heap.size w w' → Calls Try.prog 110 #[.slice A k c] w' fun e w'' => ∃ A' c' rs, e = .returned (.slice A' k c') ∧ lsts rs = ls ∧ MadeR w' w'' A' k c' rs) := fun w' hw => bulk_own A k c vs ls w' (ha.below hw) (hb.below hw) hn (by omega) hl
  have HA := Lib.hid ha
  have HB := Lib.hid hb
  have HN := Lib.hid hn
  have HGF := Lib.hid hg
  have HL := Lib.hid hL
  have HK : Hid (∀ i, i < k → lenAt ls i = L) := fun i hi => by rw [hk.2 i (by omega)]; exact hL
  clear ha hb hn hk hl hkm hg hL hm0 hkm256 hk1
  have h0t : (0 : Int) < (k : Int) := by omega
  unfold fp at CK ⊢
  obtain ⟨mk, hmk⟩ : ∃ mk, m * k = mk := ⟨_, rfl⟩
  have HMK := Lib.hid hmk
  rw [hmk] at CK
  clear hmk
  go_enter Try.func71, Try.ntmps71
  go_wp2_with (first
    | (go_at_call 109; (with_reducible refine CK.out.mono ?_); rintro e w1 ⟨Ap, cp, rfl, hbs1, hb1⟩; have BP := Lib.hid (Sl.alloc hbs1 (.cells #[.int .i64 (m : Int), .int .i64 (k : Int), .slice Ap mk cp] 30)); have KP := Lib.hid (Blk.new w1 #[.int .i64 (m : Int), .int .i64 (k : Int), .slice Ap mk cp] 30); have BW : Hid (Below w.heap.size w (w1.alloc (.cells #[.int .i64 (m : Int), .int .i64 (k : Int), .slice Ap mk cp] 30))) := hb1.alloc hb1.size _; clear hbs1 hb1)
    | (go_at_call 110; (with_reducible refine (OW.out _ BW.out).mono ?_); rintro e w2 ⟨A0, c0, rs0, rfl, hls0, hm0⟩; have HL0 := Lib.hid hls0; have M0 := Lib.hid hm0; clear hls0 hm0))
  clear CK OW
  generalize w1.alloc (.cells #[.int .i64 (m : Int), .int .i64 (k : Int), .slice Ap mk cp] 30) = W1 at *
  go_loopw [12, 31] (fun u v wr => ∃ (i : Nat) (rs' : List Row) (A1 : Option Addr) (c1 : Nat), i ≤ m ∧ v = .int .i64 i ∧ u = .slice A1 (k + i) c1 ∧ lsts rs' = ls ++ List.replicate i (zrow L) ∧ MadeR W1 wr A1 (k + i) c1 rs') (fun _ v _ => m - (intOf v).toNat)
  case atStart => exact ⟨0, rs0, A0, c0, Nat.zero_le _, rfl, rfl, by rw [HL0.out]; simp, M0.out⟩
  case round =>
    clear HL0 M0
    obtain ⟨i, rs', A1, c1, hi, rfl, rfl, hls, hmr⟩ := hrel
    have LS := Lib.hid hls
    have M := Lib.hid hmr
    have BWR := Lib.hid (BW.out.trans (hmr.bel.mono BW.out.size))
    clear hls hmr
    by_cases hlt : i < m
    · obtain ⟨A3, c3, h3, _⟩ := (HB.out.below BWR.out).len (i := 0) (by rw [HN.out]; omega)
      obtain ⟨b', o, hA, _, hc⟩ := Sl.at' (HA.out.below BWR.out) (by rw [HB.out.1, HN.out]; omega)
      subst hA
      have y3 := hc 0 _ h3
      rw [Nat.add_zero, HL.out] at y3
      clear hc h3
      have hit : (i : Int) < (m : Int) := by omega
      go_wp2_with (first
        | (refine make_bytes _ rfl _ _ rfl .i64 .i64 (L : Int) (L : Int) L rfl rfl rfl rfl ?b ?_; (case b => omega); intro w3 ho3 hb3; have HO3 := Lib.hid ho3; have HB3 := Lib.hid hb3; clear ho3 hb3)
        | (at_builtin; refine app_spine _ rfl _ _ rfl W1.heap.size A1 c1 (k + i) (vals rs') rfl (own_below M.out.sp (HB3.out.trans ((below_alloc w3 _).mono HB3.out.size))) _ 1 (.slice (some ⟨wr.heap.size, 0, none⟩) L L) rfl (lit_row _ rfl) rfl (by omega) ?hb ?_; (case hb => exact Nat.le_trans M.out.bel.size (Nat.le_trans HB3.out.size (by simp))); intro A4 c4 w4 hown4 hgr4; have HO4 := Lib.hid hown4; have HG4 := Lib.hid hgr4; clear hown4 hgr4))
      go_roundw
      case rel =>
        have hv : rowV (some ⟨wr.heap.size, 0, none⟩, L, zrow L) = .slice (some ⟨wr.heap.size, 0, none⟩) L L := by unfold rowV; rw [length_zrow]
        have ho : ownR w3 wr.heap.size (some ⟨wr.heap.size, 0, none⟩, L, zrow L) := by unfold ownR; rw [hv, length_zrow]; exact HO3.out
        refine ⟨i + 1, rs' ++ [(some ⟨wr.heap.size, 0, none⟩, L, zrow L)], A4, c4, by omega, by go_num, rfl, ?_, M.out.push HB3.out ho (.cells #[.slice (some ⟨wr.heap.size, 0, none⟩) L L] 28) (by rw [hv]; exact HO4.out) HG4.out⟩
        rw [lsts_append, LS.out, List.append_assoc, List.replicate_succ']
        rfl
      case measure => simp [intOf]; omega
    · obtain rfl : i = m := by omega
      obtain ⟨r0, rp, rfl, h0⟩ : ∃ r0 rp, rs' = r0 ++ rp ∧ r0.length = k := ⟨rs'.take k, rs'.drop k, (List.take_append_drop k rs').symm, by
        have := length_lsts rs'
        rw [LS.out, List.length_append, HN.out] at this
        rw [List.length_take]; omega⟩
      have hsp := LS.out
      rw [lsts_append] at hsp
      obtain ⟨e1, e2⟩ := List.append_inj hsp (by rw [length_lsts, h0, HN.out])
      have E1 := Lib.hid e1
      have E2 := Lib.hid e2
      have H0 := Lib.hid h0
      have KQ := Lib.hid (KP.out.below M.out.bel)
      have AD := Lib.hid (adder_make b i k Ap mk cp)
      have hle := M.out.sl.le
      rw [length_vals, List.length_append, h0] at hle
      have hrp : rp.length = i := by rw [← length_lsts, e2, List.length_replicate]
      rw [hrp] at hle
      have HRP := Lib.hid hrp
      have hmx := M.out.sl.mx
      unfold maxLen at hmx
      have p0 := KQ.out.cell 0; have p1 := KQ.out.cell 1; have p2 := KQ.out.cell 2
      simp only [List.getElem?_toArray, List.getElem?_cons_succ, List.getElem?_cons_zero] at p0 p1 p2
      clear hsp e1 e2 h0 hrp LS
      have hit : ¬ (i : Int) < (i : Int) := by omega
      have hks : (k : Int) ≤ (k : Int) + (i : Int) := by omega
      obtain ⟨AR, har⟩ : ∃ AR, rowA A1 c1 k = AR := ⟨_, rfl⟩
      have HAR := Lib.hid har
      have hif : (if c1 = k then A1 else Option.map (fun x => x.add k) A1) = AR := har
      clear har
      go_wp2
      go_region_law (go_simp; go_at_call 111; (with_reducible refine (AD.out _ _ _ _).mono ?_); rintro e w3 ⟨bf, bp, bt, rfl, hkn, hb3⟩; have KN := Lib.hid hkn; have B3 : Hid (Below wr.heap.size wr w3) := (below_drew0 wr 1).trans hb3; clear hkn hb3)
      clear hif p0 p1 p2
      have KEEP : Hid (Keeps rp (EncI W1 A1 (k + i) c1 r0 (vals (r0 ++ rp)) (addB b i k Ap mk cp AR (c1 - k) bf bp bt))) := EncI.keeps (w5 := w3) (M.out.gr.below B3.out) (own_below M.out.sp B3.out) KN.out (addB_ne _ _ _ _ _ _ _ _ _ _ _)
      have ENC : Hid (EncI W1 A1 (k + i) c1 r0 (vals (r0 ++ rp)) (addB b i k Ap mk cp AR (c1 - k) bf bp bt) w3) := ⟨M.out.bel.trans (B3.out.mono M.out.bel.size), own_below M.out.sp B3.out, M.out.gr.left.below B3.out, KN.out⟩
      have GP : Hid (Grid w3 W1.heap.size rp) := M.out.gr.right.below B3.out
      have GR := Lib.hid M.out.gr
      have SLT : Hid (∀ wx, EncI W1 A1 (k + i) c1 r0 (vals (r0 ++ rp)) (addB b i k Ap mk cp AR (c1 - k) bf bp bt) wx → Sl wx AR (c1 - k) (vals rp)) := fun wx hx => by
        have := sl_tail (own_sl hx.sp) H0.out
        rwa [HAR.out] at this
      clear AD KQ M BWR
      go_wp2
      go_loopw [50] (fun v wi => ∃ (j : Nat) (rp' : List Row), j ≤ k ∧ v = .int .i64 j ∧ EncI W1 A1 (k + i) c1 r0 (vals (r0 ++ rp)) (addB b i k Ap mk cp AR (c1 - k) bf bp bt) wi ∧ vals rp' = vals rp ∧ lsts rp' = accR k i L ls j ∧ Grid wi W1.heap.size rp') (fun v _ => k - (intOf v).toNat)
      case atStart => exact ⟨0, rp, Nat.zero_le _, rfl, ENC.out, rfl, by rw [E2.out, accR_zero]; rfl, GP.out⟩
      case round =>
        rename World => wi
        clear ENC GP
        obtain ⟨j, rp', hj, rfl, hI, hv, hls, hgi⟩ := hrel
        have HI := Lib.hid hI
        have HV := Lib.hid hv
        have LS := Lib.hid hls
        have GI := Lib.hid hgi
        clear hI hv hls hgi
        by_cases hlj : j < k
        · obtain ⟨A2, c2, h2, h2b⟩ := (HB.out.below BW.out).len (i := j) (by rw [HN.out]; exact hlj)
          obtain ⟨b', o, hA, _, hc⟩ := Sl.at' ((HA.out.below BW.out).below HI.out.bel) (by rw [HB.out.1, HN.out]; omega)
          subst hA
          have y2 := hc j _ h2
          rw [HK.out j hlj] at y2
          have AC := Lib.hid (add_row L wi KEEP.out (HGF.out.below BW.out) BP.out HMK.out SLT.out h2b (HK.out j hlj) HRP.out hlj (by omega) (by omega) hLb HI.out HV.out (fun l' hl' => by
            rw [LS.out] at hl'
            obtain ⟨a, ha⟩ := List.mem_iff_getElem?.1 hl'
            exact len_accR ha) GI.out)
          clear hc h2 h2b
          have hjt : (j : Int) < (k : Int) := by omega
          go_wp2_with (go_at_call 122; (with_reducible refine AC.out.mono ?_); rintro e w4 ⟨rfl, hI4, rp4, hv4, hl4, hg4⟩; have HI4 := Lib.hid hI4; have HV4 := Lib.hid hv4; have HL4 := Lib.hid hl4; have HG4 := Lib.hid hg4; clear hI4 hv4 hl4 hg4)
          go_roundw
          case rel => exact ⟨j + 1, rp4, by omega, by go_num, HI4.out, HV4.out, by rw [HL4.out, LS.out, accR_next], HG4.out⟩
          case measure => simp [intOf]; omega
        · obtain rfl : j = k := by omega
          go_wp2
          go_ret2
          refine ⟨_, _, r0 ++ rp', rfl, ?_, MadeR.back ⟨?_, Grid.join GR.out HV.out HI.out.gr GI.out, HI.out.bel⟩ BW.out⟩
          · rw [lsts_append, E1.out, LS.out]; unfold enc; rw [HL.out]
          · rw [vals_append, HV.out, ← vals_append]; exact HI.out.sp
end Go.Proofs.Ytmkjplpnoohfnaa
