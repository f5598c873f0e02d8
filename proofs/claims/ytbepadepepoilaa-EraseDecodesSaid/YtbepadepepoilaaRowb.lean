/- bulk.Encode, walked. bulk.Encode, where shards or numbers do not fit; bytes.Equal, slices.EqualFunc; bulk.Fits. bytes.Equal, slices.EqualFunc of lists of shards. slices.EqualFunc of lists of shards, walked; bulk.Fits. bulk.Fits, walked. bulk.Update, walked. bulk.Update, where shards or numbers do not fit. -/
import Derived.Test.YtbepadepepoilaaRowa
import Derived.Laws.BytesArg
import Derived.Lib.Bytes
namespace Go.Proofs.Ytbepadepepoilaa
/-! bulk.Encode, walked. -/
section
open Go.RowKit
set_option linter.unusedVariables false
set_option linter.unusedSimpArgs false
def zrow (L : Nat) : List F := List.replicate L (0 : F)
theorem length_zrow (L : Nat) : (zrow L).length = L := List.length_replicate ..
set_option maxRecDepth 1000000 in
set_option maxHeartbeats 4000000 in
theorem bulk_encode (b k m : Nat) (A : Option Addr) (c : Nat) (vs : List Value) (ls : List (List F)) (w : World) (hkm : okkm k m) (hg : GfAt w b) (ha : Sl w A c vs) (hb : Bss w vs ls) (hk : Alk ls k) (hl : ∀ l, l ∈ ls → l.length ≤ 100000) :
    Calls Try.prog 40 #[fp b, .int .i64 k, .int .i64 m, .slice A k c] w fun e w' => ∃ A' c' rs, e = .returned (.tuple #[.slice A' (k + m) c', .int .i64 0]) ∧ lsts rs = enc k m ls ∧ MadeR w w' A' (k + m) c' rs := by
  obtain ⟨hk1, hm0, hkm256⟩ := id hkm
  have hk1' : 1 ≤ k := by omega
  have hkb : k + m ≤ 256 := by omega
  have hn : ls.length = k := by have := hk.1; omega
  obtain ⟨L, hL⟩ : ∃ L, lenAt ls 0 = L := ⟨_, rfl⟩
  have hLb : L ≤ 100000 := by
    rw [← hL]; unfold lenAt
    exact hl _ (by rw [List.getD_eq_getElem?_getD, List.getElem?_eq_getElem (by omega)]; exact List.getElem_mem _)
  have CK : Hid (Calls Try.prog 50 #[fp b, .int .i64 k, .int .i64 m, .int .i64 k, .slice A k c] w fun e w' => ∃ A' c', e = .returned (.tuple #[.agg #[.int .i64 (m : Int), .int .i64 (k : Int), .slice A' (m * k) c'], .int .i64 0]) ∧ Bs w' A' c' (matL m k (parF k)) ∧ Below w.heap.size w w') := bulk_checked_yes b k m k A k c vs ls w hkm hg ha hb hn (by omega) hk
  have OW : Hid (∀ w', Below w.heap.size w w' → Calls Try.prog 51 #[.slice A k c] w' fun e w'' => ∃ A' c' rs, e = .returned (.slice A' k c') ∧ lsts rs = ls ∧ MadeR w' w'' A' k c' rs) := fun w' hw => bulk_own A k c vs ls w' (ha.below hw) (hb.below hw) hn (by omega) hl
  have HA := Lib.hid ha
  have HB := Lib.hid hb
  have HN := Lib.hid hn
  have HGF := Lib.hid hg
  have HL := Lib.hid hL
  have HK : Hid (∀ i, i < k → lenAt ls i = L) := fun i hi => by rw [hk.2 i (by omega)]; exact hL
  clear ha hb hn hk hl hkm hg hL hm0 hkm256 hk1
  have h0t : (0 : Int) < (k : Int) := by omega
  unfold fp at CK ⊢
  obtain ⟨mk, hmk⟩ : ∃ mk, m * k = mk := ⟨_, rfl⟩
  have HMK := Lib.hid hmk
  rw [hmk] at CK
  clear hmk
  go_enter Try.func40, Try.ntmps40
  go_wp2_with (first
    | (go_at_call 50; (with_reducible refine CK.out.mono ?_); rintro e w1 ⟨Ap, cp, rfl, hbs1, hb1⟩; have BP := Lib.hid (Sl.alloc hbs1 (.cells #[.int .i64 (m : Int), .int .i64 (k : Int), .slice Ap mk cp] 24)); have KP := Lib.hid (Blk.new w1 #[.int .i64 (m : Int), .int .i64 (k : Int), .slice Ap mk cp] 24); have BW : Hid (Below w.heap.size w (w1.alloc (.cells #[.int .i64 (m : Int), .int .i64 (k : Int), .slice Ap mk cp] 24))) := hb1.alloc hb1.size _; clear hbs1 hb1)
    | (go_at_call 51; (with_reducible refine (OW.out _ BW.out).mono ?_); rintro e w2 ⟨A0, c0, rs0, rfl, hls0, hm0⟩; have HL0 := Lib.hid hls0; have M0 := Lib.hid hm0; clear hls0 hm0))
  clear CK OW
  generalize w1.alloc (.cells #[.int .i64 (m : Int), .int .i64 (k : Int), .slice Ap mk cp] 24) = W1 at *
  go_loopw [12, 31] (fun u v wr => ∃ (i : Nat) (rs' : List Row) (A1 : Option Addr) (c1 : Nat), i ≤ m ∧ v = .int .i64 i ∧ u = .slice A1 (k + i) c1 ∧ lsts rs' = ls ++ List.replicate i (zrow L) ∧ MadeR W1 wr A1 (k + i) c1 rs') (fun _ v _ => m - (intOf v).toNat)
  case atStart => exact ⟨0, rs0, A0, c0, Nat.zero_le _, rfl, rfl, by rw [HL0.out]; simp, M0.out⟩
  case round =>
    clear HL0 M0
    obtain ⟨i, rs', A1, c1, hi, rfl, rfl, hls, hmr⟩ := hrel
    have LS := Lib.hid hls
    have M := Lib.hid hmr
    have BWR := Lib.hid (BW.out.trans (hmr.bel.mono BW.out.size))
    clear hls hmr
    by_cases hlt : i < m
    · obtain ⟨A3, c3, h3, _⟩ := (HB.out.below BWR.out).len (i := 0) (by rw [HN.out]; omega)
      obtain ⟨b', o, hA, _, hc⟩ := Sl.at' (HA.out.below BWR.out) (by rw [HB.out.1, HN.out]; omega)
      subst hA
      have y3 := hc 0 _ h3
      rw [Nat.add_zero, HL.out] at y3
      clear hc h3
      have hit : (i : Int) < (m : Int) := by omega
      go_wp2_with (first
        | (refine make_bytes _ rfl _ _ rfl .i64 .i64 (L : Int) (L : Int) L rfl rfl rfl rfl ?b ?_; (case b => omega); intro w3 ho3 hb3; have HO3 := Lib.hid ho3; have HB3 := Lib.hid hb3; clear ho3 hb3)
        | (at_builtin; refine app_spine _ rfl _ _ rfl W1.heap.size A1 c1 (k + i) (vals rs') rfl (own_below M.out.sp (HB3.out.trans ((below_alloc w3 _).mono HB3.out.size))) _ 1 (.slice (some ⟨wr.heap.size, 0, none⟩) L L) rfl (lit_row _ rfl) rfl (by omega) ?hb ?_; (case hb => exact Nat.le_trans M.out.bel.size (Nat.le_trans HB3.out.size (by simp))); intro A4 c4 w4 hown4 hgr4; have HO4 := Lib.hid hown4; have HG4 := Lib.hid hgr4; clear hown4 hgr4))
      go_roundw
      case rel =>
        have hv : rowV (some ⟨wr.heap.size, 0, none⟩, L, zrow L) = .slice (some ⟨wr.heap.size, 0, none⟩) L L := by unfold rowV; rw [length_zrow]
        have ho : ownR w3 wr.heap.size (some ⟨wr.heap.size, 0, none⟩, L, zrow L) := by unfold ownR; rw [hv, length_zrow]; exact HO3.out
        refine ⟨i + 1, rs' ++ [(some ⟨wr.heap.size, 0, none⟩, L, zrow L)], A4, c4, by omega, by go_num, rfl, ?_, M.out.push HB3.out ho (.cells #[.slice (some ⟨wr.heap.size, 0, none⟩) L L] 22) (by rw [hv]; exact HO4.out) HG4.out⟩
        rw [lsts_append, LS.out, List.append_assoc, List.replicate_succ']
        rfl
      case measure => simp [intOf]; omega
    · obtain rfl : i = m := by omega
      obtain ⟨r0, rp, rfl, h0⟩ : ∃ r0 rp, rs' = r0 ++ rp ∧ r0.length = k := ⟨rs'.take k, rs'.drop k, (List.take_append_drop k rs').symm, by
        have := length_lsts rs'
        rw [LS.out, List.length_append, HN.out] at this
        rw [List.length_take]; omega⟩
      have hsp := LS.out
      rw [lsts_append] at hsp
      obtain ⟨e1, e2⟩ := List.append_inj hsp (by rw [length_lsts, h0, HN.out])
      have E1 := Lib.hid e1
      have E2 := Lib.hid e2
      have H0 := Lib.hid h0
      have KQ := Lib.hid (KP.out.below M.out.bel)
      have AD := Lib.hid (adder_make b i k Ap mk cp)
      have hle := M.out.sl.le
      rw [length_vals, List.length_append, h0] at hle
      have hrp : rp.length = i := by rw [← length_lsts, e2, List.length_replicate]
      rw [hrp] at hle
      have HRP := Lib.hid hrp
      have hmx := M.out.sl.mx
      unfold maxLen at hmx
      have p0 := KQ.out.cell 0; have p1 := KQ.out.cell 1; have p2 := KQ.out.cell 2
      simp only [List.getElem?_toArray, List.getElem?_cons_succ, List.getElem?_cons_zero] at p0 p1 p2
      clear hsp e1 e2 h0 hrp LS
      have hit : ¬ (i : Int) < (i : Int) := by omega
      have hks : (k : Int) ≤ (k : Int) + (i : Int) := by omega
      obtain ⟨AR, har⟩ : ∃ AR, rowA A1 c1 k = AR := ⟨_, rfl⟩
      have HAR := Lib.hid har
      have hif : (if c1 = k then A1 else Option.map (fun x => x.add k) A1) = AR := har
      clear har
      go_wp2
      go_region_law (go_simp; go_at_call 52; (with_reducible refine (AD.out _ _ _ _).mono ?_); rintro e w3 ⟨bf, bp, bt, rfl, hkn, hb3⟩; have KN := Lib.hid hkn; have B3 : Hid (Below wr.heap.size wr w3) := (below_drew0 wr 1).trans hb3; clear hkn hb3)
      clear hif p0 p1 p2
      have KEEP : Hid (Keeps rp (EncI W1 A1 (k + i) c1 r0 (vals (r0 ++ rp)) (addB b i k Ap mk cp AR (c1 - k) bf bp bt))) := EncI.keeps (w5 := w3) (M.out.gr.below B3.out) (own_below M.out.sp B3.out) KN.out (addB_ne _ _ _ _ _ _ _ _ _ _ _)
      have ENC : Hid (EncI W1 A1 (k + i) c1 r0 (vals (r0 ++ rp)) (addB b i k Ap mk cp AR (c1 - k) bf bp bt) w3) := ⟨M.out.bel.trans (B3.out.mono M.out.bel.size), own_below M.out.sp B3.out, M.out.gr.left.below B3.out, KN.out⟩
      have GP : Hid (Grid w3 W1.heap.size rp) := M.out.gr.right.below B3.out
      have GR := Lib.hid M.out.gr
      have SLT : Hid (∀ wx, EncI W1 A1 (k + i) c1 r0 (vals (r0 ++ rp)) (addB b i k Ap mk cp AR (c1 - k) bf bp bt) wx → Sl wx AR (c1 - k) (vals rp)) := fun wx hx => by
        have := sl_tail (own_sl hx.sp) H0.out
        rwa [HAR.out] at this
      clear AD KQ M BWR
      go_wp2
      go_loopw [50] (fun v wi => ∃ (j : Nat) (rp' : List Row), j ≤ k ∧ v = .int .i64 j ∧ EncI W1 A1 (k + i) c1 r0 (vals (r0 ++ rp)) (addB b i k Ap mk cp AR (c1 - k) bf bp bt) wi ∧ vals rp' = vals rp ∧ lsts rp' = accR k i L ls j ∧ Grid wi W1.heap.size rp') (fun v _ => k - (intOf v).toNat)
      case atStart => exact ⟨0, rp, Nat.zero_le _, rfl, ENC.out, rfl, by rw [E2.out, accR_zero]; rfl, GP.out⟩
      case round =>
        rename World => wi
        clear ENC GP
        obtain ⟨j, rp', hj, rfl, hI, hv, hls, hgi⟩ := hrel
        have HI := Lib.hid hI
        have HV := Lib.hid hv
        have LS := Lib.hid hls
        have GI := Lib.hid hgi
        clear hI hv hls hgi
        by_cases hlj : j < k
        · obtain ⟨A2, c2, h2, h2b⟩ := (HB.out.below BW.out).len (i := j) (by rw [HN.out]; exact hlj)
          obtain ⟨b', o, hA, _, hc⟩ := Sl.at' ((HA.out.below BW.out).below HI.out.bel) (by rw [HB.out.1, HN.out]; omega)
          subst hA
          have y2 := hc j _ h2
          rw [HK.out j hlj] at y2
          have AC := Lib.hid (add_row L wi KEEP.out (HGF.out.below BW.out) BP.out HMK.out SLT.out h2b (HK.out j hlj) HRP.out hlj (by omega) (by omega) hLb HI.out HV.out (fun l' hl' => by
            rw [LS.out] at hl'
            obtain ⟨a, ha⟩ := List.mem_iff_getElem?.1 hl'
            exact len_accR ha) GI.out)
          clear hc h2 h2b
          have hjt : (j : Int) < (k : Int) := by omega
          go_wp2_with (go_at_call 62; (with_reducible refine AC.out.mono ?_); rintro e w4 ⟨rfl, hI4, rp4, hv4, hl4, hg4⟩; have HI4 := Lib.hid hI4; have HV4 := Lib.hid hv4; have HL4 := Lib.hid hl4; have HG4 := Lib.hid hg4; clear hI4 hv4 hl4 hg4)
          go_roundw
          case rel => exact ⟨j + 1, rp4, by omega, by go_num, HI4.out, HV4.out, by rw [HL4.out, LS.out, accR_next], HG4.out⟩
          case measure => simp [intOf]; omega
        · obtain rfl : j = k := by omega
          go_wp2
          go_ret2
          refine ⟨_, _, r0 ++ rp', rfl, ?_, MadeR.back ⟨?_, Grid.join GR.out HV.out HI.out.gr GI.out, HI.out.bel⟩ BW.out⟩
          · rw [lsts_append, E1.out, LS.out]; unfold enc; rw [HL.out]
          · rw [vals_append, HV.out, ← vals_append]; exact HI.out.sp
end
/-! bulk.Encode, where shards or numbers do not fit; bytes.Equal, slices.EqualFunc; bulk.Fits. -/
section
open Go.RowKit
set_option linter.unusedVariables false
set_option linter.unusedSimpArgs false
set_option maxRecDepth 1000000 in
theorem bulk_encode_no (b k m : Nat) (A : Option Addr) (n c : Nat) (vs : List Value) (ls : List (List F)) (w : World) (hkm : okkm k m) (hg : GfAt w b) (ha : Sl w A c vs) (hb : Bss w vs ls) (hn : ls.length = n) (hm : n ≤ 1000) (hk : ¬ Alk ls k) :
    Calls Try.prog 40 #[fp b, .int .i64 k, .int .i64 m, .slice A n c] w fun e w' => e = .returned (.tuple #[.slice none 0 0, .int .i64 60]) ∧ Below w.heap.size w w' := by
  have CK := Lib.hid (bulk_checked_no b k m k A n c vs ls w hkm hg ha hb hn hm hk)
  clear hkm hg ha hb hn hm hk
  unfold fp at CK ⊢
  generalize m * k = mk at *
  go_enter Try.func40, Try.ntmps40
  go_wp2_with (go_at_call 50; (with_reducible refine CK.out.mono ?_); rintro e w1 ⟨Ap, cp, rfl, hb1⟩; have HB1 := Lib.hid hb1; clear hb1)
  go_ret2
  exact ⟨rfl, HB1.out.alloc HB1.out.size _⟩
set_option maxRecDepth 1000000 in
theorem bulk_encode_bad (b : Nat) (k m : Int) (A : Option Addr) (n c : Nat) (w : World) (hk : i64ok k) (hm : i64ok m) (hkm : ¬ okkm k m) :
    Calls Try.prog 40 #[fp b, .int .i64 k, .int .i64 m, .slice A n c] w fun e w' => e = .returned (.tuple #[.slice none 0 0, .int .i64 50]) ∧ Below w.heap.size w w' := by
  have CK := Lib.hid (bulk_checked_bad b k m k A n c w hk hm hkm)
  clear hk hm hkm
  unfold fp noMat at CK
  unfold fp
  go_enter Try.func40, Try.ntmps40
  go_wp2_with (go_at_call 50; (with_reducible refine CK.out.mono ?_); rintro e w1 ⟨rfl, hb1⟩; have HB1 := Lib.hid hb1; clear hb1)
  go_ret2
  exact ⟨rfl, HB1.out.alloc HB1.out.size _⟩
end
/-! bytes.Equal, slices.EqualFunc of lists of shards. -/
section
open Go.RowKit
set_option linter.unusedVariables false
set_option linter.unusedSimpArgs false
/-- bytes as a string -/
def strb (l : List F) : ByteArray := strOfNums (l.map fun x => (x.n : Int))
def byt (l : List F) : List UInt8 := l.map fun x => UInt8.ofNat x.n
theorem strb_toList (l : List F) : (strb l).toList = byt l := by
  unfold strb byt
  rw [Lib.strOfNums_toList]
  unfold Lib.bytesOf
  rw [List.map_map]
  rfl
theorem byt_inj : ∀ {l l' : List F}, byt l = byt l' → l = l'
  | [], [], _ => rfl
  | [], _ :: _, h => by simp [byt] at h
  | _ :: _, [], h => by simp [byt] at h
  | a :: l, a' :: l', h => by
    simp only [byt, List.map_cons, List.cons.injEq] at h
    have e : a.n = a'.n := by
      have := congrArg UInt8.toNat h.1
      have h1 := a.lt
      have h2 := a'.lt
      simp only [UInt8.toNat_ofNat'] at this
      omega
    rw [F.ext e, byt_inj h.2]
theorem convert_bs {w : World} {A : Option Addr} {n c : Nat} {l : List F} (h : Bs w A c l) (hn : l.length = n) : (convert 22 9 (.slice A n c)).run Try.prog w = .ok (.string (strb l)) w := by
  rcases Nat.eq_zero_or_pos n with h0 | h0
  · subst h0
    obtain rfl := List.eq_nil_of_length_eq_zero hn
    rw [run_convert_bytes_string w 22 9 5 A 0 c Try.underlying22 Try.underlying5 Try.underlying9]
    cases A <;> simp [Conv.bytesToString, loadCells]
    all_goals (try rfl)
  · obtain ⟨b, o, rfl, _, hc⟩ := Bs.at' h (by omega)
    refine run_convert_bytes_arg w 22 5 Try.underlying22 Try.underlying5 b o n c _ (by rw [List.length_map]; exact hn) (fun i hi => ?_) 9 Try.underlying9
    rw [hc i (by omega), List.getD_eq_getElem?_getD, List.getD_eq_getElem?_getD, List.getElem?_map, List.getElem?_eq_getElem (by omega)]
    rfl
end
/-! slices.EqualFunc of lists of shards, walked; bulk.Fits. -/
section
open Go.RowKit
set_option linter.unusedVariables false
set_option linter.unusedSimpArgs false
/-- the answer to the question whether two lists of shards are one -/
def SameR (ls ls' : List (List F)) (e : Ending) : Prop := (ls = ls' ∧ e = .returned (.bool true)) ∨ (ls ≠ ls' ∧ e = .returned (.bool false))
theorem list_ext_lt {ls ls' : List (List F)} (h : ls.length = ls'.length) (hi : ∀ i, i < ls.length → ls.getD i [] = ls'.getD i []) : ls = ls' := by
  refine List.ext_getElem h fun i h1 h2 => ?_
  have := hi i h1
  rwa [List.getD_eq_getElem?_getD, List.getD_eq_getElem?_getD, List.getElem?_eq_getElem h1, List.getElem?_eq_getElem h2] at this
end
/-! bulk.Fits, walked. -/
section
open Go.RowKit
set_option linter.unusedVariables false
set_option linter.unusedSimpArgs false
theorem SameR.r {ls ls' : List (List F)} {e : Ending} {r : Bool} (h : SameR ls ls' e) (hr : r = true ↔ ls = ls') : e = .returned (.bool r) := by
  rcases h with ⟨h, rfl⟩ | ⟨h, rfl⟩
  · rw [hr.2 h]
  · cases r with
    | true => exact absurd (hr.1 rfl) h
    | false => rfl
theorem Bss.take {w : World} {vs : List Value} {ls : List (List F)} (h : Bss w vs ls) (k : Nat) : Bss w (vs.take k) (ls.take k) := by
  refine ⟨by rw [List.length_take, List.length_take, h.1], fun i l hl => ?_⟩
  rw [List.getElem?_take] at hl
  split at hl
  · obtain ⟨A, c, h1, h2⟩ := h.2 i l hl
    exact ⟨A, c, by rw [List.getElem?_take, if_pos ‹_›]; exact h1, h2⟩
  · cases hl
theorem Bss.drop {w : World} {vs : List Value} {ls : List (List F)} (h : Bss w vs ls) (k : Nat) : Bss w (vs.drop k) (ls.drop k) := by
  refine ⟨by rw [List.length_drop, List.length_drop, h.1], fun i l hl => ?_⟩
  rw [List.getElem?_drop] at hl
  obtain ⟨A, c, h1, h2⟩ := h.2 _ l hl
  exact ⟨A, c, by rw [List.getElem?_drop]; exact h1, h2⟩
theorem Sl.take {w : World} {A : Option Addr} {c : Nat} {xs : List Value} (h : Sl w A c xs) (k : Nat) : Sl w A c (xs.take k) := by
  refine ⟨Nat.le_trans (by rw [List.length_take]; exact Nat.min_le_right _ _) h.le, h.mx, ?_⟩
  rcases h.cells with h | ⟨b, o, hA, hl, hc⟩
  · exact .inl (by rw [h]; exact List.take_nil)
  · refine .inr ⟨b, o, hA, hl, fun i v hv => ?_⟩
    rw [List.getElem?_take] at hv
    split at hv
    · exact hc i v hv
    · cases hv
theorem lenAt_take {ls : List (List F)} {k i : Nat} (h : i < k) : lenAt (ls.take k) i = lenAt ls i := by
  unfold lenAt
  rw [List.getD_eq_getElem?_getD, List.getElem?_take, if_pos h, List.getD_eq_getElem?_getD]
theorem Alk.take {ls : List (List F)} {n : Int} (h : Alk ls n) {k : Nat} (hk : k ≤ ls.length) : Alk (ls.take k) k := by
  refine ⟨by rw [List.length_take]; omega, fun i hi => ?_⟩
  rw [List.length_take] at hi
  rw [lenAt_take (by omega), lenAt_take (by omega)]
  exact h.2 i (by omega)
theorem mem_take_le {ls : List (List F)} {k : Nat} (hl : ∀ l, l ∈ ls → l.length ≤ 100000) : ∀ l, l ∈ ls.take k → l.length ≤ 100000 := fun l h => hl l (List.mem_of_mem_take h)
end
/-! bulk.Update, walked. -/
section
open Go.RowKit
set_option linter.unusedVariables false
set_option linter.unusedSimpArgs false
theorem Bss.cons {w : World} {vs : List Value} {ls : List (List F)} (h : Bss w vs ls) {A : Option Addr} {c n : Nat} {l : List F} (hb : Bs w A c l) (hn : l.length = n) : Bss w (.slice A n c :: vs) (l :: ls) := by
  subst hn
  refine ⟨by simp [h.1], fun i m hm => ?_⟩
  cases i with
  | zero => simp at hm; subst hm; exact ⟨A, c, rfl, hb⟩
  | succ i => obtain ⟨A', c', h1, h2⟩ := h.2 i m (by simpa using hm); exact ⟨A', c', by simpa using h1, h2⟩
theorem Bss.nil (w : World) : Bss w [] [] := ⟨rfl, fun i l h => by simp at h⟩
theorem Bss.append {w : World} {vs us : List Value} {ls ms : List (List F)} (h : Bss w vs ls) (h' : Bss w us ms) : Bss w (vs ++ us) (ls ++ ms) := by
  refine ⟨by simp [h.1, h'.1], fun i l hl => ?_⟩
  rcases Nat.lt_or_ge i ls.length with e | e
  · rw [List.getElem?_append_left e] at hl
    obtain ⟨A, c, h1, h2⟩ := h.2 i l hl
    exact ⟨A, c, by rw [List.getElem?_append_left (by rw [h.1]; exact e)]; exact h1, h2⟩
  · rw [List.getElem?_append_right e] at hl
    obtain ⟨A, c, h1, h2⟩ := h'.2 _ l hl
    exact ⟨A, c, by rw [List.getElem?_append_right (by rw [h.1]; exact e), h.1]; exact h1, h2⟩
theorem Bss.one {w : World} {vs : List Value} {ls : List (List F)} (h : Bss w vs ls) : ∀ u ∈ vs, u.oneCell' = true := fun u hu => by
  obtain ⟨i, hi, rfl⟩ := List.mem_iff_getElem.1 hu
  obtain ⟨A, c, h1, _⟩ := h.2 i (ls[i]'(by rw [← h.1]; exact hi)) (List.getElem?_eq_getElem _)
  rw [List.getElem?_eq_getElem hi] at h1
  injection h1 with h1
  rw [h1]; rfl
theorem own_lit (w : World) (vs : List Value) (n : Nat) (hn : vs.length = n) (hb : n ≤ 1000) : (w.alloc (.cells vs.toArray 22)).ownsRow w.heap.size 22 1 (.slice (some ⟨w.heap.size, 0, none⟩) n n) n vs := by
  subst hn
  exact ⟨by simp, .inr ⟨w.heap.size, vs.length, vs.toArray, rfl, Nat.le_refl _, heap_alloc_new w _, Nat.le_refl _, by unfold maxLen; omega, by simp, by simp⟩⟩
/-- an append of a whole list of shards to a spine -/
theorem app_spines {ops : Array Oper} {rest : List Oper} {o : Oper} {a : Act} {Q : Exit → Act → World → Prop} (w : World) (hg : o.guard = none) (s x : Operand)
    (ho : o.op = .call { callee := .builtin .append, args := #[s, x], argTypes := #[42, 42] })
    (B : Nat) (A1 : Option Addr) (c1 n : Nat) (xs : List Value) (hs : a.eval s = .slice A1 n c1) (hown : w.ownsRow B 22 1 (.slice A1 n c1) n xs)
    (A : Option Addr) (c m : Nat) (us : List Value) (hx : a.eval x = .slice A m c) (hl : Sl w A c us) (hm : us.length = m) (hu : ∀ u ∈ us, u.oneCell' = true) (hN : n + m ≤ 100000) (hB : B ≤ w.heap.size)
    (hK : ∀ A' c' w', w'.ownsRow B 22 1 (.slice A' (n + m) c') (n + m) (xs ++ us) → w.grownBy w' (Value.slice A1 n c1).ownBlock → wpList Try.prog ops Q rest (a.put o.dst (.slice A' (n + m) c')) w') : wpList Try.prog ops Q (o :: rest) a w := by
  subst hm
  refine app_sl w hg s x 42 ho B 22 (.slice none 0 0) 24 Try.underlying42 info_row rfl _ n xs hs hown A c us hx hl hu (by decide) (by omega) hB ?_
  intro v' w' h1 h2
  obtain ⟨A', c', rfl⟩ := own_form h1
  exact hK A' c' w' h1 h2
theorem below_lit {w w' : World} {o : Obj} {n c : Nat} (hg : (w.alloc o).grownBy w' (Value.slice (some ⟨w.heap.size, 0, none⟩) n c).ownBlock) : Below w.heap.size w w' :=
  (below_alloc w o).grown hg (by simp) fun k hk => by simp only [Value.ownBlock, Option.some.injEq] at hk; omega
theorem len_mapR {h : Nat → Nat → F → F} {ls : List (List F)} {L : Nat} (hl : ∀ l, l ∈ ls → l.length = L) : ∀ l, l ∈ mapR h ls → l.length = L := fun l hm => by
  obtain ⟨i, hi⟩ := List.mem_iff_getElem?.1 hm
  unfold mapR at hi
  rw [List.getElem?_mapIdx] at hi
  cases e : ls[i]? with
  | none => rw [e] at hi; cases hi
  | some l' =>
    rw [e] at hi
    simp only [Option.map_some, Option.some.injEq] at hi
    rw [← hi, length_tab]
    exact hl _ (List.mem_of_getElem? e)
/-- parity rows behind an update -/
def updR (k j : Nat) (l1 l2 : List F) (ls : List (List F)) : List (List F) := mapR (addH (parF k) j l2) (mapR (addH (parF k) j l1) ls)
end
/-! bulk.Update, where shards or numbers do not fit. -/
section
open Go.RowKit
set_option linter.unusedVariables false
set_option linter.unusedSimpArgs false
end
end Go.Proofs.Ytbepadepepoilaa
