/- The closure of erase.Decode, walked. -/
import Derived.Test.YtbepadepepoilaaEra
import Derived.Test.YtbepadepepoilaaMxI
import Derived.Test.YtbepadepepoilaaMxK
import Derived.StillTailTactics
namespace Go.Proofs.Ytbepadepepoilaa
open Go.RowKit
set_option linter.unusedVariables false
set_option linter.unusedSimpArgs false
/-- a data row while it is made: of i shards, and of the next one the first n bytes -/
def dS (V : Nat → F) (ls : List (List F)) (Ls : List Nat) (i x : Nat) : F := sumF i fun t => V t * at2 ls (Ls.getD t 0) x
def dT (Len : Nat) (V : Nat → F) (ls : List (List F)) (Ls : List Nat) (i n : Nat) : List F := tab Len fun x => if x < n then dS V ls Ls (i + 1) x else dS V ls Ls i x
theorem length_dT (Len : Nat) (V : Nat → F) (ls : List (List F)) (Ls : List Nat) (i n : Nat) : (dT Len V ls Ls i n).length = Len := length_tab _ _
theorem dT_zero (Len : Nat) (V : Nat → F) (ls : List (List F)) (Ls : List Nat) : List.replicate Len (0 : F) = dT Len V ls Ls 0 0 := by
  refine ext_getD (by rw [length_dT, List.length_replicate]) fun x hx => ?_
  rw [List.length_replicate] at hx
  rw [dT, getD_tab _ hx, if_neg (by omega), List.getD_eq_getElem?_getD, List.getElem?_replicate, if_pos hx]; rfl
theorem dT_next (Len : Nat) (V : Nat → F) (ls : List (List F)) (Ls : List Nat) (i : Nat) : dT Len V ls Ls i Len = dT Len V ls Ls (i + 1) 0 := tab_congr fun x hx => by rw [if_pos hx, if_neg (by omega)]
theorem dT_all (Len : Nat) (V : Nat → F) (ls : List (List F)) (Ls : List Nat) (k : Nat) : dT Len V ls Ls k 0 = tab Len fun x => dS V ls Ls k x := tab_congr fun x _ => by rw [if_neg (by omega)]
theorem dT_get {Len : Nat} (V : Nat → F) (ls : List (List F)) (Ls : List Nat) (i : Nat) {n : Nat} (hn : n < Len) : (dT Len V ls Ls i n).getD n 0 = dS V ls Ls i n := by
  rw [dT, getD_tab _ hn, if_neg (Nat.lt_irrefl n)]
theorem dT_set {Len : Nat} (V : Nat → F) (ls : List (List F)) (Ls : List Nat) (i : Nat) {n : Nat} (hn : n < Len) : (dT Len V ls Ls i n).set n (dS V ls Ls i n + V i * at2 ls (Ls.getD i 0) n) = dT Len V ls Ls i (n + 1) := by
  unfold dT
  rw [set_tab]
  refine tab_congr fun x _ => ?_
  by_cases e : x = n
  · subst e; rw [if_pos rfl, if_pos (by omega)]; rfl
  · rw [if_neg e]
    by_cases e2 : x < n
    · rw [if_pos e2, if_pos (by omega)]
    · rw [if_neg e2, if_neg (by omega)]
theorem Rr.getB {w : World} {A : Option Addr} {c : Nat} {ls : List (List F)} (h : Rr w A c ls) {i : Nat} (hi : i < ls.length) : ∃ b o A2 c2, A = some ⟨b, o, none⟩ ∧ b < w.heap.size ∧ w.cell? ⟨b, o + i, none⟩ = some (.slice A2 (lenAt ls i) c2) ∧ Bs w A2 c2 (ls.getD i []) := by
  obtain ⟨vs, h1, h2⟩ := h.ex
  obtain ⟨A2, c2, h3, h4⟩ := h2.len hi
  obtain ⟨b, o, hA, hb, hc⟩ := Sl.at' h1 (by rw [h2.1]; omega)
  exact ⟨b, o, A2, c2, hA, hb, hc i _ h3, h4⟩
/-- what the closure reads -/
structure DecR (w : World) (b b5 b6 b9 b14 b17 : Nat) (k : Nat) (A : Option Addr) (n c : Nat) (Al : Option Addr) (cl : Nat) (Av : Option Addr) (cv : Nat) (V : Mx) (ls : List (List F)) (Ls : List Nat) : Prop where
  gf : GfAt w b
  k5 : Blk w b5 27 #[fp b]
  k6 : Blk w b6 3 #[.int .i64 k]
  k9 : Blk w b9 42 #[.slice A n c]
  k14 : Blk w b14 25 #[.slice Al k cl]
  k17 : Blk w b17 24 #[.int .i64 k, .int .i64 k, .slice Av (k * k) cv]
  r : Rr w A c ls
  l : Sl w Al cl (nvs Ls)
  v : Bs w Av cv (matL k k V)
theorem DecR.below {w w' : World} {b b5 b6 b9 b14 b17 k : Nat} {A : Option Addr} {n c : Nat} {Al : Option Addr} {cl : Nat} {Av : Option Addr} {cv : Nat} {V : Mx} {ls : List (List F)} {Ls : List Nat} (h : DecR w b b5 b6 b9 b14 b17 k A n c Al cl Av cv V ls Ls) (hb : Below w.heap.size w w') : DecR w' b b5 b6 b9 b14 b17 k A n c Al cl Av cv V ls Ls :=
  ⟨h.gf.below hb, h.k5.below hb, h.k6.below hb, h.k9.below hb, h.k14.below hb, h.k17.below hb, h.r.below hb, h.l.below hb, Sl.below h.v hb⟩
set_option maxRecDepth 1000000 in
set_option maxHeartbeats 4000000 in
theorem erase_made (b b5 b6 b9 b14 b17 k j Len : Nat) (A : Option Addr) (n c : Nat) (Al : Option Addr) (cl : Nat) (Av : Option Addr) (cv : Nat) (V : Mx) (ls : List (List F)) (Ls : List Nat) (w : World) (h : DecR w b b5 b6 b9 b14 b17 k A n c Al cl Av cv V ls Ls) (hn : ls.length = n) (hL : Ls.length = k) (hj : j < k) (hk : k ≤ 256) (hrow : ∀ i, i < k → Ls.getD i 0 < n ∧ lenAt ls (Ls.getD i 0) = Len) (hLen : Len ≤ 100000) (hnb : n ≤ 1000) :
    Calls Try.prog 39 #[.int .i64 j, .pointer (some ⟨b9, 0, none⟩), .pointer (some ⟨b14, 0, none⟩), .pointer (some ⟨b17, 0, none⟩), .pointer (some ⟨b6, 0, none⟩), .pointer (some ⟨b5, 0, none⟩)] w fun e w' => ∃ A' c', e = .returned (.slice A' Len c') ∧ w'.ownsRow w.heap.size 5 1 (.slice A' Len c') Len ((tab Len fun x => dS (V j) ls Ls k x).map bv) ∧ Below w.heap.size w w' := by
  have H := Lib.hid h
  have HN := Lib.hid hn
  have HL := Lib.hid hL
  have HR := Lib.hid hrow
  have LOV : Hid (∀ i, i < k → j * k + i < k * k ∧ (matL k k V).getD (j * k + i) 0 = V j i) := fun i hi => ⟨row_lt hj hi, getD_matL V hj hi⟩
  have LV : Hid ((matL k k V).length = k * k) := length_matL _ _ _
  have hkk : k * k ≤ 65536 := Nat.mul_le_mul hk hk
  have hjk : j * k ≤ k * k := Nat.mul_le_mul_right _ (Nat.le_of_lt hj)
  have e1 : (j : Int) * (k : Int) = ((j * k : Nat) : Int) := by simp
  have w1 : IntKind.i64.wrap ((j : Int) * (k : Int)) = ((j * k : Nat) : Int) := by rw [e1, IntKind.wrap_i64]; omega
  clear e1
  obtain ⟨z0, hz0⟩ : ∃ z, Ls.getD 0 0 = z := ⟨_, rfl⟩
  have hr0 := hrow 0 (by omega)
  rw [hz0] at hr0
  have q9 := h.k9.cell 0; have q14 := h.k14.cell 0
  simp only [List.getElem?_toArray, List.getElem?_cons_succ, List.getElem?_cons_zero] at q9 q14
  obtain ⟨bl, ol, hAl, _, hcl⟩ := Sl.at' h.l (by unfold nvs; rw [List.length_map]; omega)
  subst hAl
  have y1 := hcl 0 (.int .i64 z0) (by unfold nvs; rw [List.getElem?_map, List.getElem?_eq_getElem (by omega), ← hz0, List.getD_eq_getElem?_getD, List.getElem?_eq_getElem (by omega)]; rfl)
  rw [Nat.add_zero] at y1
  obtain ⟨bs, os, A2, c2, hA, y2, _⟩ := h.r.get (i := z0) (by rw [hn]; exact hr0.1)
  subst hA
  rw [hr0.2] at y2
  have hzt : (z0 : Int) < (n : Int) := by omega
  have h0k : (0 : Int) < (k : Int) := by omega
  have h0n : 0 < k := by omega
  clear h hn hL hrow hr0 hz0 hcl
  have FIN := Lib.hid (dT_all Len (V j) ls Ls k)
  have DZ := Lib.hid (dT_zero Len (V j) ls Ls)
  have DN := Lib.hid (dT_next Len (V j) ls Ls)
  go_enter Try.func39, Try.ntmps39
  go_wp2
  refine wp_region_still_tail 7 (by kernel_rfl) (by kernel_rfl) ?_
  simp only [List.take_succ_cons, List.take_zero, List.drop_succ_cons, List.drop_zero]
  repeat still_step
  refine wpStill_nil ?_
  change wpList _ _ _ _ _ w.drew
  go_wp2_with (refine make_bytes _ rfl _ _ rfl .i64 .i64 (Len : Int) (Len : Int) Len rfl rfl rfl rfl ?b ?_; (case b => omega); intro w3 ho3 hb3; have HO : Hid (w3.ownsRow w.heap.size 5 1 (.slice (some ⟨w.heap.size, 0, none⟩) Len Len) Len ((List.replicate Len (0 : F)).map bv)) := ho3; have HB : Hid (Below w.heap.size w w3) := (below_drew0 w 1).trans hb3; have q14 := (H.out.below HB.out).k14.cell 0; simp only [List.getElem?_toArray, List.getElem?_cons_succ, List.getElem?_cons_zero] at q14; clear ho3 hb3)
  clear q9 q14 y1 y2
  go_loopw [24] (fun v wr => ∃ i : Nat, i ≤ k ∧ v = .int .i64 i ∧ wr.ownsRow w.heap.size 5 1 (.slice (some ⟨w.heap.size, 0, none⟩) Len Len) Len ((dT Len (V j) ls Ls i 0).map bv) ∧ Below w.heap.size w wr) (fun v _ => k - (intOf v).toNat)
  case atStart => exact ⟨0, Nat.zero_le _, rfl, by rw [← DZ.out]; exact HO.out, HB.out⟩
  case round =>
    clear HO HB
    obtain ⟨i, hi, rfl, ho, hb⟩ := hrel
    have HO := Lib.hid ho
    have HB := Lib.hid hb
    clear ho hb
    by_cases hlt : i < k
    · have D := H.out.below HB.out
      have q9 := D.k9.cell 0; have q6 := D.k6.cell 0; have q0 := D.k17.cell 0; have q1 := D.k17.cell 1; have q2 := D.k17.cell 2
      simp only [List.getElem?_toArray, List.getElem?_cons_succ, List.getElem?_cons_zero] at q9 q6 q0 q1 q2
      obtain ⟨z, hz⟩ : ∃ z, Ls.getD i 0 = z := ⟨_, rfl⟩
      have hri := HR.out i hlt
      rw [hz] at hri
      obtain ⟨bl', ol', hA, _, hcl⟩ := Sl.at' D.l (by unfold nvs; rw [List.length_map, HL.out]; omega)
      injection hA with hA
      obtain ⟨rfl, rfl⟩ : bl = bl' ∧ ol = ol' := by injection hA with e1 e2; exact ⟨e1, e2⟩
      have y1 := hcl i (.int .i64 z) (by unfold nvs; rw [List.getElem?_map, List.getElem?_eq_getElem (by rw [HL.out]; exact hlt), ← hz, List.getD_eq_getElem?_getD, List.getElem?_eq_getElem (by rw [HL.out]; exact hlt)]; rfl)
      obtain ⟨bs', os', A3, c3, hA', hblt, y2w, h3⟩ := H.out.r.getB (i := z) (by rw [HN.out]; exact hri.1)
      have y2 := (HB.out.cell (p := ⟨bs', os' + z, none⟩) hblt).trans y2w
      clear y2w hblt
      injection hA' with hA'
      obtain ⟨rfl, rfl⟩ : bs = bs' ∧ os = os' := by injection hA' with e1 e2; exact ⟨e1, e2⟩
      rw [hri.2] at y2
      have H3 := Lib.hid h3
      obtain ⟨hlo, hval⟩ := LOV.out i hlt
      obtain ⟨bv', ov, hAv, _, hcv⟩ := Bs.at' D.v (by rw [LV.out]; omega)
      subst hAv
      have y3 := hcv (j * k + i) (by rw [LV.out]; exact hlo)
      rw [hval] at y3
      have hit : (i : Int) < (k : Int) := by omega
      have hzt2 : (z : Int) < (n : Int) := by omega
      have HZ := Lib.hid hz
      have HRI := Lib.hid hri
      have DS := Lib.hid (fun n hn => dT_set (Len := Len) (V j) ls Ls i (n := n) hn)
      have DG := Lib.hid (fun n hn => dT_get (Len := Len) (V j) ls Ls i (n := n) hn)
      clear D hcl hA hA' h3 hcv hval hz hri
      generalize hjk2 : j * k = jk at *
      generalize hkk2 : k * k = kk at *
      generalize V j i = x at *
      go_wp2
      clear y1 y2 y3 q9 q6 q0 q1 q2
      go_loopw [43] (fun v wi => ∃ a : Nat, a ≤ Len ∧ v = .int .i64 a ∧ wi.ownsRow w.heap.size 5 1 (.slice (some ⟨w.heap.size, 0, none⟩) Len Len) Len ((dT Len (V j) ls Ls i a).map bv) ∧ Below w.heap.size w wi) (fun v _ => Len - (intOf v).toNat)
      case atStart => exact ⟨0, Nat.zero_le _, rfl, HO.out, HB.out⟩
      case round =>
        rename World => wi
        clear HO HB
        obtain ⟨a, ha, rfl, ho, hb⟩ := hrel
        have HO := Lib.hid ho
        have HB := Lib.hid hb
        by_cases hla : a < Len
        · have D := H.out.below hb
          have q5 := D.k5.cell 0
          simp only [List.getElem?_toArray, List.getElem?_cons_succ, List.getElem?_cons_zero] at q5
          have hl3 : (ls.getD z []).length = Len := HRI.out.2
          obtain ⟨b4, o4, hA4, _, hc4⟩ := Bs.at' (Sl.below H3.out hb) (by omega)
          subst hA4
          have y4 := hc4 a (by omega)
          have hcl := ho.cellAt a (by omega)
          rw [getElem?_bv (by rw [length_dT]; exact hla), DG.out a hla] at hcl
          have hfz := ho.frozenAt a
          have HST : Hid (∀ nd, ((wi.drewN nd).setCell ⟨w.heap.size, a, none⟩ (bv (dS (V j) ls Ls i a + x * (ls.getD z []).getD a 0))).ownsRow w.heap.size 5 1 (.slice (some ⟨w.heap.size, 0, none⟩) Len Len) Len ((dT Len (V j) ls Ls i (a + 1)).map bv) ∧ Below w.heap.size w ((wi.drewN nd).setCell ⟨w.heap.size, a, none⟩ (bv (dS (V j) ls Ls i a + x * (ls.getD z []).getD a 0)))) := fun nd => by
            have hst := ((show (wi.drewN nd).ownsRow w.heap.size 5 1 (.slice (some ⟨w.heap.size, 0, none⟩) Len Len) Len ((dT Len (V j) ls Ls i a).map bv) from own_drewN ho nd).stored a (bv (dS (V j) ls Ls i a + x * (ls.getD z []).getD a 0))).1
            rw [map_set] at hst
            have e := DS.out a hla
            rw [HZ.out] at e
            rw [show (dT Len (V j) ls Ls i a).set a (dS (V j) ls Ls i a + x * (ls.getD z []).getD a 0) = dT Len (V j) ls Ls i (a + 1) from e] at hst
            exact ⟨hst, (below_drewN hb nd).setCell (Nat.le_refl _) _⟩
          have MU2 := Lib.hid (gf_mul b x ((ls.getD z []).getD a 0) wi.drew ⟨D.gf.lt, D.gf.e, D.gf.l⟩)
          have hat : (a : Int) < (Len : Int) := by omega
          clear D hc4 ho hb hl3
          generalize (ls.getD z []).getD a 0 = y at *
          generalize dS (V j) ls Ls i a = acc at *
          have hxor := xor_n acc (x * y)
          unfold fp at MU2 q5
          go_wp2
          go_region_law (go_simp; go_at_call 30; (with_reducible refine MU2.out.mono ?_); rintro e w2 ⟨rfl, nd, rfl⟩)
          all_goals
            go_wp2
            go_roundw
            case rel => exact ⟨a + 1, by omega, by go_num, (HST.out _).1, (HST.out _).2⟩
            case measure => simp [intOf]; omega
        · obtain rfl : a = Len := by omega
          have hat : ¬ (a : Int) < (a : Int) := by omega
          clear ho hb
          go_wp2
          go_roundw
          case rel => exact ⟨i + 1, by omega, by go_num, by rw [← DN.out]; exact HO.out, HB.out⟩
          case measure => simp [intOf]; omega
    · obtain rfl : i = k := by omega
      have hit : ¬ (i : Int) < (i : Int) := by omega
      go_wp2
      go_ret
      exact ⟨_, _, rfl, by rw [← FIN.out]; exact HO.out, HB.out⟩
end Go.Proofs.Ytbepadepepoilaa
