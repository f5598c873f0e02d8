/- EraseLater, walked. -/
import Derived.Test.YtmkjplpnoohfnaaLaw07
namespace Go.Proofs.Ytmkjplpnoohfnaa
open Go.RowKit
set_option linter.unusedVariables false
set_option linter.unusedSimpArgs false
theorem idx_prefix (has : List Bool) (M d : Nat) : ∃ r, idx has (M + d) = idx has M ++ r := by
  induction d with
  | zero => exact ⟨[], by simp⟩
  | succ d ih =>
    obtain ⟨r, hr⟩ := ih
    rw [← Nat.add_assoc, idx_succ, hr, List.append_assoc]
    exact ⟨_, rfl⟩
/-- one of the first k places has at most k at or ahead of it -/
theorem fst_count {k i : Nat} {has : List Bool} (h : i ∈ fst k has) : (idx has (i + 1)).length ≤ k := by
  have hi := fst_lt h
  obtain ⟨r, hr⟩ := idx_prefix has (i + 1) (has.length - (i + 1))
  rw [show i + 1 + (has.length - (i + 1)) = has.length by omega] at hr
  rcases Nat.lt_or_ge k (idx has (i + 1)).length with h1 | h1
  · exfalso
    unfold fst at h
    rw [hr, List.take_append_of_le_length (by omega), idx_succ] at h
    have hle : k ≤ (idx has i).length := by
      rw [idx_succ, List.length_append] at h1
      split at h1 <;> simp at h1 <;> omega
    rw [List.take_append_of_le_length hle] at h
    exact absurd (idx_lt (List.mem_of_mem_take h)) (Nat.lt_irrefl i)
  · exact h1
theorem idx_has {has : List Bool} {n i : Nat} (h : i ∈ idx has n) : has.getD i false = true := by
  unfold idx at h
  exact (List.mem_filter.1 h).2
def latE (has : List Bool) (k : Int) (y : F) : Nat → Nat → F → F := fun i _ v => if i < has.length ∧ (has.getD i false = false ∨ k < ((idx has (i + 1)).length : Int)) then v + y else v
theorem late_same {k m : Int} {has : List Bool} {la X X' : List (List F)} {E E' : Int} {y : F} (hk : okkm k m → 0 ≤ k) (h : DecCase k m has la X E) (h' : DecCase k m has (mapR (latE has k y) la) X' E') : E = E' ∧ X = X' := by
  refine h.same h' (length_mapR _ _).symm (fun i _ => (lenAt_mapR _ _ i).symm) fun i hi x hx => ?_
  have ha : i < la.length := by
    rcases Nat.lt_or_ge i la.length with q | q
    · exact q
    · unfold lenAt at hx; rw [getD_over' q] at hx; simp at hx
  rw [at2_mapR ha hx]
  have hk0 : 0 ≤ k := by
    rcases Int.lt_or_le k 0 with q | q
    · rw [show k.toNat = 0 by omega] at hi
      unfold fst at hi
      simp at hi
    · exact q
  have h1 := fst_count hi
  have h2 := idx_has (fst_mem hi)
  unfold latE
  rw [if_neg]
  rintro ⟨_, q | q⟩
  · rw [h2] at q; cases q
  · omega
set_option maxRecDepth 1000000 in
set_option maxHeartbeats 4000000 in
theorem walk_EraseLater {w : World} (k : Int) (hk : -9223372036854775808 ≤ k ∧ k ≤ 9223372036854775807) (m : Int) (hm : -9223372036854775808 ≤ m ∧ m ≤ 9223372036854775807) (Al : Option Addr) (cl : Nat) (has : List Bool) (hh : Sl w Al cl (has.map Value.bool)) (Aa : Option Addr) (ca : Nat) (la : List (List F)) (ha : Rr w Aa ca la) (y : F) :
    Calls Try.prog 33 #[.int .i64 k, .int .i64 m, .slice Al has.length cl, .slice Aa la.length ca, .int .u8 y.n] w fun e w' => e = .returned (.bool true) ∧ Below w.heap.size w w' := by
  have HH := Lib.hid hh
  have hhm := hh.mx
  unfold maxLen at hhm
  have hhl := hh.le
  rw [List.length_map] at hhl
  clear hh
  by_cases hf : FewP k m la
  rotate_left
  · have FW : Hid (∀ A c w, Rr w A c la → Calls Try.prog 70 #[.int .i64 k, .int .i64 m, .slice A la.length c] w fun e w' => e = .returned (.bool false) ∧ Below w.heap.size w w') := fun A c w h => few_any k m A c la false w hk hm h (by simp [hf])
    have K := Lib.hid (Lk.start w)
    replace K := Lib.hid (K.out.rr' ha)
    clear ha
    go_enter Try.func33, Try.ntmps33
    go_wp2_with (first
      | (go_at_call 84; (with_reducible refine (awake7 _).mono ?_); rintro e w1 ⟨rfl, hbel⟩; (first | replace K := Lib.hid (K.out.below hbel) | replace K := Lib.hid ((K.out.alloc _).below hbel) | replace K := Lib.hid (((K.out.alloc _).alloc _).below hbel) | replace K := Lib.hid ((((K.out.alloc _).alloc _).alloc _).below hbel) | replace K := Lib.hid (((((K.out.alloc _).alloc _).alloc _).alloc _).below hbel) | replace K := Lib.hid (K.out.drew.below hbel) | replace K := Lib.hid ((K.out.drewN _).below hbel)); clear hbel)
      | (go_at_call 37; (with_reducible refine (new_any _).mono ?_); rintro e w2 ⟨rfl, hbel, hg⟩; (first | replace K := Lib.hid (K.out.below hbel) | replace K := Lib.hid ((K.out.alloc _).below hbel) | replace K := Lib.hid (((K.out.alloc _).alloc _).below hbel) | replace K := Lib.hid ((((K.out.alloc _).alloc _).alloc _).below hbel) | replace K := Lib.hid (((((K.out.alloc _).alloc _).alloc _).alloc _).below hbel) | replace K := Lib.hid (K.out.drew.below hbel) | replace K := Lib.hid ((K.out.drewN _).below hbel)); clear hbel; replace K := Lib.hid (K.out.withF hg); clear hg)
      | (go_at_call 70; (with_reducible refine (FW.out _ _ _ ?_).mono ?_); (first | exact K.out.at (.head _) | exact (K.out.alloc _).at (.head _) | exact ((K.out.alloc _).alloc _).at (.head _) | exact (((K.out.alloc _).alloc _).alloc _).at (.head _) | exact ((((K.out.alloc _).alloc _).alloc _).alloc _).at (.head _) | exact K.out.drew.at (.head _) | exact (K.out.drewN _).at (.head _)); rintro e w3 ⟨rfl, hbel⟩; (first | replace K := Lib.hid (K.out.below hbel) | replace K := Lib.hid ((K.out.alloc _).below hbel) | replace K := Lib.hid (((K.out.alloc _).alloc _).below hbel) | replace K := Lib.hid ((((K.out.alloc _).alloc _).alloc _).below hbel) | replace K := Lib.hid (((((K.out.alloc _).alloc _).alloc _).alloc _).below hbel) | replace K := Lib.hid (K.out.drew.below hbel) | replace K := Lib.hid ((K.out.drewN _).below hbel)); clear hbel))
    go_ret
    exact ⟨rfl, K.out.since⟩
  have FW : Hid (∀ A c w, Rr w A c la → Calls Try.prog 70 #[.int .i64 k, .int .i64 m, .slice A la.length c] w fun e w' => e = .returned (.bool true) ∧ Below w.heap.size w w') := fun A c w h => few_any k m A c la true w hk hm h (by simp [hf])
  by_cases h20 : la.length ≤ 20
  rotate_left
  · have d20 : (20 : Int) < (la.length : Int) := by omega
    have K := Lib.hid (Lk.start w)
    replace K := Lib.hid (K.out.rr' ha)
    clear ha
    go_enter Try.func33, Try.ntmps33
    go_wp2_with (first
      | (go_at_call 84; (with_reducible refine (awake7 _).mono ?_); rintro e w1 ⟨rfl, hbel⟩; (first | replace K := Lib.hid (K.out.below hbel) | replace K := Lib.hid ((K.out.alloc _).below hbel) | replace K := Lib.hid (((K.out.alloc _).alloc _).below hbel) | replace K := Lib.hid ((((K.out.alloc _).alloc _).alloc _).below hbel) | replace K := Lib.hid (((((K.out.alloc _).alloc _).alloc _).alloc _).below hbel) | replace K := Lib.hid (K.out.drew.below hbel) | replace K := Lib.hid ((K.out.drewN _).below hbel)); clear hbel)
      | (go_at_call 37; (with_reducible refine (new_any _).mono ?_); rintro e w2 ⟨rfl, hbel, hg⟩; (first | replace K := Lib.hid (K.out.below hbel) | replace K := Lib.hid ((K.out.alloc _).below hbel) | replace K := Lib.hid (((K.out.alloc _).alloc _).below hbel) | replace K := Lib.hid ((((K.out.alloc _).alloc _).alloc _).below hbel) | replace K := Lib.hid (((((K.out.alloc _).alloc _).alloc _).alloc _).below hbel) | replace K := Lib.hid (K.out.drew.below hbel) | replace K := Lib.hid ((K.out.drewN _).below hbel)); clear hbel; replace K := Lib.hid (K.out.withF hg); clear hg)
      | (go_at_call 70; (with_reducible refine (FW.out _ _ _ ?_).mono ?_); (first | exact K.out.at (.head _) | exact (K.out.alloc _).at (.head _) | exact ((K.out.alloc _).alloc _).at (.head _) | exact (((K.out.alloc _).alloc _).alloc _).at (.head _) | exact ((((K.out.alloc _).alloc _).alloc _).alloc _).at (.head _) | exact K.out.drew.at (.head _) | exact (K.out.drewN _).at (.head _)); rintro e w3 ⟨rfl, hbel⟩; (first | replace K := Lib.hid (K.out.below hbel) | replace K := Lib.hid ((K.out.alloc _).below hbel) | replace K := Lib.hid (((K.out.alloc _).alloc _).below hbel) | replace K := Lib.hid ((((K.out.alloc _).alloc _).alloc _).below hbel) | replace K := Lib.hid (((((K.out.alloc _).alloc _).alloc _).alloc _).below hbel) | replace K := Lib.hid (K.out.drew.below hbel) | replace K := Lib.hid ((K.out.drewN _).below hbel)); clear hbel))
    go_ret
    exact ⟨rfl, K.out.since⟩
  have d20 : ¬ (20 : Int) < (la.length : Int) := by omega
  have hla := hf.le
  obtain ⟨X, E, hc1, h1⟩ := dec_out k m has la hk hm hla
  obtain ⟨X', E', hc2, h2⟩ := dec_out k m has (mapR (latE has k y) la) hk hm (le_mapR hla)
  obtain ⟨rfl, rfl⟩ := late_same (fun h => by have := h.1; omega) hc1 hc2
  have HD1 := Lib.hid h1
  have hXn : X.length ≤ 900 := hc1.len
  have HD2 : Hid (∀ b Ah ch A c w, GfAt w b → Sl w Ah ch (has.map Value.bool) → Rr w A c (mapR (latE has k y) la) → Calls Try.prog 85 #[fp b, .int .i64 k, .int .i64 m, .slice Ah has.length ch, .slice A la.length c] w (ShR w X E)) := fun b Ah ch A c w hg hh hr => by have := h2 b Ah ch A c w hg hh hr; rw [length_mapR] at this; exact this
  have SM : Hid (∀ A c A' c' w, Rr w A c X → Rr w A' c' X → Calls Try.prog 75 #[.slice A X.length c, .slice A' X.length c'] w fun e w' => e = .returned (.bool true) ∧ Below w.heap.size w w') := fun A c A' c' w h h' => same_out X X true (by simp) hXn A c A' c' w h h'
  have CPY : Hid (∀ A c w, Rr w A c la → Calls Try.prog 79 #[.slice A la.length c] w fun e w' => ∃ A' c' rs, e = .returned (.slice A' la.length c') ∧ lsts rs = la ∧ MadeR w w' A' la.length c' rs) := fun A c w h => by
    obtain ⟨vs, h1, h2⟩ := h.ex
    exact ref06_copied A _ c vs _ w h1 h2 rfl (by omega) hla
  have dE := (beq_iff_eq (a := E) (b := E)).2 rfl
  have HLA := Lib.hid hla
  clear hc1 hc2 h1 h2 hf hla
  obtain ⟨N, hN⟩ : ∃ N, la.length = N := ⟨_, rfl⟩
  rw [hN] at h20 d20 FW CPY HD1 HD2 ⊢
  have HN := Lib.hid hN
  clear hN
  have K := Lib.hid (Lk.start w)
  replace K := Lib.hid (K.out.rr' ha)
  clear ha
  go_enter Try.func33, Try.ntmps33
  go_wp2_with (first
    | (go_at_call 84; (with_reducible refine (awake7 _).mono ?_); rintro e w1 ⟨rfl, hbel⟩; (first | replace K := Lib.hid (K.out.below hbel) | replace K := Lib.hid ((K.out.alloc _).below hbel) | replace K := Lib.hid (((K.out.alloc _).alloc _).below hbel) | replace K := Lib.hid ((((K.out.alloc _).alloc _).alloc _).below hbel) | replace K := Lib.hid (((((K.out.alloc _).alloc _).alloc _).alloc _).below hbel) | replace K := Lib.hid (K.out.drew.below hbel) | replace K := Lib.hid ((K.out.drewN _).below hbel)); clear hbel)
    | (go_at_call 37; (with_reducible refine (new_any _).mono ?_); rintro e w2 ⟨rfl, hbel, hg⟩; (first | replace K := Lib.hid (K.out.below hbel) | replace K := Lib.hid ((K.out.alloc _).below hbel) | replace K := Lib.hid (((K.out.alloc _).alloc _).below hbel) | replace K := Lib.hid ((((K.out.alloc _).alloc _).alloc _).below hbel) | replace K := Lib.hid (((((K.out.alloc _).alloc _).alloc _).alloc _).below hbel) | replace K := Lib.hid (K.out.drew.below hbel) | replace K := Lib.hid ((K.out.drewN _).below hbel)); clear hbel; replace K := Lib.hid (K.out.withF hg); clear hg)
    | (go_at_call 70; (with_reducible refine (FW.out _ _ _ ?_).mono ?_); (first | exact K.out.at (.head _) | exact (K.out.alloc _).at (.head _) | exact ((K.out.alloc _).alloc _).at (.head _) | exact (((K.out.alloc _).alloc _).alloc _).at (.head _) | exact ((((K.out.alloc _).alloc _).alloc _).alloc _).at (.head _) | exact K.out.drew.at (.head _) | exact (K.out.drewN _).at (.head _)); rintro e w3 ⟨rfl, hbel⟩; (first | replace K := Lib.hid (K.out.below hbel) | replace K := Lib.hid ((K.out.alloc _).below hbel) | replace K := Lib.hid (((K.out.alloc _).alloc _).below hbel) | replace K := Lib.hid ((((K.out.alloc _).alloc _).alloc _).below hbel) | replace K := Lib.hid (((((K.out.alloc _).alloc _).alloc _).alloc _).below hbel) | replace K := Lib.hid (K.out.drew.below hbel) | replace K := Lib.hid ((K.out.drewN _).below hbel)); clear hbel)
    | (go_at_call 85; (with_reducible refine (HD1.out _ _ _ _ _ _ ?_ ?_ ?_).mono ?_); (first | exact K.out.gf | exact (K.out.alloc _).gf | exact K.out.drew.gf | exact ((K.out.alloc _).alloc _).gf | exact (((K.out.alloc _).alloc _).alloc _).gf | exact (((((K.out.alloc _).alloc _).alloc _).alloc _)).gf); (first | exact HH.out.below K.out.since | exact HH.out.below (K.out.alloc _).since | exact HH.out.below ((K.out.alloc _).alloc _).since | exact HH.out.below (((K.out.alloc _).alloc _).alloc _).since | exact HH.out.below ((((K.out.alloc _).alloc _).alloc _).alloc _).since | exact HH.out.below K.out.drew.since | exact HH.out.below (K.out.drewN _).since); (first | exact K.out.at (.head _) | exact (K.out.alloc _).at (.head _) | exact ((K.out.alloc _).alloc _).at (.head _) | exact (((K.out.alloc _).alloc _).alloc _).at (.head _) | exact ((((K.out.alloc _).alloc _).alloc _).alloc _).at (.head _) | exact K.out.drew.at (.head _) | exact (K.out.drewN _).at (.head _)); rintro e w4 ⟨Ax, cx, rfl, hr, hbel⟩; (first | replace K := Lib.hid (K.out.below hbel) | replace K := Lib.hid ((K.out.alloc _).below hbel) | replace K := Lib.hid (((K.out.alloc _).alloc _).below hbel) | replace K := Lib.hid ((((K.out.alloc _).alloc _).alloc _).below hbel) | replace K := Lib.hid (((((K.out.alloc _).alloc _).alloc _).alloc _).below hbel) | replace K := Lib.hid (K.out.drew.below hbel) | replace K := Lib.hid ((K.out.drewN _).below hbel)); replace K := Lib.hid (K.out.rr' hr); clear hr; clear hbel)
    | (go_at_call 79; (with_reducible refine (CPY.out _ _ _ ?_).mono ?_); (first | exact K.out.at (.tail _ (.head _)) | exact (K.out.alloc _).at (.tail _ (.head _)) | exact ((K.out.alloc _).alloc _).at (.tail _ (.head _)) | exact (((K.out.alloc _).alloc _).alloc _).at (.tail _ (.head _)) | exact ((((K.out.alloc _).alloc _).alloc _).alloc _).at (.tail _ (.head _)) | exact K.out.drew.at (.tail _ (.head _)) | exact (K.out.drewN _).at (.tail _ (.head _))); rintro e w9 ⟨A0, c0, rs0, rfl, hls, hmr⟩; have HL0 := Lib.hid hls; have M0 := Lib.hid hmr; clear hls hmr))
  have KEEP : Hid (Keeps rs0 (EncI w4 A0 N c0 [] (vals rs0) [])) := EncI.keeps (w5 := w9) (rs0 := []) M0.out.gr M0.out.sp (Kn.nothing _) (fun x hx => by cases hx)
  have ENC : Hid (EncI w4 A0 N c0 [] (vals rs0) [] w9) := ⟨M0.out.bel, M0.out.sp, Grid.nil _ _, Kn.nothing _⟩
  have GP : Hid (Grid w9 w4.heap.size (rowsT rs0 (latE has k y) 0 0)) := by rw [rowsT_zero]; exact M0.out.gr
  have HRS : Hid (rs0.length = N) := by show _ = _; rw [← length_lsts, HL0.out, HN.out]
  clear M0 CPY
  go_loopw [17, 18] (fun u v wr => ∃ i : Nat, i ≤ N ∧ v = .int .i64 i ∧ u = .int .i64 ((idx has i).length : Int) ∧ EncI w4 A0 N c0 [] (vals rs0) [] wr ∧ Grid wr w4.heap.size (rowsT rs0 (latE has k y) i 0)) (fun _ v _ => N - (intOf v).toNat)
  case atStart => exact ⟨0, Nat.zero_le _, rfl, rfl, ENC.out, GP.out⟩
  case round =>
    clear ENC GP
    obtain ⟨i, hi, rfl, rfl, hI, hgr⟩ := hrel
    have EI := Lib.hid hI
    have GI := Lib.hid hgr
    clear hI hgr
    by_cases hlt : i < has.length ∧ i < N
    · obtain ⟨hlh, hln⟩ := hlt
      have hih : (i : Int) < (has.length : Int) := by omega
      have hit : (i : Int) < (N : Int) := by omega
      have hcb : (idx has i).length ≤ i := by unfold idx; exact Nat.le_trans (List.length_filter_le _ _) (by simp)
      obtain ⟨r, hr⟩ : ∃ r, rs0[i]? = some r := ⟨rs0[i]'(by rw [HRS.out]; exact hln), List.getElem?_eq_getElem _⟩
      obtain ⟨P, hP⟩ : ∃ P, r.2.2.length = P := ⟨_, rfl⟩
      have HRV : Hid ((vals rs0)[i]? = some (.slice r.1 P r.2.1)) := by show _ = _; unfold vals; rw [List.getElem?_map, hr, ← hP]; rfl
      have hPb : P ≤ 100000 := by rw [← hP]; exact HLA.out _ (List.mem_of_getElem? (lsts_at HL0.out hr))
      have HRI := Lib.hid hr
      have HP := Lib.hid hP
      clear hr hP
      obtain ⟨bh, oh, hA1, _, hch⟩ := Sl.at' ((HH.out.below K.out.since).below EI.out.bel) (by rw [List.length_map]; omega)
      obtain ⟨q, hq⟩ : ∃ q, has.getD i false = q := ⟨_, rfl⟩
      have hvi : (has.map Value.bool)[i]? = some (.bool q) := by rw [List.getElem?_map, List.getElem?_eq_getElem hlh, ← hq, List.getD_eq_getElem?_getD, List.getElem?_eq_getElem hlh]; rfl
      have yh := hch i _ hvi
      have HVI := Lib.hid hvi
      have HQ := Lib.hid hq
      have ISC := idx_succ has i
      subst hA1
      clear hch hvi hq
      cases q with
      | true =>
        have NS : Hid ((idx has (i + 1)).length = (idx has i).length + 1) := by show _ = _; rw [ISC, HQ.out]; simp
        have hns := NS.out
        obtain ⟨c2, hc2⟩ : ∃ c2, (idx has i).length = c2 := ⟨_, rfl⟩
        rw [hc2] at hns hcb NS ⊢
        have HC2 := Lib.hid hc2
        clear ISC hc2
        by_cases hkn : k < (c2 : Int) + 1
        · have dk :  k < (c2 : Int) + 1 := by omega
          have COND : Hid (i < has.length ∧ (has.getD i false = false ∨ k < ((idx has (i + 1)).length : Int))) := ⟨hlh, .inr (by rw [hns]; omega)⟩
          clear hkn hns
          go_wp2
          clear yh
          go_loopw [19] (fun v wi => ∃ x : Nat, x ≤ P ∧ v = .int .i64 x ∧ EncI w4 A0 N c0 [] (vals rs0) [] wi ∧ Grid wi w4.heap.size (rowsT rs0 (latE has k y) i x)) (fun v _ => P - (intOf v).toNat)
          case atStart => exact ⟨0, Nat.zero_le _, rfl, EI.out, GI.out⟩
          case round =>
            rename World => wi
            clear EI GI
            obtain ⟨x, hx, rfl, hI, hgr⟩ := hrel
            have EI := Lib.hid hI
            have GI := Lib.hid hgr
            clear hI hgr
            have BI := EI.out.bel
            obtain ⟨bh', oh', hA1, _, hch⟩ := Sl.at' ((HH.out.below K.out.since).below BI) (by rw [List.length_map]; omega)
            injection hA1 with hA1
            obtain ⟨rfl, rfl⟩ : bh = bh' ∧ oh = oh' := by injection hA1 with e1 e2; exact ⟨e1, e2⟩
            have yh := hch i (.bool true) HVI.out
            obtain ⟨b1, o1, hA2, _, hc1⟩ := Sl.at' (own_sl EI.out.sp) (by rw [length_vals, HRS.out]; omega)
            have y1 := hc1 i _ HRV.out
            subst hA2
            clear hA1 hch hc1 BI
            by_cases hxP : x < P
            rotate_left
            · have hxt : ¬ (x : Int) < (P : Int) := by omega
              have NEXT : Hid (rowsT rs0 (latE has k y) i x = rowsT rs0 (latE has k y) (i + 1) 0) := rowsT_next_full _ fun r' hr' => by
                have e : r' = r := Option.some.inj (hr'.symm.trans HRI.out)
                rw [e, HP.out]; omega
              go_wp2
              go_roundw
              case rel => exact ⟨i + 1, by omega, by go_num, by first | (rw [NS.out]; go_num; done) | rw [NS.out], EI.out, by rw [← NEXT.out]; exact GI.out⟩
              case measure => simp [intOf]; omega
            have hxt : (x : Int) < (P : Int) := by omega
            obtain ⟨g, hgA, hcl, hfz, hst⟩ := grid_put KEEP.out EI.out GI.out HRI.out (by rw [HP.out]; exact hxP)
            have hst : ∀ nd, EncI w4 (some ⟨b1, o1, none⟩) N c0 [] (vals rs0) [] ((wi.drewN nd).setCell ⟨g, x, none⟩ (bv (latE has k y i x (r.2.2.getD x 0)))) ∧ Grid ((wi.drewN nd).setCell ⟨g, x, none⟩ (bv (latE has k y i x (r.2.2.getD x 0)))) w4.heap.size (rowsT rs0 (latE has k y) i (x + 1)) := hst
            rw [show latE has k y i x (r.2.2.getD x 0) = r.2.2.getD x 0 + y from if_pos COND.out] at hst
            have HST := Lib.hid hst
            rw [hgA] at y1
            clear hst
            generalize r.2.2.getD x 0 = u at *
            have hx2 := xor_n u y
            go_wp2
            refine wp_region_still_tail 15 (by kernel_rfl) (by kernel_rfl) ?_
            simp only [List.take_succ_cons, List.take_zero, List.drop_succ_cons, List.drop_zero]
            repeat still_step
            refine wpStill_nil ?_
            change wpList _ _ _ _ _ wi.drew
            go_wp2
            go_roundw
            case rel => exact ⟨x + 1, by omega, by go_num, (HST.out 1).1, (HST.out 1).2⟩
            case measure => simp [intOf]; omega
        · have dk : ¬ k < (c2 : Int) + 1 := by omega
          have NEXT : Hid (∀ x, rowsT rs0 (latE has k y) i x = rowsT rs0 (latE has k y) (i + 1) 0) := fun x => rowsT_next rs0 _ i x fun r' _ z _ _ => by unfold latE; rw [if_neg]; rintro ⟨_, h | h⟩; rw [HQ.out] at h; cases h; rw [hns] at h; omega
          clear hkn hns
          go_wp2
          clear yh
          go_loopw [19] (fun v wi => ∃ x : Nat, x ≤ P ∧ v = .int .i64 x ∧ EncI w4 A0 N c0 [] (vals rs0) [] wi ∧ Grid wi w4.heap.size (rowsT rs0 (latE has k y) i x)) (fun v _ => P - (intOf v).toNat)
          case atStart => exact ⟨0, Nat.zero_le _, rfl, EI.out, GI.out⟩
          case round =>
            rename World => wi
            clear EI GI
            obtain ⟨x, hx, rfl, hI, hgr⟩ := hrel
            have EI := Lib.hid hI
            have GI := Lib.hid hgr
            clear hI hgr
            have BI := EI.out.bel
            obtain ⟨bh', oh', hA1, _, hch⟩ := Sl.at' ((HH.out.below K.out.since).below BI) (by rw [List.length_map]; omega)
            injection hA1 with hA1
            obtain ⟨rfl, rfl⟩ : bh = bh' ∧ oh = oh' := by injection hA1 with e1 e2; exact ⟨e1, e2⟩
            have yh := hch i (.bool true) HVI.out
            obtain ⟨b1, o1, hA2, _, hc1⟩ := Sl.at' (own_sl EI.out.sp) (by rw [length_vals, HRS.out]; omega)
            have y1 := hc1 i _ HRV.out
            subst hA2
            clear hA1 hch hc1 BI
            by_cases hxP : x < P
            · have hxt : (x : Int) < (P : Int) := by omega
              go_wp2
              go_roundw
              case rel => exact ⟨i + 1, by omega, by go_num, by first | (rw [NS.out]; go_num; done) | rw [NS.out], EI.out, by rw [← NEXT.out x]; exact GI.out⟩
              case measure => simp [intOf]; omega
            · have hxt : ¬ (x : Int) < (P : Int) := by omega
              go_wp2
              go_roundw
              case rel => exact ⟨i + 1, by omega, by go_num, by first | (rw [NS.out]; go_num; done) | rw [NS.out], EI.out, by rw [← NEXT.out x]; exact GI.out⟩
              case measure => simp [intOf]; omega
      | false =>
        have NS : Hid ((idx has (i + 1)).length = (idx has i).length) := by show _ = _; rw [ISC, HQ.out]; simp
        have hns := NS.out
        obtain ⟨c2, hc2⟩ : ∃ c2, (idx has i).length = c2 := ⟨_, rfl⟩
        rw [hc2] at hns hcb NS ⊢
        have HC2 := Lib.hid hc2
        clear ISC hc2
        by_cases hkn : k < (c2 : Int)
        · have dk :  k < (c2 : Int) := by omega
          have COND : Hid (i < has.length ∧ (has.getD i false = false ∨ k < ((idx has (i + 1)).length : Int))) := ⟨hlh, .inl HQ.out⟩
          clear hkn hns
          go_wp2
          clear yh
          go_loopw [19] (fun v wi => ∃ x : Nat, x ≤ P ∧ v = .int .i64 x ∧ EncI w4 A0 N c0 [] (vals rs0) [] wi ∧ Grid wi w4.heap.size (rowsT rs0 (latE has k y) i x)) (fun v _ => P - (intOf v).toNat)
          case atStart => exact ⟨0, Nat.zero_le _, rfl, EI.out, GI.out⟩
          case round =>
            rename World => wi
            clear EI GI
            obtain ⟨x, hx, rfl, hI, hgr⟩ := hrel
            have EI := Lib.hid hI
            have GI := Lib.hid hgr
            clear hI hgr
            have BI := EI.out.bel
            obtain ⟨bh', oh', hA1, _, hch⟩ := Sl.at' ((HH.out.below K.out.since).below BI) (by rw [List.length_map]; omega)
            injection hA1 with hA1
            obtain ⟨rfl, rfl⟩ : bh = bh' ∧ oh = oh' := by injection hA1 with e1 e2; exact ⟨e1, e2⟩
            have yh := hch i (.bool false) HVI.out
            obtain ⟨b1, o1, hA2, _, hc1⟩ := Sl.at' (own_sl EI.out.sp) (by rw [length_vals, HRS.out]; omega)
            have y1 := hc1 i _ HRV.out
            subst hA2
            clear hA1 hch hc1 BI
            by_cases hxP : x < P
            rotate_left
            · have hxt : ¬ (x : Int) < (P : Int) := by omega
              have NEXT : Hid (rowsT rs0 (latE has k y) i x = rowsT rs0 (latE has k y) (i + 1) 0) := rowsT_next_full _ fun r' hr' => by
                have e : r' = r := Option.some.inj (hr'.symm.trans HRI.out)
                rw [e, HP.out]; omega
              go_wp2
              go_roundw
              case rel => exact ⟨i + 1, by omega, by go_num, by first | (rw [NS.out]; go_num; done) | rw [NS.out], EI.out, by rw [← NEXT.out]; exact GI.out⟩
              case measure => simp [intOf]; omega
            have hxt : (x : Int) < (P : Int) := by omega
            obtain ⟨g, hgA, hcl, hfz, hst⟩ := grid_put KEEP.out EI.out GI.out HRI.out (by rw [HP.out]; exact hxP)
            have hst : ∀ nd, EncI w4 (some ⟨b1, o1, none⟩) N c0 [] (vals rs0) [] ((wi.drewN nd).setCell ⟨g, x, none⟩ (bv (latE has k y i x (r.2.2.getD x 0)))) ∧ Grid ((wi.drewN nd).setCell ⟨g, x, none⟩ (bv (latE has k y i x (r.2.2.getD x 0)))) w4.heap.size (rowsT rs0 (latE has k y) i (x + 1)) := hst
            rw [show latE has k y i x (r.2.2.getD x 0) = r.2.2.getD x 0 + y from if_pos COND.out] at hst
            have HST := Lib.hid hst
            rw [hgA] at y1
            clear hst
            generalize r.2.2.getD x 0 = u at *
            have hx2 := xor_n u y
            go_wp2
            refine wp_region_still_tail 15 (by kernel_rfl) (by kernel_rfl) ?_
            simp only [List.take_succ_cons, List.take_zero, List.drop_succ_cons, List.drop_zero]
            repeat still_step
            refine wpStill_nil ?_
            change wpList _ _ _ _ _ wi.drew
            go_wp2
            go_roundw
            case rel => exact ⟨x + 1, by omega, by go_num, (HST.out 1).1, (HST.out 1).2⟩
            case measure => simp [intOf]; omega
        · have dk : ¬ k < (c2 : Int) := by omega
          have COND : Hid (i < has.length ∧ (has.getD i false = false ∨ k < ((idx has (i + 1)).length : Int))) := ⟨hlh, .inl HQ.out⟩
          clear hkn hns
          go_wp2
          clear yh
          go_loopw [19] (fun v wi => ∃ x : Nat, x ≤ P ∧ v = .int .i64 x ∧ EncI w4 A0 N c0 [] (vals rs0) [] wi ∧ Grid wi w4.heap.size (rowsT rs0 (latE has k y) i x)) (fun v _ => P - (intOf v).toNat)
          case atStart => exact ⟨0, Nat.zero_le _, rfl, EI.out, GI.out⟩
          case round =>
            rename World => wi
            clear EI GI
            obtain ⟨x, hx, rfl, hI, hgr⟩ := hrel
            have EI := Lib.hid hI
            have GI := Lib.hid hgr
            clear hI hgr
            have BI := EI.out.bel
            obtain ⟨bh', oh', hA1, _, hch⟩ := Sl.at' ((HH.out.below K.out.since).below BI) (by rw [List.length_map]; omega)
            injection hA1 with hA1
            obtain ⟨rfl, rfl⟩ : bh = bh' ∧ oh = oh' := by injection hA1 with e1 e2; exact ⟨e1, e2⟩
            have yh := hch i (.bool false) HVI.out
            obtain ⟨b1, o1, hA2, _, hc1⟩ := Sl.at' (own_sl EI.out.sp) (by rw [length_vals, HRS.out]; omega)
            have y1 := hc1 i _ HRV.out
            subst hA2
            clear hA1 hch hc1 BI
            by_cases hxP : x < P
            rotate_left
            · have hxt : ¬ (x : Int) < (P : Int) := by omega
              have NEXT : Hid (rowsT rs0 (latE has k y) i x = rowsT rs0 (latE has k y) (i + 1) 0) := rowsT_next_full _ fun r' hr' => by
                have e : r' = r := Option.some.inj (hr'.symm.trans HRI.out)
                rw [e, HP.out]; omega
              go_wp2
              go_roundw
              case rel => exact ⟨i + 1, by omega, by go_num, by first | (rw [NS.out]; go_num; done) | rw [NS.out], EI.out, by rw [← NEXT.out]; exact GI.out⟩
              case measure => simp [intOf]; omega
            have hxt : (x : Int) < (P : Int) := by omega
            obtain ⟨g, hgA, hcl, hfz, hst⟩ := grid_put KEEP.out EI.out GI.out HRI.out (by rw [HP.out]; exact hxP)
            have hst : ∀ nd, EncI w4 (some ⟨b1, o1, none⟩) N c0 [] (vals rs0) [] ((wi.drewN nd).setCell ⟨g, x, none⟩ (bv (latE has k y i x (r.2.2.getD x 0)))) ∧ Grid ((wi.drewN nd).setCell ⟨g, x, none⟩ (bv (latE has k y i x (r.2.2.getD x 0)))) w4.heap.size (rowsT rs0 (latE has k y) i (x + 1)) := hst
            rw [show latE has k y i x (r.2.2.getD x 0) = r.2.2.getD x 0 + y from if_pos COND.out] at hst
            have HST := Lib.hid hst
            rw [hgA] at y1
            clear hst
            generalize r.2.2.getD x 0 = u at *
            have hx2 := xor_n u y
            go_wp2
            refine wp_region_still_tail 15 (by kernel_rfl) (by kernel_rfl) ?_
            simp only [List.take_succ_cons, List.take_zero, List.drop_succ_cons, List.drop_zero]
            repeat still_step
            refine wpStill_nil ?_
            change wpList _ _ _ _ _ wi.drew
            go_wp2
            go_roundw
            case rel => exact ⟨x + 1, by omega, by go_num, (HST.out 1).1, (HST.out 1).2⟩
            case measure => simp [intOf]; omega
    · have hex : has.length ≤ i ∨ N ≤ i := by omega
      have hls : lsts (rowsT rs0 (latE has k y) i 0) = mapR (latE has k y) la := by
        rw [lsts_rowsT rs0 (latE has k y) i, HL0.out]
        intro a r hr ha x hx
        unfold latE
        rw [if_neg]
        rintro ⟨h1, _⟩
        rcases hex with h | h
        · omega
        · rw [List.getElem?_eq_none (by rw [HRS.out]; omega)] at hr; cases hr
      have hmd : MadeR w4 wr A0 N c0 (rowsT rs0 (latE has k y) i 0) := ⟨by rw [vals_rowsT]; exact EI.out.sp, GI.out, EI.out.bel⟩
      replace K := Lib.hid ((K.out.below hmd.bel).rr' (hmd.rr hls))
      clear hls hmd
      by_cases hih : i < has.length
      · have d1 : (i : Int) < (has.length : Int) := by omega
        have d2 : ¬ (i : Int) < (N : Int) := by omega
        clear hex hlt
        go_wp2_with (first
          | (go_at_call 85; (with_reducible refine (HD2.out _ _ _ _ _ _ ?_ ?_ ?_).mono ?_); (first | exact K.out.gf | exact (K.out.alloc _).gf | exact K.out.drew.gf | exact ((K.out.alloc _).alloc _).gf | exact (((K.out.alloc _).alloc _).alloc _).gf | exact (((((K.out.alloc _).alloc _).alloc _).alloc _)).gf); (first | exact HH.out.below K.out.since | exact HH.out.below (K.out.alloc _).since | exact HH.out.below ((K.out.alloc _).alloc _).since | exact HH.out.below (((K.out.alloc _).alloc _).alloc _).since | exact HH.out.below ((((K.out.alloc _).alloc _).alloc _).alloc _).since | exact HH.out.below K.out.drew.since | exact HH.out.below (K.out.drewN _).since); (first | exact K.out.at (.head _) | exact (K.out.alloc _).at (.head _) | exact ((K.out.alloc _).alloc _).at (.head _) | exact (((K.out.alloc _).alloc _).alloc _).at (.head _) | exact ((((K.out.alloc _).alloc _).alloc _).alloc _).at (.head _) | exact K.out.drew.at (.head _) | exact (K.out.drewN _).at (.head _)); rintro e w5 ⟨Az, cz, rfl, hr, hbel⟩; (first | replace K := Lib.hid (K.out.below hbel) | replace K := Lib.hid ((K.out.alloc _).below hbel) | replace K := Lib.hid (((K.out.alloc _).alloc _).below hbel) | replace K := Lib.hid ((((K.out.alloc _).alloc _).alloc _).below hbel) | replace K := Lib.hid (((((K.out.alloc _).alloc _).alloc _).alloc _).below hbel) | replace K := Lib.hid (K.out.drew.below hbel) | replace K := Lib.hid ((K.out.drewN _).below hbel)); replace K := Lib.hid (K.out.rr' hr); clear hr; clear hbel)
          | (go_at_call 75; (with_reducible refine (SM.out _ _ _ _ _ ?_ ?_).mono ?_); (first | exact K.out.at (.tail _ (.tail _ (.head _))) | exact (K.out.alloc _).at (.tail _ (.tail _ (.head _))) | exact ((K.out.alloc _).alloc _).at (.tail _ (.tail _ (.head _))) | exact (((K.out.alloc _).alloc _).alloc _).at (.tail _ (.tail _ (.head _))) | exact ((((K.out.alloc _).alloc _).alloc _).alloc _).at (.tail _ (.tail _ (.head _))) | exact K.out.drew.at (.tail _ (.tail _ (.head _))) | exact (K.out.drewN _).at (.tail _ (.tail _ (.head _)))); (first | exact K.out.at (.head _) | exact (K.out.alloc _).at (.head _) | exact ((K.out.alloc _).alloc _).at (.head _) | exact (((K.out.alloc _).alloc _).alloc _).at (.head _) | exact ((((K.out.alloc _).alloc _).alloc _).alloc _).at (.head _) | exact K.out.drew.at (.head _) | exact (K.out.drewN _).at (.head _)); rintro e w6 ⟨rfl, hbel⟩; (first | replace K := Lib.hid (K.out.below hbel) | replace K := Lib.hid ((K.out.alloc _).below hbel) | replace K := Lib.hid (((K.out.alloc _).alloc _).below hbel) | replace K := Lib.hid ((((K.out.alloc _).alloc _).alloc _).below hbel) | replace K := Lib.hid (((((K.out.alloc _).alloc _).alloc _).alloc _).below hbel) | replace K := Lib.hid (K.out.drew.below hbel) | replace K := Lib.hid ((K.out.drewN _).below hbel)); clear hbel))
        go_ret
        exact ⟨rfl, K.out.since⟩
      · have d1 : ¬ (i : Int) < (has.length : Int) := by omega
        clear hex hlt
        go_wp2_with (first
          | (go_at_call 85; (with_reducible refine (HD2.out _ _ _ _ _ _ ?_ ?_ ?_).mono ?_); (first | exact K.out.gf | exact (K.out.alloc _).gf | exact K.out.drew.gf | exact ((K.out.alloc _).alloc _).gf | exact (((K.out.alloc _).alloc _).alloc _).gf | exact (((((K.out.alloc _).alloc _).alloc _).alloc _)).gf); (first | exact HH.out.below K.out.since | exact HH.out.below (K.out.alloc _).since | exact HH.out.below ((K.out.alloc _).alloc _).since | exact HH.out.below (((K.out.alloc _).alloc _).alloc _).since | exact HH.out.below ((((K.out.alloc _).alloc _).alloc _).alloc _).since | exact HH.out.below K.out.drew.since | exact HH.out.below (K.out.drewN _).since); (first | exact K.out.at (.head _) | exact (K.out.alloc _).at (.head _) | exact ((K.out.alloc _).alloc _).at (.head _) | exact (((K.out.alloc _).alloc _).alloc _).at (.head _) | exact ((((K.out.alloc _).alloc _).alloc _).alloc _).at (.head _) | exact K.out.drew.at (.head _) | exact (K.out.drewN _).at (.head _)); rintro e w5 ⟨Az, cz, rfl, hr, hbel⟩; (first | replace K := Lib.hid (K.out.below hbel) | replace K := Lib.hid ((K.out.alloc _).below hbel) | replace K := Lib.hid (((K.out.alloc _).alloc _).below hbel) | replace K := Lib.hid ((((K.out.alloc _).alloc _).alloc _).below hbel) | replace K := Lib.hid (((((K.out.alloc _).alloc _).alloc _).alloc _).below hbel) | replace K := Lib.hid (K.out.drew.below hbel) | replace K := Lib.hid ((K.out.drewN _).below hbel)); replace K := Lib.hid (K.out.rr' hr); clear hr; clear hbel)
          | (go_at_call 75; (with_reducible refine (SM.out _ _ _ _ _ ?_ ?_).mono ?_); (first | exact K.out.at (.tail _ (.tail _ (.head _))) | exact (K.out.alloc _).at (.tail _ (.tail _ (.head _))) | exact ((K.out.alloc _).alloc _).at (.tail _ (.tail _ (.head _))) | exact (((K.out.alloc _).alloc _).alloc _).at (.tail _ (.tail _ (.head _))) | exact ((((K.out.alloc _).alloc _).alloc _).alloc _).at (.tail _ (.tail _ (.head _))) | exact K.out.drew.at (.tail _ (.tail _ (.head _))) | exact (K.out.drewN _).at (.tail _ (.tail _ (.head _)))); (first | exact K.out.at (.head _) | exact (K.out.alloc _).at (.head _) | exact ((K.out.alloc _).alloc _).at (.head _) | exact (((K.out.alloc _).alloc _).alloc _).at (.head _) | exact ((((K.out.alloc _).alloc _).alloc _).alloc _).at (.head _) | exact K.out.drew.at (.head _) | exact (K.out.drewN _).at (.head _)); rintro e w6 ⟨rfl, hbel⟩; (first | replace K := Lib.hid (K.out.below hbel) | replace K := Lib.hid ((K.out.alloc _).below hbel) | replace K := Lib.hid (((K.out.alloc _).alloc _).below hbel) | replace K := Lib.hid ((((K.out.alloc _).alloc _).alloc _).below hbel) | replace K := Lib.hid (((((K.out.alloc _).alloc _).alloc _).alloc _).below hbel) | replace K := Lib.hid (K.out.drew.below hbel) | replace K := Lib.hid ((K.out.drewN _).below hbel)); clear hbel))
        go_ret
        exact ⟨rfl, K.out.since⟩
end Go.Proofs.Ytmkjplpnoohfnaa
