/- erase.Decode, walked. -/
import Derived.Test.YtbepadepepoilaaErc
namespace Go.Proofs.Ytbepadepepoilaa
open Go.RowKit
set_option linter.unusedVariables false
set_option linter.unusedSimpArgs false
set_option maxRecDepth 1000000 in
theorem decode_bad (b : Nat) (k m : Int) (Ah : Option Addr) (nh ch : Nat) (A : Option Addr) (n c : Nat) (w : World) (hk : i64ok k) (hm : i64ok m) (hkm : ¬ okkm k m) :
    Calls Try.prog 21 #[fp b, .int .i64 k, .int .i64 m, .slice Ah nh ch, .slice A n c] w fun e w' => e = .returned (.tuple #[.slice none 0 0, .int .i64 50]) ∧ Below w.heap.size w w' := by
  have GE : Hid (∀ w, Calls Try.prog 37 #[fp b, .int .i64 k, .int .i64 m] w fun e w' => e = .returned (.tuple #[noMat, .int .i64 50]) ∧ Below w.heap.size w w') := fun w => cauchy_bad_Generator b k m hk hm hkm w
  clear hk hm hkm
  unfold noMat at GE
  unfold fp at GE
  have K := Lib.hid (kn3 w 27 3 42 #[fp b] #[.int .i64 k] #[.slice A n c])
  have B := Lib.hid (below3 w (.cells #[fp b] 27) (.cells #[.int .i64 k] 3) (.cells #[.slice A n c] 42))
  unfold fp at K B ⊢
  go_enter Try.func21, Try.ntmps21
  go_wp2_with (go_at_call 37; (with_reducible refine (GE.out _).mono ?_); rintro e w1 ⟨rfl, hb1⟩; replace B := Lib.hid (B.out.trans (hb1.mono B.out.size)); clear hb1)
  go_ret2
  exact ⟨rfl, B.out.alloc B.out.size _⟩
set_option maxRecDepth 1000000 in
set_option maxHeartbeats 2000000 in
theorem decode_len (b k m : Nat) (Ah : Option Addr) (nh ch : Nat) (A : Option Addr) (n c : Nat) (w : World) (hkm : okkm k m) (hg : GfAt w b) (hn : ¬ ((nh : Int) = (k : Int) + (m : Int) ∧ (n : Int) = (k : Int) + (m : Int))) :
    Calls Try.prog 21 #[fp b, .int .i64 k, .int .i64 m, .slice Ah nh ch, .slice A n c] w fun e w' => e = .returned (.tuple #[.slice none 0 0, .int .i64 60]) ∧ Below w.heap.size w w' := by
  have GE : Hid (∀ w', Below w.heap.size w w' → Calls Try.prog 37 #[fp b, .int .i64 k, .int .i64 m] w' fun e w'' => ∃ A' c', e = .returned (.tuple #[.agg #[.int .i64 ((k : Int) + (m : Int)), .int .i64 (k : Int), .slice A' ((k + m) * k) c'], .int .i64 0]) ∧ Bs w'' A' c' (matL (k + m) k (genF k)) ∧ Below w'.heap.size w' w'') := fun w' hw => (cauchy_Generator b k m hkm w' (hg.below hw)).mono fun e w'' ⟨A', c', he, ho, hb⟩ => ⟨A', c', he, own_sl ho, hb⟩
  obtain ⟨gk, hgk⟩ : ∃ gk, (k + m) * k = gk := ⟨_, rfl⟩
  rw [hgk] at GE
  obtain ⟨g1, g2, g3⟩ := id hkm
  have hkb : k + m ≤ 256 := by omega
  clear hkm hg g1 g2 g3 hgk
  unfold fp at GE
  have K := Lib.hid (kn3 w 27 3 42 #[fp b] #[.int .i64 k] #[.slice A n c])
  have B := Lib.hid (below3 w (.cells #[fp b] 27) (.cells #[.int .i64 k] 3) (.cells #[.slice A n c] 42))
  unfold fp at K B ⊢
  by_cases h1 : (nh : Int) = (k : Int) + (m : Int)
  · have dh0 : ((nh : Int) == (k : Int) + (m : Int)) = true := by rw [beq_iff_eq]; exact h1
    have dh1 : ((nh : Int) != (k : Int) + (m : Int)) = false := by rw [bne_eq_false_iff_eq]; exact h1
    have h2 : ¬ (n : Int) = (k : Int) + (m : Int) := fun e => hn ⟨h1, e⟩
    have dn0 : ((n : Int) == (k : Int) + (m : Int)) = false := by rw [beq_eq_false_iff_ne]; exact h2
    have dn1 : ((n : Int) != (k : Int) + (m : Int)) = true := by rw [bne_iff_ne]; exact h2
    clear h1 h2 hn
    go_enter Try.func21, Try.ntmps21
    go_wp2_with (go_at_call 37; (with_reducible refine (GE.out _ B.out).mono ?_); rintro e w1 ⟨Ag, cg, rfl, hs1, hb1⟩; replace K := Lib.hid (K.out.below hb1); replace B := Lib.hid (B.out.trans (hb1.mono B.out.size)); replace K := Lib.hid ((K.out.alloc (.cells #[.int .i64 ((k : Int) + (m : Int)), .int .i64 k, .slice Ag gk cg] 24)).blk (Blk.new w1 #[.int .i64 ((k : Int) + (m : Int)), .int .i64 k, .slice Ag gk cg] 24)); replace B := Lib.hid (B.out.alloc B.out.size (.cells #[.int .i64 ((k : Int) + (m : Int)), .int .i64 k, .slice Ag gk cg] 24)); have qk0 := (K.out.at (.tail _ (.tail _ (.head _)))).cell 0; simp only [List.getElem?_toArray, List.getElem?_cons_succ, List.getElem?_cons_zero] at qk0; have qs0 := (K.out.at (.tail _ (.tail _ (.tail _ (.head _))))).cell 0; simp only [List.getElem?_toArray, List.getElem?_cons_succ, List.getElem?_cons_zero] at qs0; have qg0 := (K.out.at (.head _)).cell 0; have qg1 := (K.out.at (.head _)).cell 1; have qg2 := (K.out.at (.head _)).cell 2; simp only [List.getElem?_toArray, List.getElem?_cons_succ, List.getElem?_cons_zero] at qg0 qg1 qg2; have qf0 := (K.out.at (.tail _ (.head _))).cell 0; simp only [List.getElem?_toArray, List.getElem?_cons_succ, List.getElem?_cons_zero] at qf0; clear hs1 hb1)
    go_ret2
    exact ⟨rfl, B.out⟩
  · have dh0 : ((nh : Int) == (k : Int) + (m : Int)) = false := by rw [beq_eq_false_iff_ne]; exact h1
    have dh1 : ((nh : Int) != (k : Int) + (m : Int)) = true := by rw [bne_iff_ne]; exact h1
    clear h1 hn
    go_enter Try.func21, Try.ntmps21
    go_wp2_with (go_at_call 37; (with_reducible refine (GE.out _ B.out).mono ?_); rintro e w1 ⟨Ag, cg, rfl, hs1, hb1⟩; replace K := Lib.hid (K.out.below hb1); replace B := Lib.hid (B.out.trans (hb1.mono B.out.size)); replace K := Lib.hid ((K.out.alloc (.cells #[.int .i64 ((k : Int) + (m : Int)), .int .i64 k, .slice Ag gk cg] 24)).blk (Blk.new w1 #[.int .i64 ((k : Int) + (m : Int)), .int .i64 k, .slice Ag gk cg] 24)); replace B := Lib.hid (B.out.alloc B.out.size (.cells #[.int .i64 ((k : Int) + (m : Int)), .int .i64 k, .slice Ag gk cg] 24)); have qk0 := (K.out.at (.tail _ (.tail _ (.head _)))).cell 0; simp only [List.getElem?_toArray, List.getElem?_cons_succ, List.getElem?_cons_zero] at qk0; have qs0 := (K.out.at (.tail _ (.tail _ (.tail _ (.head _))))).cell 0; simp only [List.getElem?_toArray, List.getElem?_cons_succ, List.getElem?_cons_zero] at qs0; have qg0 := (K.out.at (.head _)).cell 0; have qg1 := (K.out.at (.head _)).cell 1; have qg2 := (K.out.at (.head _)).cell 2; simp only [List.getElem?_toArray, List.getElem?_cons_succ, List.getElem?_cons_zero] at qg0 qg1 qg2; have qf0 := (K.out.at (.tail _ (.head _))).cell 0; simp only [List.getElem?_toArray, List.getElem?_cons_succ, List.getElem?_cons_zero] at qf0; clear hs1 hb1)
    go_ret2
    exact ⟨rfl, B.out⟩
set_option maxRecDepth 1000000 in
set_option maxHeartbeats 2000000 in
theorem decode_fail (b k m n : Nat) (Ah : Option Addr) (ch : Nat) (has : List Bool) (A : Option Addr) (c : Nat) (ls : List (List F)) (w : World) (hkm : okkm k m) (hg : GfAt w b) (hh : Sl w Ah ch (has.map Value.bool)) (hr : Rr w A c ls) (E : Int) (hE : E ≠ 0) (hn : n = k + m) (hFD : ∀ w', Below w.heap.size w w' → Calls Try.prog 38 #[.int .i64 k, .slice Ah n ch, .slice A n c] w' fun e w'' => ∃ A' c', e = .returned (.tuple #[.slice A' 0 c', .int .i64 E]) ∧ Below w'.heap.size w' w'') :
    Calls Try.prog 21 #[fp b, .int .i64 k, .int .i64 m, .slice Ah n ch, .slice A n c] w fun e w' => e = .returned (.tuple #[.slice none 0 0, .int .i64 E]) ∧ Below w.heap.size w w' := by
  have FD := Lib.hid hFD
  have GE : Hid (∀ w', Below w.heap.size w w' → Calls Try.prog 37 #[fp b, .int .i64 k, .int .i64 m] w' fun e w'' => ∃ A' c', e = .returned (.tuple #[.agg #[.int .i64 ((k : Int) + (m : Int)), .int .i64 (k : Int), .slice A' ((k + m) * k) c'], .int .i64 0]) ∧ Bs w'' A' c' (matL (k + m) k (genF k)) ∧ Below w'.heap.size w' w'') := fun w' hw => (cauchy_Generator b k m hkm w' (hg.below hw)).mono fun e w'' ⟨A', c', he, ho, hb⟩ => ⟨A', c', he, own_sl ho, hb⟩
  obtain ⟨gk, hgk⟩ : ∃ gk, (k + m) * k = gk := ⟨_, rfl⟩
  rw [hgk] at GE
  have dn0 : ((n : Int) == (k : Int) + (m : Int)) = true := by rw [beq_iff_eq]; omega
  have dn1 : ((n : Int) != (k : Int) + (m : Int)) = false := by rw [bne_eq_false_iff_eq]; omega
  have dE0 : (E == 0) = false := by rw [beq_eq_false_iff_ne]; exact hE
  have dE1 : (E != 0) = true := by rw [bne_iff_ne]; exact hE
  obtain ⟨g1, g2, g3⟩ := id hkm
  have hkb : k + m ≤ 256 := by omega
  clear hkm hg hh hr hE hFD g1 g2 g3 hgk hn
  unfold fp at GE
  have K := Lib.hid (kn3 w 27 3 42 #[fp b] #[.int .i64 k] #[.slice A n c])
  have B := Lib.hid (below3 w (.cells #[fp b] 27) (.cells #[.int .i64 k] 3) (.cells #[.slice A n c] 42))
  unfold fp at K B ⊢
  go_enter Try.func21, Try.ntmps21
  go_wp2_with (first
    | (go_at_call 37; (with_reducible refine (GE.out _ B.out).mono ?_); rintro e w1 ⟨Ag, cg, rfl, hs1, hb1⟩; replace K := Lib.hid (K.out.below hb1); replace B := Lib.hid (B.out.trans (hb1.mono B.out.size)); replace K := Lib.hid (K.out.sl hs1); replace K := Lib.hid ((K.out.alloc (.cells #[.int .i64 ((k : Int) + (m : Int)), .int .i64 k, .slice Ag gk cg] 24)).blk (Blk.new w1 #[.int .i64 ((k : Int) + (m : Int)), .int .i64 k, .slice Ag gk cg] 24)); replace B := Lib.hid (B.out.alloc B.out.size (.cells #[.int .i64 ((k : Int) + (m : Int)), .int .i64 k, .slice Ag gk cg] 24)); have qk0 := (K.out.at (.tail _ (.tail _ (.head _)))).cell 0; simp only [List.getElem?_toArray, List.getElem?_cons_succ, List.getElem?_cons_zero] at qk0; have qs0 := (K.out.at (.tail _ (.tail _ (.tail _ (.head _))))).cell 0; simp only [List.getElem?_toArray, List.getElem?_cons_succ, List.getElem?_cons_zero] at qs0; have qg0 := (K.out.at (.head _)).cell 0; have qg1 := (K.out.at (.head _)).cell 1; have qg2 := (K.out.at (.head _)).cell 2; simp only [List.getElem?_toArray, List.getElem?_cons_succ, List.getElem?_cons_zero] at qg0 qg1 qg2; have qf0 := (K.out.at (.tail _ (.head _))).cell 0; simp only [List.getElem?_toArray, List.getElem?_cons_succ, List.getElem?_cons_zero] at qf0; clear hs1 hb1)
    | (go_at_call 38; (with_reducible refine (FD.out _ B.out).mono ?_); rintro e w2 ⟨A2, c2, rfl, hb2⟩; replace B := Lib.hid (B.out.trans (hb2.mono B.out.size)); clear hb2))
  go_ret2
  exact ⟨rfl, B.out.alloc B.out.size _⟩
set_option maxRecDepth 1000000 in
set_option maxHeartbeats 8000000 in
theorem decode_main (b k m n : Nat) (Ah : Option Addr) (ch : Nat) (has : List Bool) (A : Option Addr) (c : Nat) (ls : List (List F)) (w : World) (hkm : okkm k m) (hg : GfAt w b) (hh : Sl w Ah ch (has.map Value.bool)) (hr : Rr w A c ls) (Ls : List Nat) (Len : Nat) (V : Mx) (hV : IsInv k (pkM k Ls) V) (hn : n = k + m) (hls : ls.length = n) (hL : Ls.length = k) (hnd : Ls.Nodup) (hlt : ∀ x, x ∈ Ls → x < n) (hrow : ∀ i, i < k → lenAt ls (Ls.getD i 0) = Len) (hLen : Len ≤ 100000) (hFD : ∀ w', Below w.heap.size w w' → Calls Try.prog 38 #[.int .i64 k, .slice Ah n ch, .slice A n c] w' fun e w'' => ∃ A' c', e = .returned (.tuple #[.slice A' k c', .int .i64 0]) ∧ Sl w'' A' c' (nvs Ls) ∧ Below w'.heap.size w' w'') :
    Calls Try.prog 21 #[fp b, .int .i64 k, .int .i64 m, .slice Ah n ch, .slice A n c] w (ShR w (enc k m (decD k Len V ls Ls)) 0) := by
  obtain ⟨g1, g2, g3⟩ := id hkm
  have hk1 : 1 ≤ k := by omega
  have hkb : k + m ≤ 256 := by omega
  have FD := Lib.hid hFD
  have GE : Hid (∀ w', Below w.heap.size w w' → Calls Try.prog 37 #[fp b, .int .i64 k, .int .i64 m] w' fun e w'' => ∃ A' c', e = .returned (.tuple #[.agg #[.int .i64 ((k : Int) + (m : Int)), .int .i64 (k : Int), .slice A' ((k + m) * k) c'], .int .i64 0]) ∧ Bs w'' A' c' (matL (k + m) k (genF k)) ∧ Below w'.heap.size w' w'') := fun w' hw => (cauchy_Generator b k m hkm w' (hg.below hw)).mono fun e w'' ⟨A', c', he, ho, hb⟩ => ⟨A', c', he, own_sl ho, hb⟩
  have PK : Hid (∀ Ag cg Al cl w', Bs w' Ag cg (matL (k + m) k (genF k)) → Sl w' Al cl (nvs Ls) → Calls Try.prog 12 #[.agg #[.int .i64 ((k : Int) + (m : Int)), .int .i64 k, .slice Ag ((k + m) * k) cg], .slice Al k cl] w' fun e w'' => ∃ A' c', e = .returned (.tuple #[.agg #[.int .i64 k, .int .i64 k, .slice A' (k * k) c'], .int .i64 0]) ∧ Bs w'' A' c' (matL k k (pkM k Ls)) ∧ Below w'.heap.size w' w'') := fun Ag cg Al cl w' h1 h2 => by
    have hzl : (Ls.map fun (i : Nat) => (i : Int)).length = k := by rw [List.length_map]; exact hL
    have hz : ∀ i, i < k → (Ls.map fun (i : Nat) => (i : Int)).getD i 0 = ((Ls.getD i 0 : Nat) : Int) := fun i hi => by
      rw [List.getD_eq_getElem?_getD, List.getElem?_map, List.getElem?_eq_getElem (by omega), List.getD_eq_getElem?_getD, List.getElem?_eq_getElem (by omega)]; rfl
    have hgd : ∀ i, i < k → Ls.getD i 0 < k + m := fun i hi => by rw [← hn]; exact hlt _ (getD_mem (by omega))
    have h := mx_pick (k + m) k Ag cg (genF k) Al cl (Ls.map fun (i : Nat) => (i : Int)) w' (by omega) (by omega) (by omega) h1 (by rw [List.map_map]; exact h2) (fun z hz => by obtain ⟨x, hx, rfl⟩ := List.mem_map.1 hz; have := hlt x hx; omega)
    rw [hzl, Int.natCast_add] at h
    refine h.mono ?_
    rintro e w'' (⟨_, A', c', he, ho, hb⟩ | ⟨hg, _⟩)
    · rw [hzl] at he ho
      refine ⟨A', c', he, ?_, hb⟩
      have := own_sl ho
      rwa [matL_congr (g := pkM k Ls) fun i j hi hj => by unfold zr pkM; rw [hz i hi]; rfl] at this
    · refine absurd (fun j hj => ?_) hg
      rw [hzl] at hj
      rw [hz j hj]
      have := hgd j hj
      omega
  have IV : Hid (∀ Ap cp w', Below w.heap.size w w' → Bs w' Ap cp (matL k k (pkM k Ls)) → Calls Try.prog 10 #[fp b, .agg #[.int .i64 k, .int .i64 k, .slice Ap (k * k) cp]] w' fun e w'' => ∃ A' c', e = .returned (.tuple #[.agg #[.int .i64 k, .int .i64 k, .slice A' (k * k) c'], .int .i64 0]) ∧ Bs w'' A' c' (matL k k V) ∧ Below w'.heap.size w' w'') := fun Ap cp w' hw h1 => by
    refine (mx_invert b k Ap cp (pkM k Ls) w' (by omega) (hg.below hw) h1).mono ?_
    rintro e w'' (⟨v, hv, A', c', he, ho, hb⟩ | ⟨hne, _⟩)
    · refine ⟨A', c', he, ?_, hb⟩
      have := own_sl ho
      rwa [matL_congr (hv.unique hV)] at this
    · exact absurd ⟨V, hV⟩ hne
  have MA : Hid (∀ b5 b6 b9 b14 b17 Al cl Av cv j w', DecR w' b b5 b6 b9 b14 b17 k A n c Al cl Av cv V ls Ls → j < k → Calls Try.prog 39 #[.int .i64 j, .pointer (some ⟨b9, 0, none⟩), .pointer (some ⟨b14, 0, none⟩), .pointer (some ⟨b17, 0, none⟩), .pointer (some ⟨b6, 0, none⟩), .pointer (some ⟨b5, 0, none⟩)] w' fun e w'' => ∃ A' c', e = .returned (.slice A' Len c') ∧ w''.ownsRow w'.heap.size 5 1 (.slice A' Len c') Len ((tab Len fun x => dS (V j) ls Ls k x).map bv) ∧ Below w'.heap.size w' w'') := fun b5 b6 b9 b14 b17 Al cl Av cv j w' h hj => erase_made b b5 b6 b9 b14 b17 k j Len A n c Al cl Av cv V ls Ls w' h hls hL hj (by omega) (fun i hi => ⟨hlt _ (getD_mem (by omega)), hrow i hi⟩) hLen (by omega)
  have qD := eql_decD k Len V ls Ls
  have EN : Hid (∀ A' c' w', Below w.heap.size w w' → Rr w' A' c' (decD k Len V ls Ls) → Calls Try.prog 40 #[fp b, .int .i64 k, .int .i64 m, .slice A' k c'] w' (ShR w' (enc k m (decD k Len V ls Ls)) 0)) := fun A' c' w' hw h => by
    have := enc_yes hkm qD.alk (qD.le hLen) b A' c' w' (hg.below hw) h
    rwa [qD.len] at this
  have HG := Lib.hid hg
  have HR := Lib.hid hr
  have DAT : Hid (∀ j, j < k → (decD k Len V ls Ls)[j]? = some (tab Len fun x => dS (V j) ls Ls k x)) := fun j hj => decD_at hj
  have DLN := Lib.hid qD.len
  have dn0 : ((n : Int) == (k : Int) + (m : Int)) = true := by rw [beq_iff_eq]; omega
  have dn1 : ((n : Int) != (k : Int) + (m : Int)) = false := by rw [bne_eq_false_iff_eq]; omega
  clear hkm hg hh hr hFD g1 g2 g3 hn hls hL hnd hlt hrow qD hV
  generalize enc k m (decD k Len V ls Ls) = X at *
  generalize decD k Len V ls Ls = D at *
  generalize matL (k + m) k (genF k) = lg at *
  generalize hlv : matL k k V = lv at *
  have HLV := Lib.hid hlv
  clear hlv
  generalize matL k k (pkM k Ls) = lp at *
  obtain ⟨gk, hgk⟩ : ∃ gk, (k + m) * k = gk := ⟨_, rfl⟩
  obtain ⟨kk, hkk⟩ : ∃ kk, k * k = kk := ⟨_, rfl⟩
  have HKK := Lib.hid hkk
  rw [hgk] at GE PK
  rw [hkk] at PK IV
  clear hgk hkk
  unfold fp at GE IV EN
  have K := Lib.hid (kn3 w 27 3 42 #[fp b] #[.int .i64 k] #[.slice A n c])
  have B := Lib.hid (below3 w (.cells #[fp b] 27) (.cells #[.int .i64 k] 3) (.cells #[.slice A n c] 42))
  unfold fp at K B ⊢
  go_enter Try.func21, Try.ntmps21
  go_wp2_with (first
    | (go_at_call 37; (with_reducible refine (GE.out _ B.out).mono ?_); rintro e w1 ⟨Ag, cg, rfl, hs1, hb1⟩; replace K := Lib.hid (K.out.below hb1); replace B := Lib.hid (B.out.trans (hb1.mono B.out.size)); replace K := Lib.hid (K.out.sl hs1); replace K := Lib.hid ((K.out.alloc (.cells #[.int .i64 ((k : Int) + (m : Int)), .int .i64 k, .slice Ag gk cg] 24)).blk (Blk.new w1 #[.int .i64 ((k : Int) + (m : Int)), .int .i64 k, .slice Ag gk cg] 24)); replace B := Lib.hid (B.out.alloc B.out.size (.cells #[.int .i64 ((k : Int) + (m : Int)), .int .i64 k, .slice Ag gk cg] 24)); have qk0 := (K.out.at (.tail _ (.tail _ (.head _)))).cell 0; simp only [List.getElem?_toArray, List.getElem?_cons_succ, List.getElem?_cons_zero] at qk0; have qs0 := (K.out.at (.tail _ (.tail _ (.tail _ (.head _))))).cell 0; simp only [List.getElem?_toArray, List.getElem?_cons_succ, List.getElem?_cons_zero] at qs0; have qg0 := (K.out.at (.head _)).cell 0; have qg1 := (K.out.at (.head _)).cell 1; have qg2 := (K.out.at (.head _)).cell 2; simp only [List.getElem?_toArray, List.getElem?_cons_succ, List.getElem?_cons_zero] at qg0 qg1 qg2; have qf0 := (K.out.at (.tail _ (.head _))).cell 0; simp only [List.getElem?_toArray, List.getElem?_cons_succ, List.getElem?_cons_zero] at qf0; clear hs1 hb1)
    | (go_at_call 38; (with_reducible refine (FD.out _ B.out).mono ?_); rintro e w2 ⟨Al, cl, rfl, hs2, hb2⟩; replace K := Lib.hid (K.out.below hb2); replace B := Lib.hid (B.out.trans (hb2.mono B.out.size)); replace K := Lib.hid (K.out.sl hs2); replace K := Lib.hid ((K.out.alloc (.cells #[.slice Al k cl] 25)).blk (Blk.new w2 #[.slice Al k cl] 25)); replace B := Lib.hid (B.out.alloc B.out.size (.cells #[.slice Al k cl] 25)); clear qk0 qs0 qg0 qg1 qg2 qf0; have ql0 := (K.out.at (.head _)).cell 0; simp only [List.getElem?_toArray, List.getElem?_cons_succ, List.getElem?_cons_zero] at ql0; have qg0 := (K.out.at (.tail _ (.head _))).cell 0; have qg1 := (K.out.at (.tail _ (.head _))).cell 1; have qg2 := (K.out.at (.tail _ (.head _))).cell 2; simp only [List.getElem?_toArray, List.getElem?_cons_succ, List.getElem?_cons_zero] at qg0 qg1 qg2; have qk0 := (K.out.at (.tail _ (.tail _ (.tail _ (.head _))))).cell 0; simp only [List.getElem?_toArray, List.getElem?_cons_succ, List.getElem?_cons_zero] at qk0; have qf0 := (K.out.at (.tail _ (.tail _ (.head _)))).cell 0; simp only [List.getElem?_toArray, List.getElem?_cons_succ, List.getElem?_cons_zero] at qf0; clear hs2 hb2)
    | (go_at_call 12; (with_reducible refine (PK.out _ _ _ _ _ ?_ ?_).mono ?_); (exact K.out.sat (.tail _ (.head _))); (exact K.out.sat (.head _)); rintro e w3 ⟨Ap, cp, rfl, hs3, hb3⟩; replace K := Lib.hid (K.out.below hb3); replace B := Lib.hid (B.out.trans (hb3.mono B.out.size)); replace K := Lib.hid (K.out.sl hs3); replace K := Lib.hid ((K.out.alloc (.cells #[.int .i64 k, .int .i64 k, .slice Ap kk cp] 24)).blk (Blk.new w3 #[.int .i64 k, .int .i64 k, .slice Ap kk cp] 24)); replace B := Lib.hid (B.out.alloc B.out.size (.cells #[.int .i64 k, .int .i64 k, .slice Ap kk cp] 24)); clear ql0 qg0 qg1 qg2 qk0 qf0; have qp0 := (K.out.at (.head _)).cell 0; have qp1 := (K.out.at (.head _)).cell 1; have qp2 := (K.out.at (.head _)).cell 2; simp only [List.getElem?_toArray, List.getElem?_cons_succ, List.getElem?_cons_zero] at qp0 qp1 qp2; have qf0 := (K.out.at (.tail _ (.tail _ (.tail _ (.head _))))).cell 0; simp only [List.getElem?_toArray, List.getElem?_cons_succ, List.getElem?_cons_zero] at qf0; have qk0 := (K.out.at (.tail _ (.tail _ (.tail _ (.tail _ (.head _)))))).cell 0; simp only [List.getElem?_toArray, List.getElem?_cons_succ, List.getElem?_cons_zero] at qk0; clear hs3 hb3)
    | (go_at_call 10; (with_reducible refine (IV.out _ _ _ B.out ?_).mono ?_); (exact K.out.sat (.head _)); rintro e w4 ⟨Av, cv, rfl, hs4, hb4⟩; replace K := Lib.hid (K.out.below hb4); replace B := Lib.hid (B.out.trans (hb4.mono B.out.size)); replace K := Lib.hid (K.out.sl hs4); replace K := Lib.hid ((K.out.alloc (.cells #[.int .i64 k, .int .i64 k, .slice Av kk cv] 24)).blk (Blk.new w4 #[.int .i64 k, .int .i64 k, .slice Av kk cv] 24)); replace B := Lib.hid (B.out.alloc B.out.size (.cells #[.int .i64 k, .int .i64 k, .slice Av kk cv] 24)); clear qp0 qp1 qp2 qf0 qk0; have qk0 := (K.out.at (.tail _ (.tail _ (.tail _ (.tail _ (.tail _ (.head _))))))).cell 0; simp only [List.getElem?_toArray, List.getElem?_cons_succ, List.getElem?_cons_zero] at qk0; clear hs4 hb4))
  have DR : Hid (DecR (w4.alloc (.cells #[.int .i64 k, .int .i64 k, .slice Av kk cv] 24)) b w.heap.size (w.heap.size + 1) (w.heap.size + 2) w2.heap.size w4.heap.size k A n c Al cl Av cv V ls Ls) := ⟨HG.out.below B.out, K.out.at (.tail _ (.tail _ (.tail _ (.tail _ (.head _))))), K.out.at (.tail _ (.tail _ (.tail _ (.tail _ (.tail _ (.head _)))))), K.out.at (.tail _ (.tail _ (.tail _ (.tail _ (.tail _ (.tail _ (.head _))))))), K.out.at (.tail _ (.tail _ (.head _))), by rw [HKK.out]; exact K.out.at (.head _), HR.out.below B.out, K.out.sat (.tail _ (.tail _ (.head _))), by rw [HLV.out]; exact K.out.sat (.head _)⟩
  have B4 := Lib.hid B.out
  clear GE FD PK IV K
  generalize hW4 : (w4.alloc (.cells #[.int .i64 k, .int .i64 k, .slice Av kk cv] 24)) = W4 at *
  clear hW4
  have M0 : Hid (MadeR W4 W4 none 0 0 []) := ⟨World.ownsRow_nil _ _ _ _, Grid.nil _ _, Below.refl _ _⟩
  go_loopw [19, 74] (fun u v wr => ∃ (i : Nat) (rs : List Row) (A5 : Option Addr) (c5 : Nat), i ≤ k ∧ v = .int .i64 i ∧ u = .slice A5 i c5 ∧ lsts rs = D.take i ∧ MadeR W4 wr A5 i c5 rs) (fun _ v _ => k - (intOf v).toNat)
  case atStart => exact ⟨0, [], none, 0, Nat.zero_le _, rfl, rfl, rfl, M0.out⟩
  case round =>
    clear M0 qk0
    obtain ⟨i, rs, A5, c5, hi, rfl, rfl, hls, hmr⟩ := hrel
    have HLS := Lib.hid hls
    have MR := Lib.hid hmr
    clear hls hmr
    by_cases hlt : i < k
    · have MC := Lib.hid (MA.out _ _ _ _ _ _ _ _ _ i wr (DR.out.below MR.out.bel) hlt)
      have CI := Lib.hid (DAT.out i hlt)
      have TL : Hid ((tab Len fun x => dS (V i) ls Ls k x).length = Len) := length_tab _ _
      generalize (tab Len fun x => dS (V i) ls Ls k x) = row at *
      have hit : (i : Int) < (k : Int) := by omega
      go_wp2_with (first
        | (go_at_call 39; (with_reducible refine MC.out.mono ?_); rintro e w5 ⟨A6, c6, rfl, ho5, hb5⟩; have HO5 := Lib.hid ho5; have HB5 := Lib.hid hb5; clear ho5 hb5)
        | (at_builtin; refine app_spine _ rfl _ _ rfl W4.heap.size A5 c5 i (vals rs) rfl (own_below MR.out.sp (HB5.out.trans ((below_alloc w5 _).mono HB5.out.size))) _ 1 (.slice A6 Len c6) rfl (lit_row _ rfl) rfl (by omega) ?hb ?_; (case hb => exact Nat.le_trans MR.out.bel.size (Nat.le_trans HB5.out.size (by simp))); intro A7 c7 w7 ho7 hg7; have HO7 := Lib.hid ho7; have HG7 := Lib.hid hg7; clear ho7 hg7))
      go_roundw
      case rel =>
        have hv : rowV (A6, c6, row) = .slice A6 Len c6 := by unfold rowV; rw [TL.out]
        have ho : ownR w5 wr.heap.size (A6, c6, row) := by unfold ownR; rw [hv, TL.out]; exact HO5.out
        refine ⟨i + 1, rs ++ [(A6, c6, row)], A7, c7, by omega, by go_num, rfl, ?_, MR.out.push HB5.out ho (.cells #[.slice A6 Len c6] 22) (by rw [hv]; exact HO7.out) HG7.out⟩
        rw [lsts_append, HLS.out, List.take_add_one, CI.out]; rfl
      case measure => simp [intOf]; omega
    · obtain rfl : i = k := by omega
      have hit : ¬ (i : Int) < (i : Int) := by omega
      have hal : lsts rs = D := by rw [HLS.out, List.take_of_length_le (by rw [DLN.out]; exact Nat.le_refl _)]
      have RD := Lib.hid (MR.out.rr hal)
      have BE := Lib.hid (B4.out.trans (MR.out.bel.mono B4.out.size))
      have qk0 := (DR.out.below MR.out.bel).k6.cell 0
      have qf0 := (DR.out.below MR.out.bel).k5.cell 0
      simp only [List.getElem?_toArray, List.getElem?_cons_succ, List.getElem?_cons_zero] at qk0 qf0
      clear hal
      unfold fp at qf0
      go_wp2_with (go_at_call 40; (with_reducible refine (EN.out _ _ _ BE.out RD.out).mono ?_); rintro e w8 ⟨Ax, cx, rfl, hx, hb8⟩; have HX := Lib.hid hx; have HB8 := Lib.hid (BE.out.trans (hb8.mono BE.out.size)); clear hx hb8)
      go_ret2
      exact ⟨Ax, cx, rfl, HX.out, HB8.out⟩
end Go.Proofs.Ytbepadepepoilaa
