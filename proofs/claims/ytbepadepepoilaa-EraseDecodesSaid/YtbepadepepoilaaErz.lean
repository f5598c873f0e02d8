/- aumbryref07.Decode and EraseDecodes, walked. -/
import Derived.Test.YtbepadepepoilaaErc
import Derived.BigQuiet
import Derived.Deep.QuietTactic
import Derived.Test.YtbepadepepoilaaEro
import Derived.Test.YtbepadepepoilaaR3e
import Derived.Test.YtbepadepepoilaaR3g
import Derived.Test.YtbepadepepoilaaLaw07
namespace Go.Proofs.Ytbepadepepoilaa
open Go.RowKit
set_option linter.unusedVariables false
set_option linter.unusedSimpArgs false
/-! Eru -/
theorem idx_le (has : List Bool) (i : Nat) : (idx has i).length ≤ i := by
  unfold idx
  exact Nat.le_trans (List.length_filter_le _ _) (by simp)
theorem idx_mono {has : List Bool} {i n : Nat} (h : i ≤ n) {x : Nat} (hx : x ∈ idx has i) : x ∈ idx has n := by
  unfold idx at hx ⊢
  have := List.mem_filter.1 hx
  exact List.mem_filter.2 ⟨List.mem_range.2 (by have := List.mem_range.1 this.1; omega), this.2⟩
theorem idx_at {has : List Bool} {n i : Nat} (hn : i < n) (hi : has.getD i false = true) : i ∈ idx has n := by
  unfold idx
  exact List.mem_filter.2 ⟨List.mem_range.2 hn, hi⟩
/-- the shards below i that are there are of the first one's length -/
def Aln (has : List Bool) (ls : List (List F)) (i : Nat) : Prop := ∀ a, a ∈ idx has i → lenAt ls a = lenAt ls ((idx has i).getD 0 0)
theorem Aln.zero (has : List Bool) (ls : List (List F)) : Aln has ls 0 := fun a ha => by simp [idx] at ha
theorem Aln.skip {has : List Bool} {ls : List (List F)} {i : Nat} (h : Aln has ls i) (hi : ¬ has.getD i false = true) : Aln has ls (i + 1) := by
  unfold Aln
  rw [idx_succ, if_neg hi, List.append_nil]
  exact h
theorem Aln.first {has : List Bool} {ls : List (List F)} {i : Nat} (h : idx has i = []) (hi : has.getD i false = true) : Aln has ls (i + 1) := by
  unfold Aln
  rw [idx_succ, if_pos hi, h]
  intro a ha
  simp at ha
  subst ha
  rfl
theorem Aln.more {has : List Bool} {ls : List (List F)} {i : Nat} (h : Aln has ls i) (hp : 0 < (idx has i).length) (hi : has.getD i false = true) (he : lenAt ls ((idx has i).getD 0 0) = lenAt ls i) : Aln has ls (i + 1) := by
  unfold Aln
  rw [idx_succ, if_pos hi]
  have e : (idx has i ++ [i]).getD 0 0 = (idx has i).getD 0 0 := by
    rw [List.getD_eq_getElem?_getD, List.getElem?_append_left hp, ← List.getD_eq_getElem?_getD]
  rw [e]
  intro a ha
  rcases List.mem_append.1 ha with ha | ha
  · exact h a ha
  · simp at ha; rw [ha]; exact he.symm
theorem Aln.bad {has : List Bool} {ls : List (List F)} {i n : Nat} (hp : 0 < (idx has i).length) (hi : has.getD i false = true) (hn : i < n) (he : ¬ lenAt ls ((idx has i).getD 0 0) = lenAt ls i) : ¬ SameL has ls n := fun hs => by
  have h0 : (idx has i).getD 0 0 ∈ idx has i := getD_mem hp
  exact he (hs _ _ (idx_mono (Nat.le_of_lt hn) h0) (idx_at hn hi))
theorem Aln.same {has : List Bool} {ls : List (List F)} {n : Nat} (h : Aln has ls n) : SameL has ls n := fun i j hi hj => by rw [h i hi, h j hj]
set_option maxRecDepth 1000000 in
set_option maxHeartbeats 4000000 in
theorem ref07_there (Ah : Option Addr) (ch : Nat) (has : List Bool) (A : Option Addr) (c : Nat) (ls : List (List F)) (n : Nat) (w : World) (hh : Sl w Ah ch (has.map Value.bool)) (hr : Rr w A c ls) (hn : has.length = n) (hn2 : ls.length = n) (hnb : n ≤ 256) :
    Calls Try.prog 42 #[.slice Ah n ch, .slice A n c] w fun e w' => ∃ (L : List Nat) (v : Value), ((¬ SameL has ls n ∧ v = .bool false ∧ L = []) ∨ (SameL has ls n ∧ v = .bool true ∧ L = idx has n)) ∧ ∃ A' c', e = .returned (.tuple #[.slice A' L.length c', v]) ∧ Sl w' A' c' (nvs L) ∧ Below w.heap.size w w' := by
  have HH := Lib.hid hh
  have HR := Lib.hid hr
  have HN := Lib.hid hn
  have HN2 := Lib.hid hn2
  clear hh hr hn hn2
  have A0 : Hid (Aln has ls 0) := Aln.zero has ls
  go_enter Try.func42, Try.ntmps42
  go_wp2
  go_loopw [6, 7] (fun u x wr => ∃ (i : Nat) (A5 : Option Addr) (c5 : Nat), i ≤ n ∧ x = .int .i64 i ∧ u = .slice A5 (idx has i).length c5 ∧ Aln has ls i ∧ wr.ownsRow w.heap.size 3 1 (.slice A5 (idx has i).length c5) (idx has i).length (nvs (idx has i)) ∧ Below w.heap.size w wr) (fun _ x _ => n - (intOf x).toNat)
  case atStart => exact ⟨0, none, 0, Nat.zero_le _, rfl, by simp [idx], A0.out, by simp only [idx, List.range_zero, List.filter_nil]; exact World.ownsRow_nil _ _ _ _, Below.refl _ _⟩
  case round =>
    clear A0
    obtain ⟨i, A5, c5, hi, rfl, rfl, hak, ho, hbel⟩ := hrel
    have AK := Lib.hid hak
    have HO := Lib.hid ho
    have HB := Lib.hid hbel
    obtain ⟨t, ht⟩ : ∃ t, (idx has i).length = t := ⟨_, rfl⟩
    have HT := Lib.hid ht
    have htn : t ≤ n := by have := idx_le has i; omega
    rw [ht] at HO ⊢
    clear hak ho hbel ht
    by_cases hlt : i < n
    · have hit : (i : Int) < (n : Int) := by omega
      obtain ⟨b1, o1, hA1, _, hc1⟩ := Sl.at' (HH.out.below HB.out) (by rw [List.length_map, HN.out]; omega)
      subst hA1
      obtain ⟨q, hq⟩ : ∃ q, has.getD i false = q := ⟨_, rfl⟩
      have y1 := hc1 i (.bool q) (by rw [List.getElem?_map, List.getElem?_eq_getElem (by rw [HN.out]; exact hlt), ← hq, List.getD_eq_getElem?_getD, List.getElem?_eq_getElem (by rw [HN.out]; exact hlt)]; rfl)
      have HQ := Lib.hid hq
      clear hc1 hq
      cases q with
      | false =>
        go_wp2
        go_roundw
        case rel =>
          have e : idx has (i + 1) = idx has i := by rw [idx_succ, if_neg (by rw [HQ.out]; decide), List.append_nil]
          refine ⟨i + 1, A5, c5, by omega, by go_num, by rw [e, HT.out], AK.out.skip (by rw [HQ.out]; decide), by rw [e, HT.out]; exact HO.out, HB.out⟩
        case measure => simp [intOf]; omega
      | true =>
        have REL : Hid (∀ (A6 : Option Addr) (c6 : Nat) (w6 : World), Aln has ls (i + 1) → w6.ownsRow w.heap.size 3 1 (.slice A6 (t + 1) c6) (t + 1) (nvs (idx has i) ++ [.int .i64 i]) → Below w.heap.size w w6 → Aln has ls (i + 1) ∧ w6.ownsRow w.heap.size 3 1 (.slice A6 (idx has (i + 1)).length c6) (idx has (i + 1)).length (nvs (idx has (i + 1)))) := fun A6 c6 w6 ha ho hb => by
          have e : idx has (i + 1) = idx has i ++ [i] := by rw [idx_succ, if_pos HQ.out]
          have el : (idx has (i + 1)).length = t + 1 := by rw [e, List.length_append, HT.out]; rfl
          refine ⟨ha, ?_⟩
          rw [el, e]
          unfold nvs at ho ⊢
          rw [List.map_append]
          exact ho
        have EL : Hid ((idx has (i + 1)).length = t + 1) := by
          have e : idx has (i + 1) = idx has i ++ [i] := by rw [idx_succ, if_pos HQ.out]
          show _ = _
          rw [e, List.length_append, HT.out]; rfl
        by_cases h0 : 0 < t
        · have h0i : (0 : Int) < (t : Int) := by omega
          have hdec : decide ((0 : Int) < (t : Int)) = true := decide_eq_true h0i
          obtain ⟨f, hf⟩ : ∃ f, (idx has i).getD 0 0 = f := ⟨_, rfl⟩
          have HF := Lib.hid hf
          have hfi : f < i := by rw [← hf]; exact idx_lt (getD_mem (by rw [HT.out]; exact h0))
          have hfn : (f : Int) < (n : Int) := by omega
          obtain ⟨b5, o5, hA5, _, hc5⟩ := Sl.at' (own_sl HO.out) (by rw [List.length_map, HT.out]; exact h0)
          have y5 := hc5 0 (.int .i64 f) (by rw [List.getElem?_map, List.getElem?_eq_getElem (by rw [HT.out]; exact h0), ← hf, List.getD_eq_getElem?_getD, List.getElem?_eq_getElem (by rw [HT.out]; exact h0)]; rfl)
          obtain ⟨b2, o2, A2, c2, hA, y2, _⟩ := (HR.out.below HB.out).get (i := i) (by rw [HN2.out]; exact hlt)
          obtain ⟨b3, o3, A3, c3, hA3, y3, _⟩ := (HR.out.below HB.out).get (i := f) (by rw [HN2.out]; omega)
          rw [hA] at hA3
          injection hA3 with e1
          injection e1 with e1 e2
          subst e1 e2
          subst hA hA5
          rw [Nat.add_zero] at y5
          clear hc5 hf
          by_cases he : lenAt ls f = lenAt ls i
          · have ZZ : Hid (Aln has ls (i + 1)) := AK.out.more (by rw [HT.out]; exact h0) HQ.out (by rw [HF.out]; exact he)
            rw [he] at y3
            clear he
            generalize lenAt ls i = z at *
            have d1 : ((z : Int) != (z : Int)) = false := by rw [bne_self_eq_false]
            go_wp2
            go_quiet (fail)
            go_wp2_with (at_builtin; refine app_int _ rfl _ _ rfl w.heap.size (some ⟨b5, o5, none⟩) c5 t (nvs (idx has i)) rfl ?hown _ 1 (.int .i64 i) rfl (lit_int _ rfl) rfl (by omega) ?hb ?_; (case hown => first | exact HO.out.alloc _ | exact (own_below HO.out (below_drew0 _ _)).alloc _); (case hb => exact Nat.le_trans HB.out.size (by simp)); intro A6 c6 w6 ho6 hb6; have HO6 := Lib.hid ho6; have HB6 : Hid (Below w.heap.size w w6) := (by first | exact (HB.out.alloc HB.out.size _).trans hb6 | exact ((below_drewN HB.out _).alloc (below_drewN HB.out _).size _).trans hb6); clear ho6 hb6)
            go_roundw
            case rel => exact ⟨i + 1, A6, c6, by omega, by go_num, by rw [EL.out], (REL.out A6 c6 _ ZZ.out HO6.out HB6.out).1, (REL.out A6 c6 _ ZZ.out HO6.out HB6.out).2, HB6.out⟩
            case measure => simp [intOf]; omega
          · have BAD : Hid (¬ SameL has ls n) := Aln.bad (by rw [HT.out]; exact h0) HQ.out hlt (by rw [HF.out]; exact he)
            have d1 : ((lenAt ls f : Int) != (lenAt ls i : Int)) = true := by rw [bne_iff_ne]; omega
            clear he
            generalize lenAt ls i = z at *
            generalize lenAt ls f = z2 at *
            go_wp2
            go_quiet (fail)
            go_wp2
            go_ret2
            exact ⟨[], .bool false, .inl ⟨BAD.out, rfl, rfl⟩, none, 0, rfl, Sl.nil _, by first | exact HB.out | exact below_drewN HB.out _⟩
        · obtain rfl : t = 0 := by omega
          have hdec : decide ((0 : Int) < ((0 : Nat) : Int)) = false := by decide
          have ZZ : Hid (Aln has ls (i + 1)) := Aln.first (List.length_eq_zero_iff.1 HT.out) HQ.out
          go_wp2
          go_quiet (fail)
          go_wp2_with (at_builtin; refine app_int _ rfl _ _ rfl w.heap.size A5 c5 0 (nvs (idx has i)) rfl ?hown _ 1 (.int .i64 i) rfl (lit_int _ rfl) rfl (by omega) ?hb ?_; (case hown => first | exact HO.out.alloc _ | exact (own_below HO.out (below_drew0 _ _)).alloc _); (case hb => exact Nat.le_trans HB.out.size (by simp)); intro A6 c6 w6 ho6 hb6; have HO6 := Lib.hid ho6; have HB6 : Hid (Below w.heap.size w w6) := (by first | exact (HB.out.alloc HB.out.size _).trans hb6 | exact ((below_drewN HB.out _).alloc (below_drewN HB.out _).size _).trans hb6); clear ho6 hb6)
          go_roundw
          case rel => exact ⟨i + 1, A6, c6, by omega, by go_num, by rw [EL.out], (REL.out A6 c6 _ ZZ.out HO6.out HB6.out).1, (REL.out A6 c6 _ ZZ.out HO6.out HB6.out).2, HB6.out⟩
          case measure => simp [intOf]; omega
    · obtain rfl : i = n := by omega
      have hit : ¬ (i : Int) < (i : Int) := by omega
      go_wp2
      go_ret2
      exact ⟨idx has i, .bool true, .inr ⟨AK.out.same, rfl, rfl⟩, A5, c5, by rw [HT.out]; rfl, own_sl HO.out, HB.out⟩
/-! Erv -/
/-- what the loops of aumbryref07.Decode read -/
structure DecW (w : World) (b17 : Nat) (k : Nat) (A : Option Addr) (n c : Nat) (Al : Option Addr) (cl : Nat) (Av : Option Addr) (cv : Nat) (V : Mx) (ls : List (List F)) (Ls : List Nat) : Prop where
  k17 : Blk w b17 24 #[.int .i64 k, .int .i64 k, .slice Av (k * k) cv]
  r : Rr w A c ls
  l : Sl w Al cl (nvs Ls)
  v : Bs w Av cv (matL k k V)
theorem DecW.below {w w' : World} {b17 k : Nat} {A : Option Addr} {n c : Nat} {Al : Option Addr} {cl : Nat} {Av : Option Addr} {cv : Nat} {V : Mx} {ls : List (List F)} {Ls : List Nat} (h : DecW w b17 k A n c Al cl Av cv V ls Ls) (hb : Below w.heap.size w w') : DecW w' b17 k A n c Al cl Av cv V ls Ls :=
  ⟨h.k17.below hb, h.r.below hb, h.l.below hb, Sl.below h.v hb⟩
theorem dS_succ (V : Nat → F) (ls : List (List F)) (Ls : List Nat) (i x : Nat) : dS V ls Ls (i + 1) x = dS V ls Ls i x + V i * at2 ls (Ls.getD i 0) x := sumF_succ _ _
theorem dS_zero (V : Nat → F) (ls : List (List F)) (Ls : List Nat) (x : Nat) : dS V ls Ls 0 x = 0 := rfl
set_option maxRecDepth 1000000 in
set_option maxHeartbeats 8000000 in
theorem ref07_main (k m n nl : Nat) (Ah : Option Addr) (ch : Nat) (has : List Bool) (A : Option Addr) (c : Nat) (ls : List (List F)) (w : World) (hkm : okkm k m) (hr : Rr w A c ls) (Ls : List Nat) (Len : Nat) (V : Mx) (hV : IsInv k (pkM k Ls) V) (hn : n = k + m) (hls : ls.length = n) (hL : Ls.length = k) (hnl : k ≤ nl) (hlt : ∀ x, x ∈ Ls → x < n) (hrow : ∀ i, i < k → lenAt ls (Ls.getD i 0) = Len) (hLen : Len ≤ 100000) (hFD : ∀ w', Below w.heap.size w w' → Calls Try.prog 42 #[.slice Ah n ch, .slice A n c] w' fun e w'' => ∃ A' c', e = .returned (.tuple #[.slice A' nl c', .bool true]) ∧ Sl w'' A' c' (nvs Ls) ∧ nl ≤ c' ∧ Below w'.heap.size w' w'') :
    Calls Try.prog 22 #[.int .i64 k, .int .i64 m, .slice Ah n ch, .slice A n c] w (ShR w (enc k m (decD k Len V ls Ls)) 0) := by
  obtain ⟨g1, g2, g3⟩ := id hkm
  have hk1 : 1 ≤ k := by omega
  have hkb : k + m ≤ 256 := by omega
  have FD := Lib.hid hFD
  have GE : Hid (∀ w', Calls Try.prog 41 #[.int .i64 k, .int .i64 m] w' fun e w'' => ∃ A' c', e = .returned (.tuple #[.agg #[.int .i64 ((k : Int) + (m : Int)), .int .i64 (k : Int), .slice A' ((k + m) * k) c'], .int .i64 0]) ∧ Bs w'' A' c' (matL (k + m) k (genF k)) ∧ Below w'.heap.size w' w'') := fun w' => (ref05_Generator k m hkm w').mono fun e w'' ⟨A', c', he, ho, hb⟩ => ⟨A', c', he, own_sl ho, hb⟩
  have PK : Hid (∀ Ag cg Al cl w', Bs w' Ag cg (matL (k + m) k (genF k)) → Sl w' Al cl (nvs Ls) → Calls Try.prog 13 #[.agg #[.int .i64 ((k : Int) + (m : Int)), .int .i64 k, .slice Ag ((k + m) * k) cg], .slice Al k cl] w' fun e w'' => ∃ A' c', e = .returned (.tuple #[.agg #[.int .i64 k, .int .i64 k, .slice A' (k * k) c'], .int .i64 0]) ∧ Bs w'' A' c' (matL k k (pkM k Ls)) ∧ Below w'.heap.size w' w'') := fun Ag cg Al cl w' h1 h2 => by
    have hzl : (Ls.map fun (i : Nat) => (i : Int)).length = k := by rw [List.length_map]; exact hL
    have hz : ∀ i, i < k → (Ls.map fun (i : Nat) => (i : Int)).getD i 0 = ((Ls.getD i 0 : Nat) : Int) := fun i hi => by
      rw [List.getD_eq_getElem?_getD, List.getElem?_map, List.getElem?_eq_getElem (by omega), List.getD_eq_getElem?_getD, List.getElem?_eq_getElem (by omega)]; rfl
    have hgd : ∀ i, i < k → Ls.getD i 0 < k + m := fun i hi => by rw [← hn]; exact hlt _ (getD_mem (by omega))
    have h := ref03_pick (k + m) k Ag cg (genF k) Al cl (Ls.map fun (i : Nat) => (i : Int)) w' (by omega) (by omega) (by omega) h1 (by rw [List.map_map]; exact h2) (fun z hz => by obtain ⟨x, hx, rfl⟩ := List.mem_map.1 hz; have := hlt x hx; omega)
    rw [hzl, Int.natCast_add] at h
    refine h.mono ?_
    rintro e w'' (⟨_, A', c', he, ho, hb⟩ | ⟨hg, _⟩)
    · rw [hzl] at he ho
      refine ⟨A', c', he, ?_, hb⟩
      have := own_sl ho
      rwa [matL_congr (g := pkM k Ls) fun i j hi hj => by unfold zr pkM; rw [hz i hi]; rfl] at this
    · refine absurd (fun j hj => ?_) hg
      rw [hzl] at hj
      rw [hz j hj]
      have := hgd j hj
      omega
  have IV : Hid (∀ Ap cp w', Bs w' Ap cp (matL k k (pkM k Ls)) → Calls Try.prog 11 #[.agg #[.int .i64 k, .int .i64 k, .slice Ap (k * k) cp]] w' fun e w'' => ∃ A' c', e = .returned (.tuple #[.agg #[.int .i64 k, .int .i64 k, .slice A' (k * k) c'], .int .i64 0]) ∧ Bs w'' A' c' (matL k k V) ∧ Below w'.heap.size w' w'') := fun Ap cp w' h1 => by
    refine (ref03_invert k Ap cp (pkM k Ls) w' (by omega) h1).mono ?_
    rintro e w'' (⟨v, hv, A', c', he, ho, hb⟩ | ⟨hne, _⟩)
    · refine ⟨A', c', he, ?_, hb⟩
      have := own_sl ho
      rwa [matL_congr (hv.unique hV)] at this
    · exact absurd ⟨V, hV⟩ hne
  have qD := eql_decD k Len V ls Ls
  have EN : Hid (∀ A' c' w', Rr w' A' c' (decD k Len V ls Ls) → Calls Try.prog 43 #[.int .i64 k, .int .i64 m, .slice A' k c'] w' (ShR w' (enc k m (decD k Len V ls Ls)) 0)) := fun A' c' w' h => by
    have h4 := qD.alk.1
    obtain ⟨L, E, hc, _, hb⟩ := enc_out k m (decD k Len V ls Ls) ⟨by omega, by omega⟩ ⟨by omega, by omega⟩ (by rw [qD.len]; omega) (qD.le hLen)
    obtain ⟨rfl, rfl⟩ := hc.zero hkm qD.alk
    have := hb A' c' w' h
    rwa [qD.len] at this
  have HR := Lib.hid hr
  have HN := Lib.hid hls
  have HL := Lib.hid hL
  have RW : Hid (∀ i, i < k → Ls.getD i 0 < n ∧ lenAt ls (Ls.getD i 0) = Len) := fun i hi => ⟨hlt _ (getD_mem (by omega)), hrow i hi⟩
  have DAT : Hid (∀ j, j < k → (decD k Len V ls Ls)[j]? = some (tab Len fun x => dS (V j) ls Ls k x)) := fun j hj => decD_at hj
  have DLN := Lib.hid qD.len
  have dn0 : ((n : Int) == (k : Int) + (m : Int)) = true := by rw [beq_iff_eq]; omega
  have dn1 : ((n : Int) != (k : Int) + (m : Int)) = false := by rw [bne_eq_false_iff_eq]; omega
  have hnk : ¬ (nl : Int) < (k : Int) := by omega
  clear hkm hr hFD g1 g2 g3 hn hls hL hlt hrow qD hV
  generalize enc k m (decD k Len V ls Ls) = X at *
  generalize decD k Len V ls Ls = D at *
  generalize matL (k + m) k (genF k) = lg at *
  have LOV : Hid (∀ j i, j < k → i < k → j * k + i < k * k ∧ (matL k k V).getD (j * k + i) 0 = V j i) := fun j i hj hi => ⟨row_lt hj hi, getD_matL V hj hi⟩
  have LV : Hid ((matL k k V).length = k * k) := length_matL _ _ _
  generalize hlv : matL k k V = lv at *
  have HLV := Lib.hid hlv
  clear hlv
  generalize matL k k (pkM k Ls) = lp at *
  obtain ⟨gk, hgk⟩ : ∃ gk, (k + m) * k = gk := ⟨_, rfl⟩
  obtain ⟨kk, hkk⟩ : ∃ kk, k * k = kk := ⟨_, rfl⟩
  have hkb2 : kk ≤ 65536 := by rw [← hkk]; exact Nat.mul_le_mul (Nat.le_trans (Nat.le_add_right k m) hkb) (Nat.le_trans (Nat.le_add_right k m) hkb)
  have HKK := Lib.hid hkk
  rw [hgk] at GE PK
  rw [hkk] at PK IV LOV LV
  clear hgk hkk
  have K := Lib.hid (Kn.nothing w)
  have W := Lib.hid (Since.refl w)
  go_enter Try.func22, Try.ntmps22
  go_wp2_with (first
    | (go_at_call 41; (with_reducible refine (GE.out _).mono ?_); rintro e w1 ⟨Ag, cg, rfl, hbs, hbel⟩; (first | replace K := Lib.hid (K.out.below hbel) | replace K := Lib.hid ((K.out.alloc _).below hbel) | replace K := Lib.hid (((K.out.alloc _).alloc _).below hbel) | replace K := Lib.hid ((K.out.drewN _).below hbel) | replace K := Lib.hid (((K.out.drewN _).alloc _).below hbel) | replace K := Lib.hid (((K.out.alloc _).drewN _).below hbel) | replace K := Lib.hid ((((K.out.alloc _).alloc _).drewN _).below hbel) | replace K := Lib.hid ((((K.out.alloc _).alloc _).alloc _).below hbel) | replace K := Lib.hid ((((K.out.drewN _).alloc _).alloc _).below hbel)); (first | replace W := Lib.hid (W.out.below hbel) | replace W := Lib.hid ((W.out.alloc _).below hbel) | replace W := Lib.hid (((W.out.alloc _).alloc _).below hbel) | replace W := Lib.hid ((W.out.drewN _).below hbel) | replace W := Lib.hid (((W.out.drewN _).alloc _).below hbel) | replace W := Lib.hid (((W.out.alloc _).drewN _).below hbel) | replace W := Lib.hid ((((W.out.alloc _).alloc _).drewN _).below hbel) | replace W := Lib.hid ((((W.out.alloc _).alloc _).alloc _).below hbel) | replace W := Lib.hid ((((W.out.drewN _).alloc _).alloc _).below hbel)); replace K := Lib.hid (K.out.sl hbs); replace K := Lib.hid ((K.out.alloc (.cells #[.int .i64 ((k : Int) + (m : Int)), .int .i64 k, .slice Ag gk cg] 24)).blk (Blk.new w1 #[.int .i64 ((k : Int) + (m : Int)), .int .i64 k, .slice Ag gk cg] 24)); replace W := Lib.hid (W.out.alloc (.cells #[.int .i64 ((k : Int) + (m : Int)), .int .i64 k, .slice Ag gk cg] 24)); clear hbel)
    | (go_at_call 42; (with_reducible refine (FD.out _ ?_).mono ?_); (first | exact W.out | exact W.out.alloc _ | exact W.out.drewN _ | exact (W.out.alloc _).drewN _ | exact (W.out.drewN _).alloc _); rintro e w2 ⟨Al, cl, rfl, hbs, hcl, hbel⟩; (first | replace K := Lib.hid (K.out.below hbel) | replace K := Lib.hid ((K.out.alloc _).below hbel) | replace K := Lib.hid (((K.out.alloc _).alloc _).below hbel) | replace K := Lib.hid ((K.out.drewN _).below hbel) | replace K := Lib.hid (((K.out.drewN _).alloc _).below hbel) | replace K := Lib.hid (((K.out.alloc _).drewN _).below hbel) | replace K := Lib.hid ((((K.out.alloc _).alloc _).drewN _).below hbel) | replace K := Lib.hid ((((K.out.alloc _).alloc _).alloc _).below hbel) | replace K := Lib.hid ((((K.out.drewN _).alloc _).alloc _).below hbel)); (first | replace W := Lib.hid (W.out.below hbel) | replace W := Lib.hid ((W.out.alloc _).below hbel) | replace W := Lib.hid (((W.out.alloc _).alloc _).below hbel) | replace W := Lib.hid ((W.out.drewN _).below hbel) | replace W := Lib.hid (((W.out.drewN _).alloc _).below hbel) | replace W := Lib.hid (((W.out.alloc _).drewN _).below hbel) | replace W := Lib.hid ((((W.out.alloc _).alloc _).drewN _).below hbel) | replace W := Lib.hid ((((W.out.alloc _).alloc _).alloc _).below hbel) | replace W := Lib.hid ((((W.out.drewN _).alloc _).alloc _).below hbel)); replace K := Lib.hid (K.out.sl hbs); clear hbel; have hkc : (k : Int) ≤ (cl : Int) := (by omega); have hkc2 : k ≤ cl := (by omega); clear hcl hbs; have gg0 := (K.out.at (.head _)).cell 0; have gg1 := (K.out.at (.head _)).cell 1; have gg2 := (K.out.at (.head _)).cell 2; simp only [List.getElem?_toArray, List.getElem?_cons_succ, List.getElem?_cons_zero] at gg0 gg1 gg2)
    | (go_at_call 13; (with_reducible refine (PK.out _ _ _ _ _ ?_ ?_).mono ?_); (first | exact K.out.sat (.tail _ (.head _)) | exact (K.out.alloc _).sat (.tail _ (.head _)) | exact ((K.out.alloc _).alloc _).sat (.tail _ (.head _)) | exact (((K.out.alloc _).alloc _).alloc _).sat (.tail _ (.head _)) | exact (K.out.drewN _).sat (.tail _ (.head _)) | exact ((K.out.drewN _).alloc _).sat (.tail _ (.head _)) | exact ((K.out.alloc _).drewN _).sat (.tail _ (.head _))); (first | exact K.out.sat (.head _) | exact (K.out.alloc _).sat (.head _) | exact ((K.out.alloc _).alloc _).sat (.head _) | exact (((K.out.alloc _).alloc _).alloc _).sat (.head _) | exact (K.out.drewN _).sat (.head _) | exact ((K.out.drewN _).alloc _).sat (.head _) | exact ((K.out.alloc _).drewN _).sat (.head _)); rintro e w3 ⟨Ap, cp, rfl, hbs, hbel⟩; (first | replace K := Lib.hid (K.out.below hbel) | replace K := Lib.hid ((K.out.alloc _).below hbel) | replace K := Lib.hid (((K.out.alloc _).alloc _).below hbel) | replace K := Lib.hid ((K.out.drewN _).below hbel) | replace K := Lib.hid (((K.out.drewN _).alloc _).below hbel) | replace K := Lib.hid (((K.out.alloc _).drewN _).below hbel) | replace K := Lib.hid ((((K.out.alloc _).alloc _).drewN _).below hbel) | replace K := Lib.hid ((((K.out.alloc _).alloc _).alloc _).below hbel) | replace K := Lib.hid ((((K.out.drewN _).alloc _).alloc _).below hbel)); (first | replace W := Lib.hid (W.out.below hbel) | replace W := Lib.hid ((W.out.alloc _).below hbel) | replace W := Lib.hid (((W.out.alloc _).alloc _).below hbel) | replace W := Lib.hid ((W.out.drewN _).below hbel) | replace W := Lib.hid (((W.out.drewN _).alloc _).below hbel) | replace W := Lib.hid (((W.out.alloc _).drewN _).below hbel) | replace W := Lib.hid ((((W.out.alloc _).alloc _).drewN _).below hbel) | replace W := Lib.hid ((((W.out.alloc _).alloc _).alloc _).below hbel) | replace W := Lib.hid ((((W.out.drewN _).alloc _).alloc _).below hbel)); replace K := Lib.hid (K.out.sl hbs); replace K := Lib.hid ((K.out.alloc (.cells #[.int .i64 k, .int .i64 k, .slice Ap kk cp] 24)).blk (Blk.new w3 #[.int .i64 k, .int .i64 k, .slice Ap kk cp] 24)); replace W := Lib.hid (W.out.alloc (.cells #[.int .i64 k, .int .i64 k, .slice Ap kk cp] 24)); clear hbel; clear gg0 gg1 gg2 hbs; have pp0 := (K.out.at (.head _)).cell 0; have pp1 := (K.out.at (.head _)).cell 1; have pp2 := (K.out.at (.head _)).cell 2; simp only [List.getElem?_toArray, List.getElem?_cons_succ, List.getElem?_cons_zero] at pp0 pp1 pp2)
    | (go_at_call 11; (with_reducible refine (IV.out _ _ _ ?_).mono ?_); (first | exact K.out.sat (.head _) | exact (K.out.alloc _).sat (.head _) | exact ((K.out.alloc _).alloc _).sat (.head _) | exact (((K.out.alloc _).alloc _).alloc _).sat (.head _) | exact (K.out.drewN _).sat (.head _) | exact ((K.out.drewN _).alloc _).sat (.head _) | exact ((K.out.alloc _).drewN _).sat (.head _)); rintro e w4 ⟨Av, cv, rfl, hbs, hbel⟩; (first | replace K := Lib.hid (K.out.below hbel) | replace K := Lib.hid ((K.out.alloc _).below hbel) | replace K := Lib.hid (((K.out.alloc _).alloc _).below hbel) | replace K := Lib.hid ((K.out.drewN _).below hbel) | replace K := Lib.hid (((K.out.drewN _).alloc _).below hbel) | replace K := Lib.hid (((K.out.alloc _).drewN _).below hbel) | replace K := Lib.hid ((((K.out.alloc _).alloc _).drewN _).below hbel) | replace K := Lib.hid ((((K.out.alloc _).alloc _).alloc _).below hbel) | replace K := Lib.hid ((((K.out.drewN _).alloc _).alloc _).below hbel)); (first | replace W := Lib.hid (W.out.below hbel) | replace W := Lib.hid ((W.out.alloc _).below hbel) | replace W := Lib.hid (((W.out.alloc _).alloc _).below hbel) | replace W := Lib.hid ((W.out.drewN _).below hbel) | replace W := Lib.hid (((W.out.drewN _).alloc _).below hbel) | replace W := Lib.hid (((W.out.alloc _).drewN _).below hbel) | replace W := Lib.hid ((((W.out.alloc _).alloc _).drewN _).below hbel) | replace W := Lib.hid ((((W.out.alloc _).alloc _).alloc _).below hbel) | replace W := Lib.hid ((((W.out.drewN _).alloc _).alloc _).below hbel)); replace K := Lib.hid (K.out.sl hbs); replace K := Lib.hid ((K.out.alloc (.cells #[.int .i64 k, .int .i64 k, .slice Av kk cv] 24)).blk (Blk.new w4 #[.int .i64 k, .int .i64 k, .slice Av kk cv] 24)); replace W := Lib.hid (W.out.alloc (.cells #[.int .i64 k, .int .i64 k, .slice Av kk cv] 24)); clear hbel; clear pp0 pp1 pp2 hbs))
  have DR : Hid (DecW (w4.alloc (.cells #[.int .i64 k, .int .i64 k, .slice Av kk cv] 24)) w4.heap.size k A n c Al cl Av cv V ls Ls) := ⟨by rw [HKK.out]; exact K.out.at (.head _), HR.out.below W.out, K.out.sat (.tail _ (.tail _ (.head _))), by rw [HLV.out]; exact K.out.sat (.head _)⟩
  have B4 : Hid (Below w.heap.size w (w4.alloc (.cells #[.int .i64 k, .int .i64 k, .slice Av kk cv] 24))) := W.out
  clear GE FD PK IV K W
  generalize hW4 : (w4.alloc (.cells #[.int .i64 k, .int .i64 k, .slice Av kk cv] 24)) = W4 at *
  clear hW4
  have M0 : Hid (MadeR W4 W4 none 0 0 []) := ⟨World.ownsRow_nil _ _ _ _, Grid.nil _ _, Below.refl _ _⟩
  go_loopw [18, 19] (fun u v wr => ∃ (i : Nat) (rs : List Row) (A5 : Option Addr) (c5 : Nat), i ≤ k ∧ v = .int .i64 i ∧ u = .slice A5 i c5 ∧ lsts rs = D.take i ∧ MadeR W4 wr A5 i c5 rs) (fun _ v _ => k - (intOf v).toNat)
  case atStart => exact ⟨0, [], none, 0, Nat.zero_le _, rfl, rfl, rfl, M0.out⟩
  case round =>
    clear M0
    obtain ⟨i, rs, A5, c5, hi, rfl, rfl, hls, hmr⟩ := hrel
    have HLS := Lib.hid hls
    have MR := Lib.hid hmr
    clear hls hmr
    by_cases hlt : i < k
    · have CI := Lib.hid (DAT.out i hlt)
      have DRi := Lib.hid (DR.out.below MR.out.bel)
      have hit : (i : Int) < (k : Int) := by omega
      go_wp2
      go_loopw [20, 21] (fun u v wi => ∃ (x : Nat) (A8 : Option Addr) (c8 : Nat), x ≤ Len ∧ v = .int .i64 x ∧ u = .slice A8 x c8 ∧ wi.ownsRow wr.heap.size 5 1 (.slice A8 x c8) x ((tab x fun y => dS (V i) ls Ls k y).map bv) ∧ Below wr.heap.size wr wi) (fun _ v _ => Len - (intOf v).toNat)
      case atStart => exact ⟨0, none, 0, Nat.zero_le _, rfl, rfl, World.ownsRow_nil _ _ _ _, Below.refl _ _⟩
      case round =>
        rename World => wi
        obtain ⟨x, A8, c8, hx, rfl, rfl, ho, hbel⟩ := hrel
        have HO := Lib.hid ho
        have HB := Lib.hid hbel
        clear ho hbel
        have Di := DRi.out.below HB.out
        obtain ⟨z0, hz0⟩ : ∃ z, Ls.getD 0 0 = z := ⟨_, rfl⟩
        have hr0 := RW.out 0 (by omega)
        rw [hz0] at hr0
        obtain ⟨bl, ol, hAl, _, hcl⟩ := Sl.at' Di.l (by unfold nvs; rw [List.length_map, HL.out]; omega)
        subst hAl
        have y1 := hcl 0 (.int .i64 z0) (by unfold nvs; rw [List.getElem?_map, List.getElem?_eq_getElem (by rw [HL.out]; omega), ← hz0, List.getD_eq_getElem?_getD, List.getElem?_eq_getElem (by rw [HL.out]; omega)]; rfl)
        rw [Nat.add_zero] at y1
        obtain ⟨bs, os, A2, c2, hA, y2, _⟩ := Di.r.get (i := z0) (by rw [HN.out]; exact hr0.1)
        subst hA
        rw [hr0.2] at y2
        have hzt : (z0 : Int) < (n : Int) := by omega
        have h0k : (0 : Int) < (k : Int) := by omega
        clear hr0 hz0 hcl Di
        by_cases hlx : x < Len
        · have hxt : (x : Int) < (Len : Int) := by omega
          go_wp2
          clear y1 y2
          go_loopw [22, 23] (fun u v wj => ∃ t : Nat, t ≤ k ∧ v = .int .i64 t ∧ u = .int .u8 (dS (V i) ls Ls t x).n ∧ wj.ownsRow wr.heap.size 5 1 (.slice A8 x c8) x ((tab x fun y => dS (V i) ls Ls k y).map bv) ∧ Below wr.heap.size wr wj) (fun _ v _ => k - (intOf v).toNat)
          case atStart => exact ⟨0, Nat.zero_le _, rfl, rfl, HO.out, HB.out⟩
          case round =>
            rename World => wj
            clear HO HB
            obtain ⟨t, ht, rfl, rfl, ho, hbel⟩ := hrel
            have HO := Lib.hid ho
            have HB := Lib.hid hbel
            clear ho hbel
            by_cases hlk : t < k
            · have htt : (t : Int) < (k : Int) := by omega
              have Dj := DRi.out.below HB.out
              have q2 := Dj.k17.cell 2
              simp only [List.getElem?_toArray, List.getElem?_cons_succ, List.getElem?_cons_zero] at q2
              rw [HKK.out] at q2
              obtain ⟨z, hz⟩ : ∃ z, Ls.getD t 0 = z := ⟨_, rfl⟩
              have hrt := RW.out t hlk
              rw [hz] at hrt
              obtain ⟨bl', ol', hA1, _, hcl⟩ := Sl.at' Dj.l (by unfold nvs; rw [List.length_map, HL.out]; omega)
              injection hA1 with hA1
              obtain ⟨rfl, rfl⟩ : bl = bl' ∧ ol = ol' := by injection hA1 with e1 e2; exact ⟨e1, e2⟩
              have y1 := hcl t (.int .i64 z) (by unfold nvs; rw [List.getElem?_map, List.getElem?_eq_getElem (by rw [HL.out]; exact hlk), ← hz, List.getD_eq_getElem?_getD, List.getElem?_eq_getElem (by rw [HL.out]; exact hlk)]; rfl)
              obtain ⟨bs', os', A3, c3, hA', y2, h3⟩ := Dj.r.get (i := z) (by rw [HN.out]; exact hrt.1)
              injection hA' with hA'
              obtain ⟨rfl, rfl⟩ : bs = bs' ∧ os = os' := by injection hA' with e1 e2; exact ⟨e1, e2⟩
              rw [hrt.2] at y2
              obtain ⟨b3, o3, hA3, _, hc3⟩ := Bs.at' h3 (by have := hrt.2; unfold lenAt at this; omega)
              subst hA3
              have y4 := hc3 x (by have := hrt.2; unfold lenAt at this; omega)
              obtain ⟨hlo, hval⟩ := LOV.out i t hlt hlk
              have hv0 := Dj.v
              rw [HLV.out] at hv0
              obtain ⟨bv', ov, hAv, _, hcv⟩ := Bs.at' hv0 (by rw [LV.out]; omega)
              subst hAv
              have y3 := hcv (i * k + t) (by rw [LV.out]; exact hlo)
              rw [hval] at y3
              have hzn : (z : Int) < (n : Int) := by omega
              have e1 : (i : Int) * (k : Int) = ((i * k : Nat) : Int) := by simp
              have w1 : IntKind.i64.wrap ((i : Int) * (k : Int)) = ((i * k : Nat) : Int) := by rw [e1, IntKind.wrap_i64]; omega
              have w2 : IntKind.i64.wrap (((i * k : Nat) : Int) + (t : Int)) = ((i * k + t : Nat) : Int) := by rw [IntKind.wrap_i64]; omega
              have hlo2 : ((i * k + t : Nat) : Int) < (kk : Int) := by omega
              have SU : Hid (dS (V i) ls Ls (t + 1) x = dS (V i) ls Ls t x + V i t * at2 ls z x) := by show _ = _; rw [dS_succ, hz]
              have y5 : wj.cell? ⟨b3, o3 + x, none⟩ = some (.int .u8 ((at2 ls z x).n : Int)) := y4
              clear e1 hcl hA1 hA' h3 hc3 hcv hval hv0 hz hrt y4 Dj
              generalize i * k = ik at *
              generalize dS (V i) ls Ls t x = acc at *
              generalize V i t = vv at *
              generalize at2 ls z x = yy at *
              have hxor := xor_n acc (vv * yy)
              go_wp2
              go_quiet ((go_at_call 28; exact Calls.quiet_of_same ((ref_mul _ _ _).mono fun e w' h => ⟨h.1, h.2.symm⟩)))
              go_wp2
              go_roundw
              case rel => exact ⟨t + 1, by omega, by go_num, by rw [SU.out], own_below HO.out (below_drew0 _ _), below_drewN HB.out _⟩
              case measure => simp [intOf]; omega
            · obtain rfl : t = k := by omega
              have htt : ¬ (t : Int) < (t : Int) := by omega
              have TS : Hid ((tab (x + 1) fun y => dS (V i) ls Ls t y) = (tab x fun y => dS (V i) ls Ls t y) ++ [dS (V i) ls Ls t x]) := tab_succ' _ _
              go_wp2_with (at_builtin; refine app_bytes _ rfl _ _ rfl wr.heap.size A8 c8 x (tab x fun y => dS (V i) ls Ls t y) rfl (HO.out.alloc _) _ _ 1 [dS (V i) ls Ls t x] rfl (lit_bs rfl rfl rfl (by decide)) rfl (by omega) ?hb ?_; (case hb => exact Nat.le_trans HB.out.size (by simp)); intro A9 c9 w9 hown9 hb9; have HO9 := Lib.hid hown9; have HB9 : Hid (Below wr.heap.size wr w9) := (HB.out.alloc HB.out.size _).trans hb9; clear hown9 hb9)
              go_roundw
              case rel => exact ⟨x + 1, A9, c9, by omega, by go_num, rfl, by rw [TS.out]; exact HO9.out, HB9.out⟩
              case measure => simp [intOf]; omega
        · obtain rfl : x = Len := by omega
          have hxt : ¬ (x : Int) < (x : Int) := by omega
          have TL : Hid ((tab x fun y => dS (V i) ls Ls k y).length = x) := length_tab _ _
          generalize (tab x fun y => dS (V i) ls Ls k y) = row at *
          go_wp2_with (at_builtin; refine app_spine _ rfl _ _ rfl W4.heap.size A5 c5 i (vals rs) rfl (own_below MR.out.sp (HB.out.trans ((below_alloc _ _).mono HB.out.size))) _ 1 (.slice A8 x c8) rfl (lit_row _ rfl) rfl (by omega) ?hb ?_; (case hb => exact Nat.le_trans MR.out.bel.size (Nat.le_trans HB.out.size (by simp))); intro A7 c7 w7 ho7 hg7; have HO7 := Lib.hid ho7; have HG7 := Lib.hid hg7; clear ho7 hg7)
          go_roundw
          case rel =>
            have hv : rowV (A8, c8, row) = .slice A8 x c8 := by unfold rowV; rw [TL.out]
            have ho : ownR wi wr.heap.size (A8, c8, row) := by unfold ownR; rw [hv, TL.out]; exact HO.out
            refine ⟨i + 1, rs ++ [(A8, c8, row)], A7, c7, by omega, by go_num, rfl, ?_, MR.out.push HB.out ho (.cells #[.slice A8 x c8] 22) (by rw [hv]; exact HO7.out) HG7.out⟩
            rw [lsts_append, HLS.out, List.take_add_one, CI.out]; rfl
          case measure => simp [intOf]; omega
    · obtain rfl : i = k := by omega
      have hit : ¬ (i : Int) < (i : Int) := by omega
      have hal : lsts rs = D := by rw [HLS.out, List.take_of_length_le (by rw [DLN.out]; exact Nat.le_refl _)]
      have RD := Lib.hid (MR.out.rr hal)
      have BE := Lib.hid (B4.out.trans (MR.out.bel.mono B4.out.size))
      clear hal
      go_wp2_with (go_at_call 43; (with_reducible refine (EN.out _ _ _ RD.out).mono ?_); rintro e w8 ⟨Ax, cx, rfl, hx, hb8⟩; have HX := Lib.hid hx; have HB8 := Lib.hid (BE.out.trans (hb8.mono BE.out.size)); clear hx hb8)
      go_ret2
      exact ⟨Ax, cx, rfl, HX.out, HB8.out⟩
/-! Erw -/
set_option maxRecDepth 1000000 in
set_option maxHeartbeats 2000000 in
theorem ref07_bad (k m : Int) (Ah : Option Addr) (nh ch : Nat) (A : Option Addr) (n c : Nat) (w : World) (hk : i64ok k) (hm : i64ok m) (hkm : ¬ okkm k m) :
    Calls Try.prog 22 #[.int .i64 k, .int .i64 m, .slice Ah nh ch, .slice A n c] w fun e w' => e = .returned (.tuple #[.slice none 0 0, .int .i64 50]) ∧ Below w.heap.size w w' := by
  have GE : Hid (∀ w, Calls Try.prog 41 #[.int .i64 k, .int .i64 m] w fun e w' => e = .returned (.tuple #[noMat, .int .i64 50]) ∧ Below w.heap.size w w') := fun w => ref05_bad_Generator k m hk hm hkm w
  clear hk hm hkm
  unfold noMat at GE
  have W := Lib.hid (Since.refl w)
  go_enter Try.func22, Try.ntmps22
  go_wp2_with (go_at_call 41; (with_reducible refine (GE.out _).mono ?_); rintro e w1 ⟨rfl, hb1⟩; replace W := Lib.hid (W.out.below hb1); clear hb1)
  go_ret2
  exact ⟨rfl, W.out.alloc _⟩
set_option maxRecDepth 1000000 in
set_option maxHeartbeats 2000000 in
theorem ref07_len (k m : Nat) (Ah : Option Addr) (nh ch : Nat) (A : Option Addr) (n c : Nat) (w : World) (hkm : okkm k m) (hn : ¬ ((nh : Int) = (k : Int) + (m : Int) ∧ (n : Int) = (k : Int) + (m : Int))) :
    Calls Try.prog 22 #[.int .i64 k, .int .i64 m, .slice Ah nh ch, .slice A n c] w fun e w' => e = .returned (.tuple #[.slice none 0 0, .int .i64 60]) ∧ Below w.heap.size w w' := by
  have GE : Hid (∀ w', Calls Try.prog 41 #[.int .i64 k, .int .i64 m] w' fun e w'' => ∃ A' c', e = .returned (.tuple #[.agg #[.int .i64 ((k : Int) + (m : Int)), .int .i64 (k : Int), .slice A' ((k + m) * k) c'], .int .i64 0]) ∧ Below w'.heap.size w' w'') := fun w' => (ref05_Generator k m hkm w').mono fun e w'' ⟨A', c', he, ho, hb⟩ => ⟨A', c', he, hb⟩
  obtain ⟨gk, hgk⟩ : ∃ gk, (k + m) * k = gk := ⟨_, rfl⟩
  rw [hgk] at GE
  obtain ⟨g1, g2, g3⟩ := id hkm
  have hkb : k + m ≤ 256 := by omega
  clear hkm g1 g2 g3 hgk
  by_cases h1 : (nh : Int) = (k : Int) + (m : Int)
  · have dh0 : ((nh : Int) == (k : Int) + (m : Int)) = true := by rw [beq_iff_eq]; exact h1
    have dh1 : ((nh : Int) != (k : Int) + (m : Int)) = false := by rw [bne_eq_false_iff_eq]; exact h1
    have h2 : ¬ (n : Int) = (k : Int) + (m : Int) := fun e => hn ⟨h1, e⟩
    have dn0 : ((n : Int) == (k : Int) + (m : Int)) = false := by rw [beq_eq_false_iff_ne]; exact h2
    have dn1 : ((n : Int) != (k : Int) + (m : Int)) = true := by rw [bne_iff_ne]; exact h2
    clear h1 h2 hn
    have W := Lib.hid (Since.refl w)
    go_enter Try.func22, Try.ntmps22
    go_wp2_with (go_at_call 41; (with_reducible refine (GE.out _).mono ?_); rintro e w1 ⟨Ag, cg, rfl, hb1⟩; replace W := Lib.hid (W.out.below hb1); replace W := Lib.hid (W.out.alloc (.cells #[.int .i64 ((k : Int) + (m : Int)), .int .i64 k, .slice Ag gk cg] 24)); clear hb1)
    go_ret2
    exact ⟨rfl, W.out⟩
  · have dh0 : ((nh : Int) == (k : Int) + (m : Int)) = false := by rw [beq_eq_false_iff_ne]; exact h1
    have dh1 : ((nh : Int) != (k : Int) + (m : Int)) = true := by rw [bne_iff_ne]; exact h1
    clear h1 hn
    have W := Lib.hid (Since.refl w)
    go_enter Try.func22, Try.ntmps22
    go_wp2_with (go_at_call 41; (with_reducible refine (GE.out _).mono ?_); rintro e w1 ⟨Ag, cg, rfl, hb1⟩; replace W := Lib.hid (W.out.below hb1); replace W := Lib.hid (W.out.alloc (.cells #[.int .i64 ((k : Int) + (m : Int)), .int .i64 k, .slice Ag gk cg] 24)); clear hb1)
    go_ret2
    exact ⟨rfl, W.out⟩
set_option maxRecDepth 1000000 in
set_option maxHeartbeats 2000000 in
theorem ref07_unlike (k m n nl : Nat) (Ah : Option Addr) (ch : Nat) (A : Option Addr) (c : Nat) (w : World) (hkm : okkm k m) (hn : n = k + m) (hFD : ∀ w', Below w.heap.size w w' → Calls Try.prog 42 #[.slice Ah n ch, .slice A n c] w' fun e w'' => ∃ A' c', e = .returned (.tuple #[.slice A' nl c', .bool false]) ∧ Below w'.heap.size w' w'') :
    Calls Try.prog 22 #[.int .i64 k, .int .i64 m, .slice Ah n ch, .slice A n c] w fun e w' => e = .returned (.tuple #[.slice none 0 0, .int .i64 60]) ∧ Below w.heap.size w w' := by
  have FD := Lib.hid hFD
  have GE : Hid (∀ w', Calls Try.prog 41 #[.int .i64 k, .int .i64 m] w' fun e w'' => ∃ A' c', e = .returned (.tuple #[.agg #[.int .i64 ((k : Int) + (m : Int)), .int .i64 (k : Int), .slice A' ((k + m) * k) c'], .int .i64 0]) ∧ Below w'.heap.size w' w'') := fun w' => (ref05_Generator k m hkm w').mono fun e w'' ⟨A', c', he, ho, hb⟩ => ⟨A', c', he, hb⟩
  obtain ⟨gk, hgk⟩ : ∃ gk, (k + m) * k = gk := ⟨_, rfl⟩
  rw [hgk] at GE
  obtain ⟨g1, g2, g3⟩ := id hkm
  have hkb : k + m ≤ 256 := by omega
  have dn0 : ((n : Int) == (k : Int) + (m : Int)) = true := by rw [beq_iff_eq]; omega
  have dn1 : ((n : Int) != (k : Int) + (m : Int)) = false := by rw [bne_eq_false_iff_eq]; omega
  clear hkm g1 g2 g3 hgk hn hFD
  have W := Lib.hid (Since.refl w)
  go_enter Try.func22, Try.ntmps22
  go_wp2_with (first
    | (go_at_call 41; (with_reducible refine (GE.out _).mono ?_); rintro e w1 ⟨Ag, cg, rfl, hb1⟩; replace W := Lib.hid (W.out.below hb1); replace W := Lib.hid (W.out.alloc (.cells #[.int .i64 ((k : Int) + (m : Int)), .int .i64 k, .slice Ag gk cg] 24)); clear hb1)
    | (go_at_call 42; (with_reducible refine (FD.out _ ?_).mono ?_); (first | exact W.out | exact W.out.alloc _ | exact W.out.drewN _); rintro e w2 ⟨A2, c2, rfl, hb2⟩; replace W := Lib.hid (W.out.below hb2); clear hb2))
  go_ret2
  exact ⟨rfl, W.out⟩
set_option maxRecDepth 1000000 in
set_option maxHeartbeats 2000000 in
theorem ref07_few (k m n nl : Nat) (Ah : Option Addr) (ch : Nat) (A : Option Addr) (c : Nat) (w : World) (hkm : okkm k m) (hn : n = k + m) (hf : nl < k) (hFD : ∀ w', Below w.heap.size w w' → Calls Try.prog 42 #[.slice Ah n ch, .slice A n c] w' fun e w'' => ∃ A' c', e = .returned (.tuple #[.slice A' nl c', .bool true]) ∧ Below w'.heap.size w' w'') :
    Calls Try.prog 22 #[.int .i64 k, .int .i64 m, .slice Ah n ch, .slice A n c] w fun e w' => e = .returned (.tuple #[.slice none 0 0, .int .i64 70]) ∧ Below w.heap.size w w' := by
  have FD := Lib.hid hFD
  have GE : Hid (∀ w', Calls Try.prog 41 #[.int .i64 k, .int .i64 m] w' fun e w'' => ∃ A' c', e = .returned (.tuple #[.agg #[.int .i64 ((k : Int) + (m : Int)), .int .i64 (k : Int), .slice A' ((k + m) * k) c'], .int .i64 0]) ∧ Below w'.heap.size w' w'') := fun w' => (ref05_Generator k m hkm w').mono fun e w'' ⟨A', c', he, ho, hb⟩ => ⟨A', c', he, hb⟩
  obtain ⟨gk, hgk⟩ : ∃ gk, (k + m) * k = gk := ⟨_, rfl⟩
  rw [hgk] at GE
  obtain ⟨g1, g2, g3⟩ := id hkm
  have hkb : k + m ≤ 256 := by omega
  have dn0 : ((n : Int) == (k : Int) + (m : Int)) = true := by rw [beq_iff_eq]; omega
  have dn1 : ((n : Int) != (k : Int) + (m : Int)) = false := by rw [bne_eq_false_iff_eq]; omega
  have hnk : (nl : Int) < (k : Int) := by omega
  clear hkm g1 g2 g3 hgk hn hFD
  have W := Lib.hid (Since.refl w)
  go_enter Try.func22, Try.ntmps22
  go_wp2_with (first
    | (go_at_call 41; (with_reducible refine (GE.out _).mono ?_); rintro e w1 ⟨Ag, cg, rfl, hb1⟩; replace W := Lib.hid (W.out.below hb1); replace W := Lib.hid (W.out.alloc (.cells #[.int .i64 ((k : Int) + (m : Int)), .int .i64 k, .slice Ag gk cg] 24)); clear hb1)
    | (go_at_call 42; (with_reducible refine (FD.out _ ?_).mono ?_); (first | exact W.out | exact W.out.alloc _ | exact W.out.drewN _); rintro e w2 ⟨A2, c2, rfl, hb2⟩; replace W := Lib.hid (W.out.below hb2); clear hb2))
  go_ret2
  exact ⟨rfl, W.out⟩
theorem ref07_out (k m : Int) (has : List Bool) (ls X : List (List F)) (E : Int) (hk : i64ok k) (hm : i64ok m) (hl : ∀ l, l ∈ ls → l.length ≤ 100000) (hX : DecCase k m has ls X E) :
    ∀ Ah ch A c w, Sl w Ah ch (has.map Value.bool) → Rr w A c ls → Calls Try.prog 22 #[.int .i64 k, .int .i64 m, .slice Ah has.length ch, .slice A ls.length c] w (ShR w X E) := by
  have key : ∀ X' E', DecCase k m has ls X' E' → E' = E ∧ X' = X := fun X' E' h => h.same hX rfl (fun _ _ => rfl) fun _ _ _ _ => rfl
  intro Ah ch A c w h1 h2
  by_cases hkm : okkm k m
  rotate_left
  · obtain ⟨rfl, rfl⟩ := key [] 50 (.inl ⟨hkm, rfl, rfl⟩)
    exact (ref07_bad k m Ah _ ch A _ c w hk hm hkm).mono fun e w' ⟨he, hb⟩ => by rw [he]; exact shr_nil 50 hb
  obtain ⟨k, m, rfl, rfl⟩ := okkm_nat hkm
  obtain ⟨g1, g2, g3⟩ := id hkm
  by_cases hn : (has.length : Int) = (k : Int) + (m : Int) ∧ (ls.length : Int) = (k : Int) + (m : Int)
  rotate_left
  · obtain ⟨rfl, rfl⟩ := key [] 60 (.inr (.inl ⟨hkm, hn, rfl, rfl⟩))
    exact (ref07_len k m Ah _ ch A _ c w hkm hn).mono fun e w' ⟨he, hb⟩ => by rw [he]; exact shr_nil 60 hb
  have hn1 : has.length = k + m := by omega
  have hn2 : ls.length = k + m := by omega
  have TH : ∀ w', Below w.heap.size w w' → Calls Try.prog 42 #[.slice Ah (k + m) ch, .slice A (k + m) c] w' fun e w'' => ∃ (L : List Nat) (v : Value), ((¬ SameL has ls (k + m) ∧ v = .bool false ∧ L = []) ∨ (SameL has ls (k + m) ∧ v = .bool true ∧ L = idx has (k + m))) ∧ ∃ A' c', e = .returned (.tuple #[.slice A' L.length c', v]) ∧ Sl w'' A' c' (nvs L) ∧ Below w'.heap.size w' w'' := fun w' hw => ref07_there Ah ch has A c ls (k + m) w' (h1.below hw) (h2.below hw) hn1 hn2 (by omega)
  by_cases hs : SameL has ls has.length
  rotate_left
  · obtain ⟨rfl, rfl⟩ := key [] 60 (.inr (.inr (.inl ⟨hkm, hn, hs, rfl, rfl⟩)))
    rw [hn1] at hs
    rw [hn1, hn2]
    refine (ref07_unlike k m (k + m) 0 Ah ch A c w hkm rfl fun w' hw => (TH w' hw).mono ?_).mono fun e w' ⟨he, hb⟩ => by rw [he]; exact shr_nil 60 hb
    rintro e w'' ⟨L, v, ⟨_, rfl, rfl⟩ | ⟨h, _⟩, A', c', he, h3, hb⟩
    · exact ⟨A', c', he, hb⟩
    · exact absurd h hs
  have hs' := hs
  rw [hn1] at hs'
  by_cases hc : k ≤ (idx has has.length).length
  rotate_left
  · obtain ⟨rfl, rfl⟩ := key [] 70 (.inr (.inr (.inr (.inl ⟨hkm, hn, hs, by omega, rfl, rfl⟩))))
    rw [hn1, hn2]
    rw [hn1] at hc
    refine (ref07_few k m (k + m) (idx has (k + m)).length Ah ch A c w hkm rfl (by omega) fun w' hw => (TH w' hw).mono ?_).mono fun e w' ⟨he, hb⟩ => by rw [he]; exact shr_nil 70 hb
    rintro e w'' ⟨L, v, ⟨h, _⟩ | ⟨_, rfl, rfl⟩, A', c', he, h3, hb⟩
    · exact absurd hs' h
    · exact ⟨A', c', he, hb⟩
  have hL := fst_len (k := k) hc
  have hlt : ∀ x, x ∈ fst k has → x < k + m := fun x hx => by rw [← hn1]; exact fst_lt hx
  have hgi : ∀ i, i < k → (fst k has).getD i 0 ∈ fst k has := fun i hi => getD_mem (by omega)
  have hrow : ∀ i, i < k → lenAt ls ((fst k has).getD i 0) = lenAt ls ((fst k has).getD 0 0) := fun i hi => hs _ _ (fst_mem (hgi i hi)) (fst_mem (hgi 0 (by omega)))
  obtain ⟨Len, hLen⟩ : ∃ Len, lenAt ls ((fst k has).getD 0 0) = Len := ⟨_, rfl⟩
  rw [hLen] at hrow
  have hLb : Len ≤ 100000 := by
    have h0 := hlt _ (hgi 0 (by omega))
    rw [← hLen]
    unfold lenAt
    rw [List.getD_eq_getElem?_getD (l := ls), List.getElem?_eq_getElem (by omega)]
    exact hl _ (List.getElem_mem _)
  obtain ⟨V, hV⟩ := pk_inv (k := k) (Ls := fst k has) (by omega) hL (fst_nodup k has) fun x hx => by have := hlt x hx; omega
  obtain ⟨rfl, rfl⟩ := key (enc k m (decD k Len V ls (fst k has))) 0 (.inr (.inr (.inr (.inr ⟨hkm, hn, hs, by omega, rfl, decD k Len V ls (fst k has), Len, eql_decD _ _ _ _ _, rfl, hLb, hrow, fun i hi x hx => dec_agree hV (by omega) (fun i hi => hlt _ (hgi i hi)) hi hx⟩))))
  rw [hn1, hn2]
  rw [hn1] at hc
  refine ref07_main k m (k + m) (idx has (k + m)).length Ah ch has A c ls w hkm h2 (fst k has) Len V hV rfl hn2 hL hc hlt hrow hLb fun w' hw => (TH w' hw).mono ?_
  rintro e w'' ⟨L, v, ⟨h, _⟩ | ⟨_, rfl, rfl⟩, A', c', he, h3, hb⟩
  · exact absurd hs' h
  · refine ⟨A', c', he, ?_, by have := h3.le; rwa [List.length_map] at this, hb⟩
    have := h3.take k
    unfold nvs at this ⊢
    rw [← List.map_take] at this
    unfold fst
    rw [hn1]
    exact this
/-! Law07g -/
set_option maxRecDepth 1000000 in
set_option maxHeartbeats 4000000 in
theorem walk_EraseDecodes {w : World} (k : Int) (hk : -9223372036854775808 ≤ k ∧ k ≤ 9223372036854775807) (m : Int) (hm : -9223372036854775808 ≤ m ∧ m ≤ 9223372036854775807) (Al : Option Addr) (cl : Nat) (has : List Bool) (hh : Sl w Al cl (has.map Value.bool)) (Aa : Option Addr) (ca : Nat) (la : List (List F)) (ha : Rr w Aa ca la) :
    Calls Try.prog 4 #[.int .i64 k, .int .i64 m, .slice Al has.length cl, .slice Aa la.length ca] w fun e w' => e = .returned (.bool true) ∧ Below w.heap.size w w' := by
  have HH := Lib.hid hh
  clear hh
  by_cases hf : FewP k m la
  rotate_left
  · have FW : Hid (∀ A c w, Rr w A c la → Calls Try.prog 20 #[.int .i64 k, .int .i64 m, .slice A la.length c] w fun e w' => e = .returned (.bool false) ∧ Below w.heap.size w w') := fun A c w h => few_any k m A c la false w hk hm h (by simp [hf])
    clear hf
    have K := Lib.hid (Lk.start w)
    replace K := Lib.hid (K.out.rr' ha)
    clear ha
    go_enter Try.func4, Try.ntmps4
    go_wp2_with (first
      | (go_at_call 19; (with_reducible refine (awake7 _).mono ?_); rintro e w1 ⟨rfl, hbel⟩; (first | replace K := Lib.hid (K.out.below hbel) | replace K := Lib.hid ((K.out.alloc _).below hbel) | replace K := Lib.hid (((K.out.alloc _).alloc _).below hbel) | replace K := Lib.hid ((((K.out.alloc _).alloc _).alloc _).below hbel) | replace K := Lib.hid (((((K.out.alloc _).alloc _).alloc _).alloc _).below hbel) | replace K := Lib.hid (K.out.drew.below hbel) | replace K := Lib.hid ((K.out.drewN _).below hbel)); clear hbel)
      | (go_at_call 6; (with_reducible refine (new_any _).mono ?_); rintro e w2 ⟨rfl, hbel, hg⟩; (first | replace K := Lib.hid (K.out.below hbel) | replace K := Lib.hid ((K.out.alloc _).below hbel) | replace K := Lib.hid (((K.out.alloc _).alloc _).below hbel) | replace K := Lib.hid ((((K.out.alloc _).alloc _).alloc _).below hbel) | replace K := Lib.hid (((((K.out.alloc _).alloc _).alloc _).alloc _).below hbel) | replace K := Lib.hid (K.out.drew.below hbel) | replace K := Lib.hid ((K.out.drewN _).below hbel)); clear hbel; replace K := Lib.hid (K.out.withF hg); clear hg)
      | (go_at_call 20; (with_reducible refine (FW.out _ _ _ ?_).mono ?_); (first | exact K.out.at (.head _) | exact (K.out.alloc _).at (.head _) | exact ((K.out.alloc _).alloc _).at (.head _) | exact (((K.out.alloc _).alloc _).alloc _).at (.head _) | exact ((((K.out.alloc _).alloc _).alloc _).alloc _).at (.head _) | exact K.out.drew.at (.head _) | exact (K.out.drewN _).at (.head _)); rintro e w3 ⟨rfl, hbel⟩; (first | replace K := Lib.hid (K.out.below hbel) | replace K := Lib.hid ((K.out.alloc _).below hbel) | replace K := Lib.hid (((K.out.alloc _).alloc _).below hbel) | replace K := Lib.hid ((((K.out.alloc _).alloc _).alloc _).below hbel) | replace K := Lib.hid (((((K.out.alloc _).alloc _).alloc _).alloc _).below hbel) | replace K := Lib.hid (K.out.drew.below hbel) | replace K := Lib.hid ((K.out.drewN _).below hbel)); clear hbel))
    go_ret
    exact ⟨rfl, K.out.since⟩
  have FW : Hid (∀ A c w, Rr w A c la → Calls Try.prog 20 #[.int .i64 k, .int .i64 m, .slice A la.length c] w fun e w' => e = .returned (.bool true) ∧ Below w.heap.size w w') := fun A c w h => few_any k m A c la true w hk hm h (by simp [hf])
  by_cases h20 : la.length ≤ 20
  rotate_left
  · have d20 : (20 : Int) < (la.length : Int) := by omega
    clear hf h20
    have K := Lib.hid (Lk.start w)
    replace K := Lib.hid (K.out.rr' ha)
    clear ha
    go_enter Try.func4, Try.ntmps4
    go_wp2_with (first
      | (go_at_call 19; (with_reducible refine (awake7 _).mono ?_); rintro e w1 ⟨rfl, hbel⟩; (first | replace K := Lib.hid (K.out.below hbel) | replace K := Lib.hid ((K.out.alloc _).below hbel) | replace K := Lib.hid (((K.out.alloc _).alloc _).below hbel) | replace K := Lib.hid ((((K.out.alloc _).alloc _).alloc _).below hbel) | replace K := Lib.hid (((((K.out.alloc _).alloc _).alloc _).alloc _).below hbel) | replace K := Lib.hid (K.out.drew.below hbel) | replace K := Lib.hid ((K.out.drewN _).below hbel)); clear hbel)
      | (go_at_call 6; (with_reducible refine (new_any _).mono ?_); rintro e w2 ⟨rfl, hbel, hg⟩; (first | replace K := Lib.hid (K.out.below hbel) | replace K := Lib.hid ((K.out.alloc _).below hbel) | replace K := Lib.hid (((K.out.alloc _).alloc _).below hbel) | replace K := Lib.hid ((((K.out.alloc _).alloc _).alloc _).below hbel) | replace K := Lib.hid (((((K.out.alloc _).alloc _).alloc _).alloc _).below hbel) | replace K := Lib.hid (K.out.drew.below hbel) | replace K := Lib.hid ((K.out.drewN _).below hbel)); clear hbel; replace K := Lib.hid (K.out.withF hg); clear hg)
      | (go_at_call 20; (with_reducible refine (FW.out _ _ _ ?_).mono ?_); (first | exact K.out.at (.head _) | exact (K.out.alloc _).at (.head _) | exact ((K.out.alloc _).alloc _).at (.head _) | exact (((K.out.alloc _).alloc _).alloc _).at (.head _) | exact ((((K.out.alloc _).alloc _).alloc _).alloc _).at (.head _) | exact K.out.drew.at (.head _) | exact (K.out.drewN _).at (.head _)); rintro e w3 ⟨rfl, hbel⟩; (first | replace K := Lib.hid (K.out.below hbel) | replace K := Lib.hid ((K.out.alloc _).below hbel) | replace K := Lib.hid (((K.out.alloc _).alloc _).below hbel) | replace K := Lib.hid ((((K.out.alloc _).alloc _).alloc _).below hbel) | replace K := Lib.hid (((((K.out.alloc _).alloc _).alloc _).alloc _).below hbel) | replace K := Lib.hid (K.out.drew.below hbel) | replace K := Lib.hid ((K.out.drewN _).below hbel)); clear hbel))
    go_ret
    exact ⟨rfl, K.out.since⟩
  have d20 : ¬ (20 : Int) < (la.length : Int) := by omega
  by_cases h30 : has.length ≤ 300
  rotate_left
  · have d30 : (300 : Int) < (has.length : Int) := by omega
    clear hf h20 h30
    have K := Lib.hid (Lk.start w)
    replace K := Lib.hid (K.out.rr' ha)
    clear ha
    go_enter Try.func4, Try.ntmps4
    go_wp2_with (first
      | (go_at_call 19; (with_reducible refine (awake7 _).mono ?_); rintro e w1 ⟨rfl, hbel⟩; (first | replace K := Lib.hid (K.out.below hbel) | replace K := Lib.hid ((K.out.alloc _).below hbel) | replace K := Lib.hid (((K.out.alloc _).alloc _).below hbel) | replace K := Lib.hid ((((K.out.alloc _).alloc _).alloc _).below hbel) | replace K := Lib.hid (((((K.out.alloc _).alloc _).alloc _).alloc _).below hbel) | replace K := Lib.hid (K.out.drew.below hbel) | replace K := Lib.hid ((K.out.drewN _).below hbel)); clear hbel)
      | (go_at_call 6; (with_reducible refine (new_any _).mono ?_); rintro e w2 ⟨rfl, hbel, hg⟩; (first | replace K := Lib.hid (K.out.below hbel) | replace K := Lib.hid ((K.out.alloc _).below hbel) | replace K := Lib.hid (((K.out.alloc _).alloc _).below hbel) | replace K := Lib.hid ((((K.out.alloc _).alloc _).alloc _).below hbel) | replace K := Lib.hid (((((K.out.alloc _).alloc _).alloc _).alloc _).below hbel) | replace K := Lib.hid (K.out.drew.below hbel) | replace K := Lib.hid ((K.out.drewN _).below hbel)); clear hbel; replace K := Lib.hid (K.out.withF hg); clear hg)
      | (go_at_call 20; (with_reducible refine (FW.out _ _ _ ?_).mono ?_); (first | exact K.out.at (.head _) | exact (K.out.alloc _).at (.head _) | exact ((K.out.alloc _).alloc _).at (.head _) | exact (((K.out.alloc _).alloc _).alloc _).at (.head _) | exact ((((K.out.alloc _).alloc _).alloc _).alloc _).at (.head _) | exact K.out.drew.at (.head _) | exact (K.out.drewN _).at (.head _)); rintro e w3 ⟨rfl, hbel⟩; (first | replace K := Lib.hid (K.out.below hbel) | replace K := Lib.hid ((K.out.alloc _).below hbel) | replace K := Lib.hid (((K.out.alloc _).alloc _).below hbel) | replace K := Lib.hid ((((K.out.alloc _).alloc _).alloc _).below hbel) | replace K := Lib.hid (((((K.out.alloc _).alloc _).alloc _).alloc _).below hbel) | replace K := Lib.hid (K.out.drew.below hbel) | replace K := Lib.hid ((K.out.drewN _).below hbel)); clear hbel))
    go_ret
    exact ⟨rfl, K.out.since⟩
  have d30 : ¬ (300 : Int) < (has.length : Int) := by omega
  have hla := hf.le
  obtain ⟨X, E, hc1, h1⟩ := dec_out k m has la hk hm hla
  have h2 := ref07_out k m has la X E hk hm hla hc1
  have HD1 := Lib.hid h1
  have HD2 := Lib.hid h2
  have hXn : X.length ≤ 900 := hc1.len
  have SM : Hid (∀ A c A' c' w, Rr w A c X → Rr w A' c' X → Calls Try.prog 23 #[.slice A X.length c, .slice A' X.length c'] w fun e w' => e = .returned (.bool true) ∧ Below w.heap.size w w') := fun A c A' c' w h h' => same_out X X true (by simp) hXn A c A' c' w h h'
  have dE : (E == E) = true := (beq_iff_eq (a := E) (b := E)).2 rfl
  clear hc1 h1 h2 hf hla h20 h30
  have K := Lib.hid (Lk.start w)
  replace K := Lib.hid (K.out.rr' ha)
  clear ha
  go_enter Try.func4, Try.ntmps4
  go_wp2_with (first
    | (go_at_call 19; (with_reducible refine (awake7 _).mono ?_); rintro e w1 ⟨rfl, hbel⟩; (first | replace K := Lib.hid (K.out.below hbel) | replace K := Lib.hid ((K.out.alloc _).below hbel) | replace K := Lib.hid (((K.out.alloc _).alloc _).below hbel) | replace K := Lib.hid ((((K.out.alloc _).alloc _).alloc _).below hbel) | replace K := Lib.hid (((((K.out.alloc _).alloc _).alloc _).alloc _).below hbel) | replace K := Lib.hid (K.out.drew.below hbel) | replace K := Lib.hid ((K.out.drewN _).below hbel)); clear hbel)
    | (go_at_call 6; (with_reducible refine (new_any _).mono ?_); rintro e w2 ⟨rfl, hbel, hg⟩; (first | replace K := Lib.hid (K.out.below hbel) | replace K := Lib.hid ((K.out.alloc _).below hbel) | replace K := Lib.hid (((K.out.alloc _).alloc _).below hbel) | replace K := Lib.hid ((((K.out.alloc _).alloc _).alloc _).below hbel) | replace K := Lib.hid (((((K.out.alloc _).alloc _).alloc _).alloc _).below hbel) | replace K := Lib.hid (K.out.drew.below hbel) | replace K := Lib.hid ((K.out.drewN _).below hbel)); clear hbel; replace K := Lib.hid (K.out.withF hg); clear hg)
    | (go_at_call 20; (with_reducible refine (FW.out _ _ _ ?_).mono ?_); (first | exact K.out.at (.head _) | exact (K.out.alloc _).at (.head _) | exact ((K.out.alloc _).alloc _).at (.head _) | exact (((K.out.alloc _).alloc _).alloc _).at (.head _) | exact ((((K.out.alloc _).alloc _).alloc _).alloc _).at (.head _) | exact K.out.drew.at (.head _) | exact (K.out.drewN _).at (.head _)); rintro e w3 ⟨rfl, hbel⟩; (first | replace K := Lib.hid (K.out.below hbel) | replace K := Lib.hid ((K.out.alloc _).below hbel) | replace K := Lib.hid (((K.out.alloc _).alloc _).below hbel) | replace K := Lib.hid ((((K.out.alloc _).alloc _).alloc _).below hbel) | replace K := Lib.hid (((((K.out.alloc _).alloc _).alloc _).alloc _).below hbel) | replace K := Lib.hid (K.out.drew.below hbel) | replace K := Lib.hid ((K.out.drewN _).below hbel)); clear hbel)
    | (go_at_call 21; (with_reducible refine (HD1.out _ _ _ _ _ _ ?_ ?_ ?_).mono ?_); (first | exact K.out.gf | exact (K.out.alloc _).gf | exact K.out.drew.gf | exact ((K.out.alloc _).alloc _).gf | exact (((K.out.alloc _).alloc _).alloc _).gf | exact (((((K.out.alloc _).alloc _).alloc _).alloc _)).gf); (first | exact HH.out.below K.out.since | exact HH.out.below (K.out.alloc _).since | exact HH.out.below ((K.out.alloc _).alloc _).since | exact HH.out.below (((K.out.alloc _).alloc _).alloc _).since | exact HH.out.below ((((K.out.alloc _).alloc _).alloc _).alloc _).since | exact HH.out.below K.out.drew.since | exact HH.out.below (K.out.drewN _).since); (first | exact K.out.at (.head _) | exact (K.out.alloc _).at (.head _) | exact ((K.out.alloc _).alloc _).at (.head _) | exact (((K.out.alloc _).alloc _).alloc _).at (.head _) | exact ((((K.out.alloc _).alloc _).alloc _).alloc _).at (.head _) | exact K.out.drew.at (.head _) | exact (K.out.drewN _).at (.head _)); rintro e w4 ⟨Ax, cx, rfl, hr, hbel⟩; (first | replace K := Lib.hid (K.out.below hbel) | replace K := Lib.hid ((K.out.alloc _).below hbel) | replace K := Lib.hid (((K.out.alloc _).alloc _).below hbel) | replace K := Lib.hid ((((K.out.alloc _).alloc _).alloc _).below hbel) | replace K := Lib.hid (((((K.out.alloc _).alloc _).alloc _).alloc _).below hbel) | replace K := Lib.hid (K.out.drew.below hbel) | replace K := Lib.hid ((K.out.drewN _).below hbel)); replace K := Lib.hid (K.out.rr' hr); clear hr; clear hbel)
    | (go_at_call 22; (with_reducible refine (HD2.out _ _ _ _ _ ?_ ?_).mono ?_); (first | exact HH.out.below K.out.since | exact HH.out.below (K.out.alloc _).since | exact HH.out.below ((K.out.alloc _).alloc _).since | exact HH.out.below (((K.out.alloc _).alloc _).alloc _).since | exact HH.out.below ((((K.out.alloc _).alloc _).alloc _).alloc _).since | exact HH.out.below K.out.drew.since | exact HH.out.below (K.out.drewN _).since); (first | exact K.out.at (.tail _ (.head _)) | exact (K.out.alloc _).at (.tail _ (.head _)) | exact ((K.out.alloc _).alloc _).at (.tail _ (.head _)) | exact (((K.out.alloc _).alloc _).alloc _).at (.tail _ (.head _)) | exact ((((K.out.alloc _).alloc _).alloc _).alloc _).at (.tail _ (.head _)) | exact K.out.drew.at (.tail _ (.head _)) | exact (K.out.drewN _).at (.tail _ (.head _))); rintro e w5 ⟨Ay, cy, rfl, hr, hbel⟩; (first | replace K := Lib.hid (K.out.below hbel) | replace K := Lib.hid ((K.out.alloc _).below hbel) | replace K := Lib.hid (((K.out.alloc _).alloc _).below hbel) | replace K := Lib.hid ((((K.out.alloc _).alloc _).alloc _).below hbel) | replace K := Lib.hid (((((K.out.alloc _).alloc _).alloc _).alloc _).below hbel) | replace K := Lib.hid (K.out.drew.below hbel) | replace K := Lib.hid ((K.out.drewN _).below hbel)); replace K := Lib.hid (K.out.rr' hr); clear hr; clear hbel)
    | (go_at_call 23; (with_reducible refine (SM.out _ _ _ _ _ ?_ ?_).mono ?_); (first | exact K.out.at (.tail _ (.head _)) | exact (K.out.alloc _).at (.tail _ (.head _)) | exact ((K.out.alloc _).alloc _).at (.tail _ (.head _)) | exact (((K.out.alloc _).alloc _).alloc _).at (.tail _ (.head _)) | exact ((((K.out.alloc _).alloc _).alloc _).alloc _).at (.tail _ (.head _)) | exact K.out.drew.at (.tail _ (.head _)) | exact (K.out.drewN _).at (.tail _ (.head _))); (first | exact K.out.at (.head _) | exact (K.out.alloc _).at (.head _) | exact ((K.out.alloc _).alloc _).at (.head _) | exact (((K.out.alloc _).alloc _).alloc _).at (.head _) | exact ((((K.out.alloc _).alloc _).alloc _).alloc _).at (.head _) | exact K.out.drew.at (.head _) | exact (K.out.drewN _).at (.head _)); rintro e w6 ⟨rfl, hbel⟩; (first | replace K := Lib.hid (K.out.below hbel) | replace K := Lib.hid ((K.out.alloc _).below hbel) | replace K := Lib.hid (((K.out.alloc _).alloc _).below hbel) | replace K := Lib.hid ((((K.out.alloc _).alloc _).alloc _).below hbel) | replace K := Lib.hid (((((K.out.alloc _).alloc _).alloc _).alloc _).below hbel) | replace K := Lib.hid (K.out.drew.below hbel) | replace K := Lib.hid ((K.out.drewN _).below hbel)); clear hbel))
  go_ret
  exact ⟨rfl, K.out.since⟩
end Go.Proofs.Ytbepadepepoilaa
