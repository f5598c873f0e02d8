/- bulk.Update, walked. -/
import Derived.Test.YtmkjplpnoohfnaaRowP
namespace Go.Proofs.Ytmkjplpnoohfnaa
open Go.RowKit
set_option linter.unusedVariables false
set_option linter.unusedSimpArgs false
theorem Bss.cons {w : World} {vs : List Value} {ls : List (List F)} (h : Bss w vs ls) {A : Option Addr} {c n : Nat} {l : List F} (hb : Bs w A c l) (hn : l.length = n) : Bss w (.slice A n c :: vs) (l :: ls) := by
  subst hn
  refine ⟨by simp [h.1], fun i m hm => ?_⟩
  cases i with
  | zero => simp at hm; subst hm; exact ⟨A, c, rfl, hb⟩
  | succ i => obtain ⟨A', c', h1, h2⟩ := h.2 i m (by simpa using hm); exact ⟨A', c', by simpa using h1, h2⟩
theorem Bss.nil (w : World) : Bss w [] [] := ⟨rfl, fun i l h => by simp at h⟩
theorem Bss.append {w : World} {vs us : List Value} {ls ms : List (List F)} (h : Bss w vs ls) (h' : Bss w us ms) : Bss w (vs ++ us) (ls ++ ms) := by
  refine ⟨by simp [h.1, h'.1], fun i l hl => ?_⟩
  rcases Nat.lt_or_ge i ls.length with e | e
  · rw [List.getElem?_append_left e] at hl
    obtain ⟨A, c, h1, h2⟩ := h.2 i l hl
    exact ⟨A, c, by rw [List.getElem?_append_left (by rw [h.1]; exact e)]; exact h1, h2⟩
  · rw [List.getElem?_append_right e] at hl
    obtain ⟨A, c, h1, h2⟩ := h'.2 _ l hl
    exact ⟨A, c, by rw [List.getElem?_append_right (by rw [h.1]; exact e), h.1]; exact h1, h2⟩
theorem Bss.one {w : World} {vs : List Value} {ls : List (List F)} (h : Bss w vs ls) : ∀ u ∈ vs, u.oneCell' = true := fun u hu => by
  obtain ⟨i, hi, rfl⟩ := List.mem_iff_getElem.1 hu
  obtain ⟨A, c, h1, _⟩ := h.2 i (ls[i]'(by rw [← h.1]; exact hi)) (List.getElem?_eq_getElem _)
  rw [List.getElem?_eq_getElem hi] at h1
  injection h1 with h1
  rw [h1]; rfl
theorem own_lit (w : World) (vs : List Value) (n : Nat) (hn : vs.length = n) (hb : n ≤ 1000) : (w.alloc (.cells vs.toArray 28)).ownsRow w.heap.size 28 1 (.slice (some ⟨w.heap.size, 0, none⟩) n n) n vs := by
  subst hn
  exact ⟨by simp, .inr ⟨w.heap.size, vs.length, vs.toArray, rfl, Nat.le_refl _, heap_alloc_new w _, Nat.le_refl _, by unfold maxLen; omega, by simp, by simp⟩⟩
/-- an append of a whole list of shards to a spine -/
theorem app_spines {ops : Array Oper} {rest : List Oper} {o : Oper} {a : Act} {Q : Exit → Act → World → Prop} (w : World) (hg : o.guard = none) (s x : Operand)
    (ho : o.op = .call { callee := .builtin .append, args := #[s, x], argTypes := #[61, 61] })
    (B : Nat) (A1 : Option Addr) (c1 n : Nat) (xs : List Value) (hs : a.eval s = .slice A1 n c1) (hown : w.ownsRow B 28 1 (.slice A1 n c1) n xs)
    (A : Option Addr) (c m : Nat) (us : List Value) (hx : a.eval x = .slice A m c) (hl : Sl w A c us) (hm : us.length = m) (hu : ∀ u ∈ us, u.oneCell' = true) (hN : n + m ≤ 100000) (hB : B ≤ w.heap.size)
    (hK : ∀ A' c' w', w'.ownsRow B 28 1 (.slice A' (n + m) c') (n + m) (xs ++ us) → w.grownBy w' (Value.slice A1 n c1).ownBlock → wpList Try.prog ops Q rest (a.put o.dst (.slice A' (n + m) c')) w') : wpList Try.prog ops Q (o :: rest) a w := by
  subst hm
  refine app_sl w hg s x 61 ho B 28 (.slice none 0 0) 24 Try.underlying61 info_row rfl _ n xs hs hown A c us hx hl hu (by decide) (by omega) hB ?_
  intro v' w' h1 h2
  obtain ⟨A', c', rfl⟩ := own_form h1
  exact hK A' c' w' h1 h2
theorem below_lit {w w' : World} {o : Obj} {n c : Nat} (hg : (w.alloc o).grownBy w' (Value.slice (some ⟨w.heap.size, 0, none⟩) n c).ownBlock) : Below w.heap.size w w' :=
  (below_alloc w o).grown hg (by simp) fun k hk => by simp only [Value.ownBlock, Option.some.injEq] at hk; omega
theorem len_mapR {h : Nat → Nat → F → F} {ls : List (List F)} {L : Nat} (hl : ∀ l, l ∈ ls → l.length = L) : ∀ l, l ∈ mapR h ls → l.length = L := fun l hm => by
  obtain ⟨i, hi⟩ := List.mem_iff_getElem?.1 hm
  unfold mapR at hi
  rw [List.getElem?_mapIdx] at hi
  cases e : ls[i]? with
  | none => rw [e] at hi; cases hi
  | some l' =>
    rw [e] at hi
    simp only [Option.map_some, Option.some.injEq] at hi
    rw [← hi, length_tab]
    exact hl _ (List.mem_of_getElem? e)
/-- parity rows behind an update -/
def updR (k j : Nat) (l1 l2 : List F) (ls : List (List F)) : List (List F) := mapR (addH (parF k) j l2) (mapR (addH (parF k) j l1) ls)
set_option maxRecDepth 1000000 in
set_option maxHeartbeats 4000000 in
theorem bulk_update (b k m j L : Nat) (A1 : Option Addr) (c1 : Nat) (l1 : List F) (A2 : Option Addr) (c2 : Nat) (l2 : List F) (A : Option Addr) (c : Nat) (vs : List Value) (ls : List (List F)) (w : World) (hkm : okkm k m) (hg : GfAt w b) (h1 : Bs w A1 c1 l1) (h2 : Bs w A2 c2 l2) (ha : Sl w A c vs) (hb : Bss w vs ls) (hj : j < k) (hk : Alk (l1 :: l2 :: ls) ((m : Int) + 2)) (hL1 : l1.length = L) (hLb : L ≤ 100000) :
    Calls Try.prog 76 #[fp b, .int .i64 k, .int .i64 m, .int .i64 j, .slice A1 L c1, .slice A2 L c2, .slice A m c] w fun e w' => ∃ A' c' rs, e = .returned (.tuple #[.slice A' m c', .int .i64 0]) ∧ lsts rs = updR k j l1 l2 ls ∧ MadeR w w' A' m c' rs := by
  obtain ⟨hk1, hm0, hkm256⟩ := id hkm
  have hkb : k + m ≤ 256 := by omega
  have hn : ls.length = m := by have := hk.1; simp only [List.length_cons] at this; omega
  have hlen : ∀ i, i < m + 2 → lenAt (l1 :: l2 :: ls) i = L := fun i hi => by
    rw [hk.2 i (by simp only [List.length_cons]; omega)]; exact hL1
  have hL2 : l2.length = L := hlen 1 (by omega)
  have hrow : ∀ l, l ∈ ls → l.length = L := fun l hl => by
    obtain ⟨i, hi, rfl⟩ := List.mem_iff_getElem.1 hl
    have := hlen (i + 2) (by omega)
    unfold lenAt at this
    rwa [List.getD_eq_getElem?_getD, List.getElem?_cons_succ, List.getElem?_cons_succ, List.getElem?_eq_getElem hi] at this
  have CK : Hid (∀ w' A' c', Below w.heap.size w w' → Sl w' A' c' ([.slice A1 L c1, .slice A2 L c2] ++ vs) → Calls Try.prog 109 #[fp b, .int .i64 k, .int .i64 m, .int .i64 ((m : Int) + 2), .slice A' (2 + m) c'] w' fun e w'' => ∃ A' c', e = .returned (.tuple #[.agg #[.int .i64 (m : Int), .int .i64 (k : Int), .slice A' (m * k) c'], .int .i64 0]) ∧ Bs w'' A' c' (matL m k (parF k)) ∧ Below w'.heap.size w' w'') := fun w' A' c' hw hs =>
    bulk_checked_yes b k m _ A' (2 + m) c' _ (l1 :: l2 :: ls) w' hkm (hg.below hw) hs (((hb.below hw).cons (h2.below hw) hL2).cons (h1.below hw) hL1) (by simp only [List.length_cons]; omega) (by omega) hk
  have OW : Hid (∀ w', Below w.heap.size w w' → Calls Try.prog 110 #[.slice A m c] w' fun e w'' => ∃ A' c' rs, e = .returned (.slice A' m c') ∧ lsts rs = ls ∧ MadeR w' w'' A' m c' rs) := fun w' hw => bulk_own A m c vs ls w' (ha.below hw) (hb.below hw) hn (by omega) (fun l hl => by rw [hrow l hl]; exact hLb)
  have AD : Hid (∀ mk Ap cp A n c w, Calls Try.prog 111 #[fp b, matV m k Ap mk cp, .slice A n c] w fun e w' => ∃ bf bp bt, e = .returned (.func (.func 122) #[] #[.pointer (some ⟨bt, 0, none⟩), .pointer (some ⟨bp, 0, none⟩), .pointer (some ⟨bf, 0, none⟩)]) ∧ Kn w' none [(bf, 23, #[fp b]), (bp, 30, #[.int .i64 m, .int .i64 k, .slice Ap mk cp]), (bt, 61, #[.slice A n c])] [] ∧ Below w.heap.size w w') := fun mk Ap cp A n c w => adder_make b m k Ap mk cp A n c w
  have HA := Lib.hid ha
  have HB := Lib.hid hb
  have H1 := Lib.hid h1
  have H2 := Lib.hid h2
  have HN := Lib.hid hn
  have HGF := Lib.hid hg
  have HL1 := Lib.hid hL1
  have HL2 := Lib.hid hL2
  have HR := Lib.hid hrow
  have HVN : Hid (vs.length = m) := hb.1.trans hn
  clear ha hb hn hk hrow hkm hg h1 h2 hL1 hL2 hm0 hkm256 hlen
  have hj0 : ¬ (j : Int) < 0 := by omega
  have hjk : ¬ (k : Int) ≤ (j : Int) := by omega
  unfold fp at CK AD ⊢
  unfold matV at AD
  obtain ⟨mk, hmk⟩ : ∃ mk, m * k = mk := ⟨_, rfl⟩
  have HMK := Lib.hid hmk
  rw [hmk] at CK
  clear hmk
  have OL := Lib.hid (own_lit w [.slice A1 L c1, .slice A2 L c2] 2 rfl (by decide))
  go_enter Try.func76, Try.ntmps76
  go_wp2_with (first
    | (at_builtin; refine app_spines _ rfl _ _ rfl w.heap.size (some ⟨w.heap.size, 0, none⟩) 2 2 [.slice A1 L c1, .slice A2 L c2] rfl OL.out A c m vs rfl (HA.out.alloc _) HVN.out HB.out.one (by omega) (by simp) ?_; intro Aa ca wa hoa hga; have SA := Lib.hid (own_sl hoa); have BA := Lib.hid (below_lit hga); clear hoa hga)
    | (go_at_call 109; (with_reducible refine (CK.out _ _ _ BA.out SA.out).mono ?_); rintro e w1 ⟨Ap, cp, rfl, hbs1, hb1⟩; have BP := Lib.hid (Sl.alloc hbs1 (.cells #[.int .i64 (m : Int), .int .i64 (k : Int), .slice Ap mk cp] 30)); have KP := Lib.hid (Blk.new w1 #[.int .i64 (m : Int), .int .i64 (k : Int), .slice Ap mk cp] 30); have BW : Hid (Below w.heap.size w (w1.alloc (.cells #[.int .i64 (m : Int), .int .i64 (k : Int), .slice Ap mk cp] 30))) := (BA.out.trans (hb1.mono BA.out.size)).alloc (BA.out.trans (hb1.mono BA.out.size)).size _; clear hbs1 hb1)
    | (go_at_call 110; (with_reducible refine (OW.out _ BW.out).mono ?_); rintro e w2 ⟨A0, c0, rs0, rfl, hls0, hm0⟩; have HL0 := Lib.hid hls0; have M0 := Lib.hid hm0; have KQ := Lib.hid (KP.out.below hm0.bel); have p0 := KQ.out.cell 0; have p1 := KQ.out.cell 1; have p2 := KQ.out.cell 2; simp only [List.getElem?_toArray, List.getElem?_cons_succ, List.getElem?_cons_zero] at p0 p1 p2; clear hls0 hm0)
    | (go_at_call 111; (with_reducible refine (AD.out _ _ _ _ _ _ _).mono ?_); rintro e w3 ⟨bf, bp, bt, rfl, hkn, hb3⟩; have KN := Lib.hid hkn; have B3 := Lib.hid hb3; clear hkn hb3))
  have HRS : Hid (rs0.length = m) := by show _ = _; rw [← length_lsts, HL0.out, HN.out]
  generalize w1.alloc (.cells #[.int .i64 (m : Int), .int .i64 (k : Int), .slice Ap mk cp] 30) = W1 at *
  have KEEP : Hid (Keeps rs0 (EncI W1 A0 m c0 [] (vals rs0) (addB b m k Ap mk cp A0 c0 bf bp bt))) := EncI.keeps (w5 := w3) (rs0 := []) (M0.out.gr.below B3.out) (own_below M0.out.sp B3.out) KN.out (addB_ne _ _ _ _ _ _ _ _ _ _ _)
  have ENC : Hid (EncI W1 A0 m c0 [] (vals rs0) (addB b m k Ap mk cp A0 c0 bf bp bt) w3) := ⟨M0.out.bel.trans (B3.out.mono M0.out.bel.size), own_below M0.out.sp B3.out, Grid.nil _ _, KN.out⟩
  have GP : Hid (Grid w3 W1.heap.size rs0) := M0.out.gr.below B3.out
  have AC1 := Lib.hid (add_row L w3 KEEP.out (HGF.out.below BW.out) BP.out HMK.out (fun wx hx => own_sl hx.sp) (H1.out.below BW.out) HL1.out HRS.out hj (by omega) (by omega) hLb ENC.out rfl (fun l' hl' => HR.out l' (by rw [← HL0.out]; exact hl')) GP.out)
  have AC2 : Hid (∀ w4 rs1, EncI W1 A0 m c0 [] (vals rs0) (addB b m k Ap mk cp A0 c0 bf bp bt) w4 → vals rs1 = vals rs0 → lsts rs1 = mapR (addH (parF k) j l1) (lsts rs0) → Grid w4 W1.heap.size rs1 → _) := fun w4 rs1 he hv hl hg4 => add_row (j := j) L w4 KEEP.out (HGF.out.below BW.out) BP.out HMK.out (fun wx hx => own_sl hx.sp) (H2.out.below BW.out) HL2.out HRS.out hj (by omega) (by omega) hLb he hv (fun l' hl' => len_mapR (fun l hl => HR.out l (by rw [← HL0.out]; exact hl)) l' (by rw [← hl]; exact hl')) hg4
  clear AD OW KQ p0 p1 p2 KP
  go_wp2_with (first
    | (go_at_call 122; (with_reducible refine AC1.out.mono ?_); rintro e w4 ⟨rfl, hI4, rp4, hv4, hl4, hg4⟩; have AC3 := Lib.hid (AC2.out w4 rp4 hI4 hv4 hl4 hg4); have HL4 := Lib.hid hl4; clear hI4 hv4 hl4 hg4)
    | (go_at_call 122; (with_reducible refine AC3.out.mono ?_); rintro e w5 ⟨rfl, hI5, rp5, hv5, hl5, hg5⟩; have HI5 := Lib.hid hI5; have HV5 := Lib.hid hv5; have HL5 := Lib.hid hl5; have HG5 := Lib.hid hg5; clear hI5 hv5 hl5 hg5))
  go_ret2
  refine ⟨_, _, rp5, rfl, ?_, MadeR.back ⟨?_, HG5.out, HI5.out.bel⟩ BW.out⟩
  · rw [HL5.out, HL4.out, HL0.out]; rfl
  · rw [HV5.out]; exact HI5.out.sp
end Go.Proofs.Ytmkjplpnoohfnaa
