/- The closure of keyeq.Solve: one of Euclid's steps, walked. -/
import Derived.Test.YtmcamamfpefffaaK6
namespace Go.Proofs.Ytmcamamfpefffaa
open Go.RowKit
set_option linter.unusedVariables false
set_option linter.unusedSimpArgs false
def StepR (P : S) (m e : Nat) (wb : World) (fb q0 q1 q2 q3 q4 : Nat) (hi bb : Row) (w' : World) : Prop :=
  ∃ r' b' : Row, Ke wb w' fb q0 q1 q2 q3 q4 hi r' b' bb ∧ Eu P m e hi.2.2 r'.2.2 bb.2.2 b'.2.2
set_option maxRecDepth 1000000 in
set_option maxHeartbeats 40000000 in
theorem key_step (P : S) (m e : Nat) (wb w : World) (fb q0 q1 q2 q3 q4 : Nat) (lo hi bb aa : Row) (h : Ke wb w fb q0 q1 q2 q3 q4 lo hi bb aa) (hE : Eu P m e lo.2.2 hi.2.2 aa.2.2 bb.2.2) (hgo : e + bb.2.2.length ≤ hi.2.2.length) (hm : m ≤ 1000) :
    Calls Try.prog 28 #[.pointer (some ⟨q0, 0, none⟩), .pointer (some ⟨q1, 0, none⟩), .pointer (some ⟨q2, 0, none⟩), .pointer (some ⟨q3, 0, none⟩), .pointer (some ⟨q4, 0, none⟩)] w fun ed w' => ed = .returned (.tuple #[]) ∧ StepR P m e wb fb q0 q1 q2 q3 q4 hi bb w' := by
  have K := Lib.hid h
  have hdg := hE.deg
  have hlt := hE.lt
  have hal := hE.al
  have DIV : Hid (∀ w', Ke wb w' fb q0 q1 q2 q3 q4 lo hi bb aa → Calls Try.prog 29 #[fp fb, rowV lo, rowV hi] w' fun ed w'' => ∃ (s r : List F) (A' : Option Addr) (c' : Nat) (A'' : Option Addr) (c'' : Nat), ed = .returned (.tuple #[.slice A' s.length c', .slice A'' r.length c'', .int .i64 0]) ∧ IsDiv lo.2.2 hi.2.2 s r ∧ Bs w'' A' c' s ∧ Bs w'' A'' c'' r ∧ Below w'.heap.size w' w'') := fun w' k =>
    poly_divide fb lo.1 lo.2.1 lo.2.2 hi.1 hi.2.1 hi.2.2 w' k.gf k.s1 k.s2 (by omega) (by omega) (by rw [hE.nh]; intro q; have q2 := congrArg List.length q; simp only [List.length_nil] at q2; omega)
  have MUL : Hid (∀ (A : Option Addr) (c : Nat) (q : List F) w' (lo' hi' : Row), Ke wb w' fb q0 q1 q2 q3 q4 lo' hi' bb aa → Bs w' A c q → q.length ≤ 1000000 → Calls Try.prog 18 #[fp fb, .slice A q.length c, rowV bb] w' fun ed w'' => ∃ A' c', ed = .returned (.slice A' (norm (pmul q bb.2.2)).length c') ∧ Bs w'' A' c' (norm (pmul q bb.2.2)) ∧ Below w'.heap.size w' w'') := fun A c q w' lo' hi' k hq hl =>
    (poly_mul fb A c q bb.1 bb.2.1 bb.2.2 w' k.gf hq k.s3 hl (by omega)).mono fun ed w'' ⟨A', c', he, hm⟩ => ⟨A', c', he, hm.bs, hm.bel⟩
  have ADD : Hid (∀ (A : Option Addr) (c : Nat) (q : List F) w' (lo' hi' : Row), Ke wb w' fb q0 q1 q2 q3 q4 lo' hi' bb aa → Bs w' A c q → q.length ≤ 1000000 → Calls Try.prog 30 #[rowV aa, .slice A q.length c] w' fun ed w'' => ∃ A' c', ed = .returned (.slice A' (norm (padd aa.2.2 q)).length c') ∧ Bs w'' A' c' (norm (padd aa.2.2 q)) ∧ Below w'.heap.size w' w'') := fun A c q w' lo' hi' k hq hl =>
    (poly_add aa.1 aa.2.1 aa.2.2 A c q w' k.s4 hq (by omega) (by omega)).mono fun ed w'' ⟨A', c', he, hm⟩ => ⟨A', c', he, hm.bs, hm.bel⟩
  have HE := Lib.hid hE
  have HGO := Lib.hid hgo
  have QL : Hid (∀ s r, IsDiv lo.2.2 hi.2.2 s r → s.length ≤ 2000 ∧ (norm (pmul s bb.2.2)).length ≤ 4000) := fun s r hd => by
    have h1 := div_len hd HE.out.nl HE.out.nh hlt
    have h2 := length_norm_le (pmul s bb.2.2)
    have h3 := length_pmul_le' s bb.2.2
    omega
  clear h hE hgo hdg hlt hal
  obtain ⟨c0, c1, c2, c3, c4, z1, z2, z3, z4⟩ := K.out.cells
  have n12 := K.out.ne.1.1
  have n34 := K.out.ne.2.2
  unfold fp at DIV MUL c0
  obtain ⟨Xl, nl, yl, hvl⟩ : ∃ A n c, rowV lo = .slice A n c := ⟨_, _, _, rfl⟩
  obtain ⟨Xh, nh, yh, hvh⟩ : ∃ A n c, rowV hi = .slice A n c := ⟨_, _, _, rfl⟩
  obtain ⟨Xb, nb, yb, hvb⟩ : ∃ A n c, rowV bb = .slice A n c := ⟨_, _, _, rfl⟩
  obtain ⟨Xa, na, ya, hva⟩ : ∃ A n c, rowV aa = .slice A n c := ⟨_, _, _, rfl⟩
  rw [hvl] at c1 DIV
  rw [hvh] at c2 DIV
  rw [hvb] at c3 MUL
  rw [hva] at c4 ADD
  have HVH := Lib.hid hvh
  have HVB := Lib.hid hvb
  have HVA := Lib.hid hva
  clear hvl hvh hvb hva
  go_enter Try.func28, Try.ntmps28
  go_wp2_with (go_at_call 29; (with_reducible refine (DIV.out _ K.out).mono ?_); rintro ed w1 ⟨s, r, A1, d1, A2, d2, rfl, hd, hs, hr, hb⟩; have K1 := Lib.hid (K.out.below hb); have HD := Lib.hid hd; have S1 := Lib.hid hs; have R1 := Lib.hid hr; have q1b := (QL.out s r hd).1; have q2b := (QL.out s r hd).2; clear hd hs hr hb; clear c0 c1 c2 c3 c4 z1 z2 z3 z4; obtain ⟨c0, c1, c2, c3, c4, z1, z2, z3, z4⟩ := K1.out.cells; unfold fp at c0; rw [HVH.out] at c2; rw [HVB.out] at c3; rw [HVA.out] at c4)
  have K2 : Hid (Ke wb ((w1.setCell ⟨q1, 0, none⟩ (.slice Xh nh yh)).setCell ⟨q2, 0, none⟩ (.slice A2 r.length d2)) fb q0 q1 q2 q3 q4 hi (A2, d2, r) bb aa) := by
    have k := (K1.out.put1 (r := hi) K1.out.s2).put2 (r := (A2, d2, r)) (Bs.apart R1.out K1.out.k1 _)
    rw [HVH.out] at k
    exact k
  have S2 : Hid (Bs ((w1.setCell ⟨q1, 0, none⟩ (.slice Xh nh yh)).setCell ⟨q2, 0, none⟩ (.slice A2 r.length d2)) A1 d1 s) := by
    have k1 := K1.out.put1 (r := hi) K1.out.s2
    rw [HVH.out] at k1
    exact Bs.apart (by have := Bs.apart S1.out K1.out.k1 (.slice Xh nh yh); exact this) k1.k2 _
  clear S1 R1 K1 K
  clear c0 c1 c2 c3 c4 z1 z2 z3 z4
  obtain ⟨c0, c1, c2, c3, c4, z1, z2, z3, z4⟩ := K2.out.cells
  unfold fp at c0
  rw [HVB.out] at c3
  rw [HVA.out] at c4
  obtain ⟨w2, hw2⟩ : ∃ w2, ((w1.setCell ⟨q1, 0, none⟩ (.slice Xh nh yh)).setCell ⟨q2, 0, none⟩ (.slice A2 r.length d2)) = w2 := ⟨_, rfl⟩
  rw [hw2] at K2 S2 c0 c1 c2 c3 c4 z1 z2 z3 z4 ⊢
  clear hw2
  have n43 := n34.symm
  have FIN : Hid (∀ (w5 : World) (A5 : Option Addr) (d5 : Nat), Ke wb w5 fb q0 q1 q2 q3 q4 hi (A2, d2, r) bb aa → Bs w5 A5 d5 (norm (padd aa.2.2 (norm (pmul s bb.2.2)))) → StepR P m e wb fb q0 q1 q2 q3 q4 hi bb ((w5.setCell ⟨q4, 0, none⟩ (.slice Xb nb yb)).setCell ⟨q3, 0, none⟩ (.slice A5 (norm (padd aa.2.2 (norm (pmul s bb.2.2)))).length d5))) := fun w5 A5 d5 k5 sm => by
    have k := (k5.put4 (r := bb) k5.s3).put3 (r := (A5, d5, norm (padd aa.2.2 (norm (pmul s bb.2.2))))) (Bs.apart sm k5.k4 _)
    rw [HVB.out] at k
    exact ⟨(A2, d2, r), (A5, d5, norm (padd aa.2.2 (norm (pmul s bb.2.2)))), k, HE.out.step HGO.out HD.out⟩
  clear HE HGO HD DIV QL
  go_region_law (first
    | (go_simp; go_at_call 18; (with_reducible refine (MUL.out _ _ s _ hi (A2, d2, r) ?_ ?_ (by omega)).mono ?_); (exact K2.out.drewN 1); (exact Sl.drewN S2.out 1); rintro ed w4 ⟨A4, d4, rfl, hs, hb⟩; have K4 := Lib.hid ((K2.out.drewN 1).below hb); have S4 := Lib.hid hs; clear hs hb; clear c0 c1 c2 c3 c4 z1 z2 z3 z4; obtain ⟨c0, c1, c2, c3, c4, z1, z2, z3, z4⟩ := K4.out.cells; unfold fp at c0; rw [HVB.out] at c3; rw [HVA.out] at c4)
    | (go_simp; go_at_call 30; (with_reducible refine (ADD.out _ _ _ _ _ _ K4.out S4.out (by omega)).mono ?_); rintro ed w5 ⟨A5, d5, rfl, hs, hb⟩; have K5 := Lib.hid (K4.out.below hb); have S5 := Lib.hid hs; clear hs hb; clear c0 c1 c2 c3 c4 z1 z2 z3 z4; obtain ⟨c0, c1, c2, c3, c4, z1, z2, z3, z4⟩ := K5.out.cells; unfold fp at c0; rw [HVB.out] at c3; rw [HVA.out] at c4))
  all_goals
    go_wp2
    go_end0
    exact ⟨rfl, FIN.out _ _ _ K5.out S5.out⟩
end Go.Proofs.Ytmcamamfpefffaa
